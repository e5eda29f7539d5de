/- Texts LgTy, N1, N2, N3, N4, N5, N6, N7, N8, N9, N10, N11, R1, R2, R3, R4 of this proof, joined. -/
import Derived.Test.YtfpdccbgngdhkaaGreatQL3
import Derived.Test.YtfpdccbgngdhkaaGreatChecked
set_option linter.unusedVariables false
set_option linter.unusedSimpArgs false
section
set_option linter.unusedVariables false
set_option linter.unusedSimpArgs false
set_option maxHeartbeats 8000000
set_option maxRecDepth 100000
namespace Go.Proofs.YtfpdccbgngdhkaaGreat
open Go.Lg
theorem fol:Tryz.prog.follows .mixedOrders=true:=by kernel_rfl
instance:UN Tryz.prog 2 (.int .i64):=⟨Tryz.underlying2⟩
theorem T2:cF Tryz.prog 2 1 false:=⟨by kernel_rfl,_,Tryz.underlying2,rfl⟩
theorem B2:bU Tryz.prog 2 8:=⟨Tryz.t2,by kernel_rfl,rfl⟩
theorem Z2:bN Tryz.prog 2 (.v (.int .i64 0)):=⟨Tryz.t2,_,by kernel_rfl,rfl,rfl,fun _ _ _=>dF rfl⟩
instance:TI Tryz.prog 2 1 false:=⟨T2⟩
instance:BI Tryz.prog 2 8:=⟨B2⟩
instance:ZI Tryz.prog 2 (.v (.int .i64 0)):=⟨Z2⟩
instance:UN Tryz.prog 3 (.int .i64):=⟨Tryz.underlying3⟩
theorem T3:cF Tryz.prog 3 1 false:=⟨by kernel_rfl,_,Tryz.underlying3,rfl⟩
theorem B3:bU Tryz.prog 3 8:=⟨Tryz.t3,by kernel_rfl,rfl⟩
theorem Z3:bN Tryz.prog 3 (.v (.int .i64 0)):=⟨Tryz.t3,_,by kernel_rfl,rfl,rfl,fun _ _ _=>dF rfl⟩
instance:TI Tryz.prog 3 1 false:=⟨T3⟩
instance:BI Tryz.prog 3 8:=⟨B3⟩
instance:ZI Tryz.prog 3 (.v (.int .i64 0)):=⟨Z3⟩
instance:UN Tryz.prog 4 .bool:=⟨Tryz.underlying4⟩
theorem T4:cF Tryz.prog 4 1 false:=⟨by kernel_rfl,_,Tryz.underlying4,rfl⟩
theorem B4:bU Tryz.prog 4 1:=⟨Tryz.t4,by kernel_rfl,rfl⟩
theorem Z4:bN Tryz.prog 4 (.v (.bool false)):=⟨Tryz.t4,_,by kernel_rfl,rfl,rfl,fun _ _ _=>dF rfl⟩
instance:TI Tryz.prog 4 1 false:=⟨T4⟩
instance:BI Tryz.prog 4 1:=⟨B4⟩
instance:ZI Tryz.prog 4 (.v (.bool false)):=⟨Z4⟩
instance:UN Tryz.prog 5 (.int .u8):=⟨Tryz.underlying5⟩
theorem T5:cF Tryz.prog 5 1 false:=⟨by kernel_rfl,_,Tryz.underlying5,rfl⟩
theorem B5:bU Tryz.prog 5 1:=⟨Tryz.t5,by kernel_rfl,rfl⟩
theorem Z5:bN Tryz.prog 5 (.v (.int .u8 0)):=⟨Tryz.t5,_,by kernel_rfl,rfl,rfl,fun _ _ _=>dF rfl⟩
instance:TI Tryz.prog 5 1 false:=⟨T5⟩
instance:BI Tryz.prog 5 1:=⟨B5⟩
instance:ZI Tryz.prog 5 (.v (.int .u8 0)):=⟨Z5⟩
instance:UN Tryz.prog 9 .string:=⟨Tryz.underlying9⟩
theorem T9:cF Tryz.prog 9 1 false:=⟨by kernel_rfl,_,Tryz.underlying9,rfl⟩
theorem B9:bU Tryz.prog 9 16:=⟨Tryz.t9,by kernel_rfl,rfl⟩
theorem Z9:bN Tryz.prog 9 (.v (.string ⟨#[]⟩)):=⟨Tryz.t9,_,by kernel_rfl,rfl,rfl,fun _ _ _=>dF rfl⟩
instance:TI Tryz.prog 9 1 false:=⟨T9⟩
instance:BI Tryz.prog 9 16:=⟨B9⟩
instance:ZI Tryz.prog 9 (.v (.string ⟨#[]⟩)):=⟨Z9⟩
instance:UN Tryz.prog 12 (.int .u64):=⟨Tryz.underlying12⟩
theorem T12:cF Tryz.prog 12 1 false:=⟨by kernel_rfl,_,Tryz.underlying12,rfl⟩
theorem B12:bU Tryz.prog 12 8:=⟨Tryz.t12,by kernel_rfl,rfl⟩
theorem Z12:bN Tryz.prog 12 (.v (.int .u64 0)):=⟨Tryz.t12,_,by kernel_rfl,rfl,rfl,fun _ _ _=>dF rfl⟩
instance:TI Tryz.prog 12 1 false:=⟨T12⟩
instance:BI Tryz.prog 12 8:=⟨B12⟩
instance:ZI Tryz.prog 12 (.v (.int .u64 0)):=⟨Z12⟩
theorem T15:cF Tryz.prog 15 1 false:=⟨by kernel_rfl,_,Tryz.underlying15,rfl⟩
theorem B15:bU Tryz.prog 15 8:=⟨Tryz.t15,by kernel_rfl,rfl⟩
theorem Z15:bN Tryz.prog 15 (.v (.pointer none)):=⟨Tryz.t15,_,by kernel_rfl,rfl,rfl,fun _ _ _=>dF rfl⟩
instance:TI Tryz.prog 15 1 false:=⟨T15⟩
instance:BI Tryz.prog 15 8:=⟨B15⟩
instance:ZI Tryz.prog 15 (.v (.pointer none)):=⟨Z15⟩
theorem T16:cF Tryz.prog 16 1 false:=⟨by kernel_rfl,_,Tryz.underlying16,rfl⟩
theorem B16:bU Tryz.prog 16 8:=⟨Tryz.t16,by kernel_rfl,rfl⟩
theorem Z16:bN Tryz.prog 16 (.v (.pointer none)):=⟨Tryz.t16,_,by kernel_rfl,rfl,rfl,fun _ _ _=>dF rfl⟩
instance:TI Tryz.prog 16 1 false:=⟨T16⟩
instance:BI Tryz.prog 16 8:=⟨B16⟩
instance:ZI Tryz.prog 16 (.v (.pointer none)):=⟨Z16⟩
theorem T17:cF Tryz.prog 17 1 false:=⟨by kernel_rfl,_,Tryz.underlying17,rfl⟩
theorem B17:bU Tryz.prog 17 8:=⟨Tryz.t17,by kernel_rfl,rfl⟩
theorem Z17:bN Tryz.prog 17 (.v (.pointer none)):=⟨Tryz.t17,_,by kernel_rfl,rfl,rfl,fun _ _ _=>dF rfl⟩
instance:TI Tryz.prog 17 1 false:=⟨T17⟩
instance:BI Tryz.prog 17 8:=⟨B17⟩
instance:ZI Tryz.prog 17 (.v (.pointer none)):=⟨Z17⟩
theorem T19:cF Tryz.prog 19 1 true:=⟨by kernel_rfl,_,Tryz.underlying19,rfl⟩
theorem B19:bU Tryz.prog 19 8:=⟨Tryz.t19,by kernel_rfl,rfl⟩
theorem Z19:bN Tryz.prog 19 (.agg [.v (.pointer none)]):=⟨Tryz.t19,_,by kernel_rfl,rfl,rfl,fun _ _ _=>cJ (a9 (c1:=[.pointer none]) rfl (dF rfl) (dH))⟩
instance:TI Tryz.prog 19 1 true:=⟨T19⟩
instance:BI Tryz.prog 19 8:=⟨B19⟩
instance:ZI Tryz.prog 19 (.agg [.v (.pointer none)]):=⟨Z19⟩
theorem aPv:dY Tryz.prog 19 [(1,false)]:=⟨_,Tryz.underlying19,⟨rfl,T17,trivial⟩,by decide⟩
instance:SI Tryz.prog 19 [(1,false)]:=⟨aPv⟩
instance:UN Tryz.prog 21 (.int .i32):=⟨Tryz.underlying21⟩
theorem T21:cF Tryz.prog 21 1 false:=⟨by kernel_rfl,_,Tryz.underlying21,rfl⟩
theorem B21:bU Tryz.prog 21 4:=⟨Tryz.t21,by kernel_rfl,rfl⟩
theorem Z21:bN Tryz.prog 21 (.v (.int .i32 0)):=⟨Tryz.t21,_,by kernel_rfl,rfl,rfl,fun _ _ _=>dF rfl⟩
instance:TI Tryz.prog 21 1 false:=⟨T21⟩
instance:BI Tryz.prog 21 4:=⟨B21⟩
instance:ZI Tryz.prog 21 (.v (.int .i32 0)):=⟨Z21⟩
instance:UN Tryz.prog 22 (.slice 3):=⟨Tryz.underlying22⟩
theorem T22:cF Tryz.prog 22 1 false:=⟨by kernel_rfl,_,Tryz.underlying22,rfl⟩
theorem B22:bU Tryz.prog 22 24:=⟨Tryz.t22,by kernel_rfl,rfl⟩
theorem Z22:bN Tryz.prog 22 (.v (.slice none 0 0)):=⟨Tryz.t22,_,by kernel_rfl,rfl,rfl,fun _ _ _=>dF rfl⟩
instance:TI Tryz.prog 22 1 false:=⟨T22⟩
instance:BI Tryz.prog 22 24:=⟨B22⟩
instance:ZI Tryz.prog 22 (.v (.slice none 0 0)):=⟨Z22⟩
theorem T25:cF Tryz.prog 25 1 false:=⟨by kernel_rfl,_,Tryz.underlying25,rfl⟩
theorem B25:bU Tryz.prog 25 8:=⟨Tryz.t25,by kernel_rfl,rfl⟩
theorem Z25:bN Tryz.prog 25 (.v (.pointer none)):=⟨Tryz.t25,_,by kernel_rfl,rfl,rfl,fun _ _ _=>dF rfl⟩
instance:TI Tryz.prog 25 1 false:=⟨T25⟩
instance:BI Tryz.prog 25 8:=⟨B25⟩
instance:ZI Tryz.prog 25 (.v (.pointer none)):=⟨Z25⟩
instance:UN Tryz.prog 27 (.slice 182):=⟨Tryz.underlying27⟩
theorem T27:cF Tryz.prog 27 1 false:=⟨by kernel_rfl,_,Tryz.underlying27,rfl⟩
theorem B27:bU Tryz.prog 27 24:=⟨Tryz.t27,by kernel_rfl,rfl⟩
theorem Z27:bN Tryz.prog 27 (.list 1 []):=⟨Tryz.t27,_,by kernel_rfl,rfl,rfl,fun _ _ _=>p7 1⟩
instance:TI Tryz.prog 27 1 false:=⟨T27⟩
instance:BI Tryz.prog 27 24:=⟨B27⟩
instance:ZI Tryz.prog 27 (.list 1 []):=⟨Z27⟩
theorem cX:cF Tryz.prog 29 3 true:=⟨by kernel_rfl,_,Tryz.underlying29,rfl⟩
theorem lB:bU Tryz.prog 29 56:=⟨Tryz.t29,by kernel_rfl,rfl⟩
theorem Z29:bN Tryz.prog 29 (ratL 0):=⟨Tryz.t29,_,by kernel_rfl,rfl,aD.pure 0,fun _ _ _=>bS⟩
theorem eH:bN Tryz.prog 29 (.agg [.v (.bool false),.list 1 [],.list 1 []]):=eW ▸ Z29
instance:TI Tryz.prog 29 3 true:=⟨cX⟩
instance:BI Tryz.prog 29 56:=⟨lB⟩
instance:ZI Tryz.prog 29 (.agg [.v (.bool false),.list 1 [],.list 1 []]):=⟨eH⟩
theorem tI:dY Tryz.prog 29 [(1,false),(1,false),(1,false)]:=⟨_,Tryz.underlying29,⟨rfl,T4,⟨rfl,T27,⟨rfl,T27,trivial⟩⟩⟩,by decide⟩
instance:SI Tryz.prog 29 [(1,false),(1,false),(1,false)]:=⟨tI⟩
instance:UN Tryz.prog 30 (.array 3 29):=⟨Tryz.underlying30⟩
theorem T30:cF Tryz.prog 30 9 true:=⟨by kernel_rfl,_,Tryz.underlying30,rfl⟩
theorem B30:bU Tryz.prog 30 168:=⟨Tryz.t30,by kernel_rfl,rfl⟩
theorem Z30:bN Tryz.prog 30 (.agg [ratL 0,ratL 0,ratL 0]):=⟨Tryz.t30,_,by kernel_rfl,rfl,by simp [LV.pure,aY,aD.pure],fun _ _ _=>cJ (a9 (c1:=[.bool false,.slice none 0 0,.slice none 0 0]) (by simp [LV.csize,aT,aD.csize]) (bS) (a9 (c1:=[.bool false,.slice none 0 0,.slice none 0 0]) (by simp [LV.csize,aT,aD.csize]) (bS) (a9 (c1:=[.bool false,.slice none 0 0,.slice none 0 0]) (by simp [LV.csize,aT,aD.csize]) (bS) (dH))))⟩
instance:TI Tryz.prog 30 9 true:=⟨T30⟩
instance:BI Tryz.prog 30 168:=⟨B30⟩
instance:ZI Tryz.prog 30 (.agg [ratL 0,ratL 0,ratL 0]):=⟨Z30⟩
instance:UN Tryz.prog 31 (.array 3 29):=⟨Tryz.underlying31⟩
theorem sW:cF Tryz.prog 31 9 true:=⟨by kernel_rfl,_,Tryz.underlying31,rfl⟩
theorem B31:bU Tryz.prog 31 168:=⟨Tryz.t31,by kernel_rfl,rfl⟩
theorem Z31:bN Tryz.prog 31 (.agg [ratL 0,ratL 0,ratL 0]):=⟨Tryz.t31,_,by kernel_rfl,rfl,by simp [LV.pure,aY,aD.pure],fun _ _ _=>cJ (a9 (c1:=[.bool false,.slice none 0 0,.slice none 0 0]) (by simp [LV.csize,aT,aD.csize]) (bS) (a9 (c1:=[.bool false,.slice none 0 0,.slice none 0 0]) (by simp [LV.csize,aT,aD.csize]) (bS) (a9 (c1:=[.bool false,.slice none 0 0,.slice none 0 0]) (by simp [LV.csize,aT,aD.csize]) (bS) (dH))))⟩
instance:TI Tryz.prog 31 9 true:=⟨sW⟩
instance:BI Tryz.prog 31 168:=⟨B31⟩
instance:ZI Tryz.prog 31 (.agg [ratL 0,ratL 0,ratL 0]):=⟨Z31⟩
instance:UN Tryz.prog 32 (.array 3 31):=⟨Tryz.underlying32⟩
theorem T32:cF Tryz.prog 32 27 true:=⟨by kernel_rfl,_,Tryz.underlying32,rfl⟩
theorem B32:bU Tryz.prog 32 504:=⟨Tryz.t32,by kernel_rfl,rfl⟩
theorem Z32:bN Tryz.prog 32 (.agg [.agg [ratL 0,ratL 0,ratL 0],.agg [ratL 0,ratL 0,ratL 0],.agg [ratL 0,ratL 0,ratL 0]]):=⟨Tryz.t32,_,by kernel_rfl,rfl,by simp [LV.pure,aY,aD.pure],fun _ _ _=>cJ (a9 (c1:=[.bool false,.slice none 0 0,.slice none 0 0,.bool false,.slice none 0 0,.slice none 0 0,.bool false,.slice none 0 0,.slice none 0 0]) (by simp [LV.csize,aT,aD.csize]) (cJ (a9 (c1:=[.bool false,.slice none 0 0,.slice none 0 0]) (by simp [LV.csize,aT,aD.csize]) (bS) (a9 (c1:=[.bool false,.slice none 0 0,.slice none 0 0]) (by simp [LV.csize,aT,aD.csize]) (bS) (a9 (c1:=[.bool false,.slice none 0 0,.slice none 0 0]) (by simp [LV.csize,aT,aD.csize]) (bS) (dH))))) (a9 (c1:=[.bool false,.slice none 0 0,.slice none 0 0,.bool false,.slice none 0 0,.slice none 0 0,.bool false,.slice none 0 0,.slice none 0 0]) (by simp [LV.csize,aT,aD.csize]) (cJ (a9 (c1:=[.bool false,.slice none 0 0,.slice none 0 0]) (by simp [LV.csize,aT,aD.csize]) (bS) (a9 (c1:=[.bool false,.slice none 0 0,.slice none 0 0]) (by simp [LV.csize,aT,aD.csize]) (bS) (a9 (c1:=[.bool false,.slice none 0 0,.slice none 0 0]) (by simp [LV.csize,aT,aD.csize]) (bS) (dH))))) (a9 (c1:=[.bool false,.slice none 0 0,.slice none 0 0,.bool false,.slice none 0 0,.slice none 0 0,.bool false,.slice none 0 0,.slice none 0 0]) (by simp [LV.csize,aT,aD.csize]) (cJ (a9 (c1:=[.bool false,.slice none 0 0,.slice none 0 0]) (by simp [LV.csize,aT,aD.csize]) (bS) (a9 (c1:=[.bool false,.slice none 0 0,.slice none 0 0]) (by simp [LV.csize,aT,aD.csize]) (bS) (a9 (c1:=[.bool false,.slice none 0 0,.slice none 0 0]) (by simp [LV.csize,aT,aD.csize]) (bS) (dH))))) (dH))))⟩
instance:TI Tryz.prog 32 27 true:=⟨T32⟩
instance:BI Tryz.prog 32 504:=⟨B32⟩
instance:ZI Tryz.prog 32 (.agg [.agg [ratL 0,ratL 0,ratL 0],.agg [ratL 0,ratL 0,ratL 0],.agg [ratL 0,ratL 0,ratL 0]]):=⟨Z32⟩
theorem T34:cF Tryz.prog 34 36 true:=⟨by kernel_rfl,_,Tryz.underlying34,rfl⟩
theorem B34:bU Tryz.prog 34 672:=⟨Tryz.t34,by kernel_rfl,rfl⟩
theorem Z34:bN Tryz.prog 34 (.agg [.agg [.agg [ratL 0,ratL 0,ratL 0],.agg [ratL 0,ratL 0,ratL 0],.agg [ratL 0,ratL 0,ratL 0]],.agg [ratL 0,ratL 0,ratL 0]]):=⟨Tryz.t34,_,by kernel_rfl,rfl,by simp [LV.pure,aY,aD.pure],fun _ _ _=>cJ (a9 (c1:=[.bool false,.slice none 0 0,.slice none 0 0,.bool false,.slice none 0 0,.slice none 0 0,.bool false,.slice none 0 0,.slice none 0 0,.bool false,.slice none 0 0,.slice none 0 0,.bool false,.slice none 0 0,.slice none 0 0,.bool false,.slice none 0 0,.slice none 0 0,.bool false,.slice none 0 0,.slice none 0 0,.bool false,.slice none 0 0,.slice none 0 0,.bool false,.slice none 0 0,.slice none 0 0]) (by simp [LV.csize,aT,aD.csize]) (cJ (a9 (c1:=[.bool false,.slice none 0 0,.slice none 0 0,.bool false,.slice none 0 0,.slice none 0 0,.bool false,.slice none 0 0,.slice none 0 0]) (by simp [LV.csize,aT,aD.csize]) (cJ (a9 (c1:=[.bool false,.slice none 0 0,.slice none 0 0]) (by simp [LV.csize,aT,aD.csize]) (bS) (a9 (c1:=[.bool false,.slice none 0 0,.slice none 0 0]) (by simp [LV.csize,aT,aD.csize]) (bS) (a9 (c1:=[.bool false,.slice none 0 0,.slice none 0 0]) (by simp [LV.csize,aT,aD.csize]) (bS) (dH))))) (a9 (c1:=[.bool false,.slice none 0 0,.slice none 0 0,.bool false,.slice none 0 0,.slice none 0 0,.bool false,.slice none 0 0,.slice none 0 0]) (by simp [LV.csize,aT,aD.csize]) (cJ (a9 (c1:=[.bool false,.slice none 0 0,.slice none 0 0]) (by simp [LV.csize,aT,aD.csize]) (bS) (a9 (c1:=[.bool false,.slice none 0 0,.slice none 0 0]) (by simp [LV.csize,aT,aD.csize]) (bS) (a9 (c1:=[.bool false,.slice none 0 0,.slice none 0 0]) (by simp [LV.csize,aT,aD.csize]) (bS) (dH))))) (a9 (c1:=[.bool false,.slice none 0 0,.slice none 0 0,.bool false,.slice none 0 0,.slice none 0 0,.bool false,.slice none 0 0,.slice none 0 0]) (by simp [LV.csize,aT,aD.csize]) (cJ (a9 (c1:=[.bool false,.slice none 0 0,.slice none 0 0]) (by simp [LV.csize,aT,aD.csize]) (bS) (a9 (c1:=[.bool false,.slice none 0 0,.slice none 0 0]) (by simp [LV.csize,aT,aD.csize]) (bS) (a9 (c1:=[.bool false,.slice none 0 0,.slice none 0 0]) (by simp [LV.csize,aT,aD.csize]) (bS) (dH))))) (dH))))) (a9 (c1:=[.bool false,.slice none 0 0,.slice none 0 0,.bool false,.slice none 0 0,.slice none 0 0,.bool false,.slice none 0 0,.slice none 0 0]) (by simp [LV.csize,aT,aD.csize]) (cJ (a9 (c1:=[.bool false,.slice none 0 0,.slice none 0 0]) (by simp [LV.csize,aT,aD.csize]) (bS) (a9 (c1:=[.bool false,.slice none 0 0,.slice none 0 0]) (by simp [LV.csize,aT,aD.csize]) (bS) (a9 (c1:=[.bool false,.slice none 0 0,.slice none 0 0]) (by simp [LV.csize,aT,aD.csize]) (bS) (dH))))) (dH)))⟩
instance:TI Tryz.prog 34 36 true:=⟨T34⟩
instance:BI Tryz.prog 34 672:=⟨B34⟩
instance:ZI Tryz.prog 34 (.agg [.agg [.agg [ratL 0,ratL 0,ratL 0],.agg [ratL 0,ratL 0,ratL 0],.agg [ratL 0,ratL 0,ratL 0]],.agg [ratL 0,ratL 0,ratL 0]]):=⟨Z34⟩
theorem aPe:dY Tryz.prog 34 [(27,true),(9,true)]:=⟨_,Tryz.underlying34,⟨rfl,T32,⟨rfl,sW,trivial⟩⟩,by decide⟩
instance:SI Tryz.prog 34 [(27,true),(9,true)]:=⟨aPe⟩
instance:UN Tryz.prog 36 (.slice 29):=⟨Tryz.underlying36⟩
theorem T36:cF Tryz.prog 36 1 false:=⟨by kernel_rfl,_,Tryz.underlying36,rfl⟩
theorem B36:bU Tryz.prog 36 24:=⟨Tryz.t36,by kernel_rfl,rfl⟩
theorem Z36:bN Tryz.prog 36 (.v (.slice none 0 0)):=⟨Tryz.t36,_,by kernel_rfl,rfl,rfl,fun _ _ _=>dF rfl⟩
instance:TI Tryz.prog 36 1 false:=⟨T36⟩
instance:BI Tryz.prog 36 24:=⟨B36⟩
instance:ZI Tryz.prog 36 (.v (.slice none 0 0)):=⟨Z36⟩
instance:UN Tryz.prog 37 (.slice 60):=⟨Tryz.underlying37⟩
theorem T37:cF Tryz.prog 37 1 false:=⟨by kernel_rfl,_,Tryz.underlying37,rfl⟩
theorem B37:bU Tryz.prog 37 24:=⟨Tryz.t37,by kernel_rfl,rfl⟩
theorem Z37:bN Tryz.prog 37 (.v (.slice none 0 0)):=⟨Tryz.t37,_,by kernel_rfl,rfl,rfl,fun _ _ _=>dF rfl⟩
instance:TI Tryz.prog 37 1 false:=⟨T37⟩
instance:BI Tryz.prog 37 24:=⟨B37⟩
instance:ZI Tryz.prog 37 (.v (.slice none 0 0)):=⟨Z37⟩
theorem T39:cF Tryz.prog 39 5 true:=⟨by kernel_rfl,_,Tryz.underlying39,rfl⟩
theorem B39:bU Tryz.prog 39 88:=⟨Tryz.t39,by kernel_rfl,rfl⟩
theorem Z39:bN Tryz.prog 39 (.agg [.v (.int .i64 0),.v (.int .i64 0),.v (.slice none 0 0),.v (.slice none 0 0),.v (.slice none 0 0)]):=⟨Tryz.t39,_,by kernel_rfl,rfl,rfl,fun _ _ _=>cJ (a9 (c1:=[.int .i64 0]) rfl (dF rfl) (a9 (c1:=[.int .i64 0]) rfl (dF rfl) (a9 (c1:=[.slice none 0 0]) rfl (dF rfl) (a9 (c1:=[.slice none 0 0]) rfl (dF rfl) (a9 (c1:=[.slice none 0 0]) rfl (dF rfl) (dH))))))⟩
instance:TI Tryz.prog 39 5 true:=⟨T39⟩
instance:BI Tryz.prog 39 88:=⟨B39⟩
instance:ZI Tryz.prog 39 (.agg [.v (.int .i64 0),.v (.int .i64 0),.v (.slice none 0 0),.v (.slice none 0 0),.v (.slice none 0 0)]):=⟨Z39⟩
theorem aNl:dY Tryz.prog 39 [(1,false),(1,false),(1,false),(1,false),(1,false)]:=⟨_,Tryz.underlying39,⟨rfl,T3,⟨rfl,T3,⟨rfl,T36,⟨rfl,T36,⟨rfl,T37,trivial⟩⟩⟩⟩⟩,by decide⟩
instance:SI Tryz.prog 39 [(1,false),(1,false),(1,false),(1,false),(1,false)]:=⟨aNl⟩
theorem T42:cF Tryz.prog 42 6 true:=⟨by kernel_rfl,_,Tryz.underlying42,rfl⟩
theorem B42:bU Tryz.prog 42 112:=⟨Tryz.t42,by kernel_rfl,rfl⟩
theorem Z42:bN Tryz.prog 42 (.agg [ratL 0,ratL 0]):=⟨Tryz.t42,_,by kernel_rfl,rfl,by simp [LV.pure,aY,aD.pure],fun _ _ _=>cJ (a9 (c1:=[.bool false,.slice none 0 0,.slice none 0 0]) (by simp [LV.csize,aT,aD.csize]) (bS) (a9 (c1:=[.bool false,.slice none 0 0,.slice none 0 0]) (by simp [LV.csize,aT,aD.csize]) (bS) (dH)))⟩
instance:TI Tryz.prog 42 6 true:=⟨T42⟩
instance:BI Tryz.prog 42 112:=⟨B42⟩
instance:ZI Tryz.prog 42 (.agg [ratL 0,ratL 0]):=⟨Z42⟩
theorem aO0:dY Tryz.prog 42 [(3,true),(3,true)]:=⟨_,Tryz.underlying42,⟨rfl,cX,⟨rfl,cX,trivial⟩⟩,by decide⟩
instance:SI Tryz.prog 42 [(3,true),(3,true)]:=⟨aO0⟩
instance:UN Tryz.prog 46 (.int .i64):=⟨Tryz.underlying46⟩
theorem T46:cF Tryz.prog 46 1 false:=⟨by kernel_rfl,_,Tryz.underlying46,rfl⟩
theorem B46:bU Tryz.prog 46 8:=⟨Tryz.t46,by kernel_rfl,rfl⟩
theorem Z46:bN Tryz.prog 46 (.v (.int .i64 0)):=⟨Tryz.t46,_,by kernel_rfl,rfl,rfl,fun _ _ _=>dF rfl⟩
instance:TI Tryz.prog 46 1 false:=⟨T46⟩
instance:BI Tryz.prog 46 8:=⟨B46⟩
instance:ZI Tryz.prog 46 (.v (.int .i64 0)):=⟨Z46⟩
instance:UN Tryz.prog 60 (.slice 62):=⟨Tryz.underlying60⟩
theorem T60:cF Tryz.prog 60 1 false:=⟨by kernel_rfl,_,Tryz.underlying60,rfl⟩
theorem B60:bU Tryz.prog 60 24:=⟨Tryz.t60,by kernel_rfl,rfl⟩
theorem Z60:bN Tryz.prog 60 (.v (.slice none 0 0)):=⟨Tryz.t60,_,by kernel_rfl,rfl,rfl,fun _ _ _=>dF rfl⟩
instance:TI Tryz.prog 60 1 false:=⟨T60⟩
instance:BI Tryz.prog 60 24:=⟨B60⟩
instance:ZI Tryz.prog 60 (.v (.slice none 0 0)):=⟨Z60⟩
theorem uC:cF Tryz.prog 62 12 true:=⟨by kernel_rfl,_,Tryz.underlying62,rfl⟩
theorem B62:bU Tryz.prog 62 224:=⟨Tryz.t62,by kernel_rfl,rfl⟩
theorem Z62:bN Tryz.prog 62 (.agg [.agg [ratL 0,ratL 0,ratL 0],ratL 0]):=⟨Tryz.t62,_,by kernel_rfl,rfl,by simp [LV.pure,aY,aD.pure],fun _ _ _=>cJ (a9 (c1:=[.bool false,.slice none 0 0,.slice none 0 0,.bool false,.slice none 0 0,.slice none 0 0,.bool false,.slice none 0 0,.slice none 0 0]) (by simp [LV.csize,aT,aD.csize]) (cJ (a9 (c1:=[.bool false,.slice none 0 0,.slice none 0 0]) (by simp [LV.csize,aT,aD.csize]) (bS) (a9 (c1:=[.bool false,.slice none 0 0,.slice none 0 0]) (by simp [LV.csize,aT,aD.csize]) (bS) (a9 (c1:=[.bool false,.slice none 0 0,.slice none 0 0]) (by simp [LV.csize,aT,aD.csize]) (bS) (dH))))) (a9 (c1:=[.bool false,.slice none 0 0,.slice none 0 0]) (by simp [LV.csize,aT,aD.csize]) (bS) (dH)))⟩
instance:TI Tryz.prog 62 12 true:=⟨uC⟩
instance:BI Tryz.prog 62 224:=⟨B62⟩
instance:ZI Tryz.prog 62 (.agg [.agg [ratL 0,ratL 0,ratL 0],ratL 0]):=⟨Z62⟩
theorem aPT:dY Tryz.prog 62 [(9,true),(3,true)]:=⟨_,Tryz.underlying62,⟨rfl,sW,⟨rfl,cX,trivial⟩⟩,by decide⟩
instance:SI Tryz.prog 62 [(9,true),(3,true)]:=⟨aPT⟩
theorem T64:cF Tryz.prog 64 3 true:=⟨by kernel_rfl,_,Tryz.underlying64,rfl⟩
theorem B64:bU Tryz.prog 64 40:=⟨Tryz.t64,by kernel_rfl,rfl⟩
theorem Z64:bN Tryz.prog 64 (.agg [.v (.int .i64 0),.v (.int .i64 0),.v (.slice none 0 0)]):=⟨Tryz.t64,_,by kernel_rfl,rfl,rfl,fun _ _ _=>cJ (a9 (c1:=[.int .i64 0]) rfl (dF rfl) (a9 (c1:=[.int .i64 0]) rfl (dF rfl) (a9 (c1:=[.slice none 0 0]) rfl (dF rfl) (dH))))⟩
instance:TI Tryz.prog 64 3 true:=⟨T64⟩
instance:BI Tryz.prog 64 40:=⟨B64⟩
instance:ZI Tryz.prog 64 (.agg [.v (.int .i64 0),.v (.int .i64 0),.v (.slice none 0 0)]):=⟨Z64⟩
theorem aNf:dY Tryz.prog 64 [(1,false),(1,false),(1,false)]:=⟨_,Tryz.underlying64,⟨rfl,T3,⟨rfl,T3,⟨rfl,T36,trivial⟩⟩⟩,by decide⟩
instance:SI Tryz.prog 64 [(1,false),(1,false),(1,false)]:=⟨aNf⟩
instance:UN Tryz.prog 65 (.array 4 64):=⟨Tryz.underlying65⟩
theorem T65:cF Tryz.prog 65 12 true:=⟨by kernel_rfl,_,Tryz.underlying65,rfl⟩
theorem B65:bU Tryz.prog 65 160:=⟨Tryz.t65,by kernel_rfl,rfl⟩
theorem Z65:bN Tryz.prog 65 (.agg [.agg [.v (.int .i64 0),.v (.int .i64 0),.v (.slice none 0 0)],.agg [.v (.int .i64 0),.v (.int .i64 0),.v (.slice none 0 0)],.agg [.v (.int .i64 0),.v (.int .i64 0),.v (.slice none 0 0)],.agg [.v (.int .i64 0),.v (.int .i64 0),.v (.slice none 0 0)]]):=⟨Tryz.t65,_,by kernel_rfl,rfl,rfl,fun _ _ _=>cJ (a9 (c1:=[.int .i64 0,.int .i64 0,.slice none 0 0]) rfl (cJ (a9 (c1:=[.int .i64 0]) rfl (dF rfl) (a9 (c1:=[.int .i64 0]) rfl (dF rfl) (a9 (c1:=[.slice none 0 0]) rfl (dF rfl) (dH))))) (a9 (c1:=[.int .i64 0,.int .i64 0,.slice none 0 0]) rfl (cJ (a9 (c1:=[.int .i64 0]) rfl (dF rfl) (a9 (c1:=[.int .i64 0]) rfl (dF rfl) (a9 (c1:=[.slice none 0 0]) rfl (dF rfl) (dH))))) (a9 (c1:=[.int .i64 0,.int .i64 0,.slice none 0 0]) rfl (cJ (a9 (c1:=[.int .i64 0]) rfl (dF rfl) (a9 (c1:=[.int .i64 0]) rfl (dF rfl) (a9 (c1:=[.slice none 0 0]) rfl (dF rfl) (dH))))) (a9 (c1:=[.int .i64 0,.int .i64 0,.slice none 0 0]) rfl (cJ (a9 (c1:=[.int .i64 0]) rfl (dF rfl) (a9 (c1:=[.int .i64 0]) rfl (dF rfl) (a9 (c1:=[.slice none 0 0]) rfl (dF rfl) (dH))))) (dH)))))⟩
instance:TI Tryz.prog 65 12 true:=⟨T65⟩
instance:BI Tryz.prog 65 160:=⟨B65⟩
instance:ZI Tryz.prog 65 (.agg [.agg [.v (.int .i64 0),.v (.int .i64 0),.v (.slice none 0 0)],.agg [.v (.int .i64 0),.v (.int .i64 0),.v (.slice none 0 0)],.agg [.v (.int .i64 0),.v (.int .i64 0),.v (.slice none 0 0)],.agg [.v (.int .i64 0),.v (.int .i64 0),.v (.slice none 0 0)]]):=⟨Z65⟩
instance:UN Tryz.prog 73 (.array 3 42):=⟨Tryz.underlying73⟩
theorem T73:cF Tryz.prog 73 18 true:=⟨by kernel_rfl,_,Tryz.underlying73,rfl⟩
theorem B73:bU Tryz.prog 73 336:=⟨Tryz.t73,by kernel_rfl,rfl⟩
theorem Z73:bN Tryz.prog 73 (.agg [.agg [ratL 0,ratL 0],.agg [ratL 0,ratL 0],.agg [ratL 0,ratL 0]]):=⟨Tryz.t73,_,by kernel_rfl,rfl,by simp [LV.pure,aY,aD.pure],fun _ _ _=>cJ (a9 (c1:=[.bool false,.slice none 0 0,.slice none 0 0,.bool false,.slice none 0 0,.slice none 0 0]) (by simp [LV.csize,aT,aD.csize]) (cJ (a9 (c1:=[.bool false,.slice none 0 0,.slice none 0 0]) (by simp [LV.csize,aT,aD.csize]) (bS) (a9 (c1:=[.bool false,.slice none 0 0,.slice none 0 0]) (by simp [LV.csize,aT,aD.csize]) (bS) (dH)))) (a9 (c1:=[.bool false,.slice none 0 0,.slice none 0 0,.bool false,.slice none 0 0,.slice none 0 0]) (by simp [LV.csize,aT,aD.csize]) (cJ (a9 (c1:=[.bool false,.slice none 0 0,.slice none 0 0]) (by simp [LV.csize,aT,aD.csize]) (bS) (a9 (c1:=[.bool false,.slice none 0 0,.slice none 0 0]) (by simp [LV.csize,aT,aD.csize]) (bS) (dH)))) (a9 (c1:=[.bool false,.slice none 0 0,.slice none 0 0,.bool false,.slice none 0 0,.slice none 0 0]) (by simp [LV.csize,aT,aD.csize]) (cJ (a9 (c1:=[.bool false,.slice none 0 0,.slice none 0 0]) (by simp [LV.csize,aT,aD.csize]) (bS) (a9 (c1:=[.bool false,.slice none 0 0,.slice none 0 0]) (by simp [LV.csize,aT,aD.csize]) (bS) (dH)))) (dH))))⟩
instance:TI Tryz.prog 73 18 true:=⟨T73⟩
instance:BI Tryz.prog 73 336:=⟨B73⟩
instance:ZI Tryz.prog 73 (.agg [.agg [ratL 0,ratL 0],.agg [ratL 0,ratL 0],.agg [ratL 0,ratL 0]]):=⟨Z73⟩
instance:UN Tryz.prog 74 (.array 3 42):=⟨Tryz.underlying74⟩
theorem T74:cF Tryz.prog 74 18 true:=⟨by kernel_rfl,_,Tryz.underlying74,rfl⟩
theorem B74:bU Tryz.prog 74 336:=⟨Tryz.t74,by kernel_rfl,rfl⟩
theorem Z74:bN Tryz.prog 74 (.agg [.agg [ratL 0,ratL 0],.agg [ratL 0,ratL 0],.agg [ratL 0,ratL 0]]):=⟨Tryz.t74,_,by kernel_rfl,rfl,by simp [LV.pure,aY,aD.pure],fun _ _ _=>cJ (a9 (c1:=[.bool false,.slice none 0 0,.slice none 0 0,.bool false,.slice none 0 0,.slice none 0 0]) (by simp [LV.csize,aT,aD.csize]) (cJ (a9 (c1:=[.bool false,.slice none 0 0,.slice none 0 0]) (by simp [LV.csize,aT,aD.csize]) (bS) (a9 (c1:=[.bool false,.slice none 0 0,.slice none 0 0]) (by simp [LV.csize,aT,aD.csize]) (bS) (dH)))) (a9 (c1:=[.bool false,.slice none 0 0,.slice none 0 0,.bool false,.slice none 0 0,.slice none 0 0]) (by simp [LV.csize,aT,aD.csize]) (cJ (a9 (c1:=[.bool false,.slice none 0 0,.slice none 0 0]) (by simp [LV.csize,aT,aD.csize]) (bS) (a9 (c1:=[.bool false,.slice none 0 0,.slice none 0 0]) (by simp [LV.csize,aT,aD.csize]) (bS) (dH)))) (a9 (c1:=[.bool false,.slice none 0 0,.slice none 0 0,.bool false,.slice none 0 0,.slice none 0 0]) (by simp [LV.csize,aT,aD.csize]) (cJ (a9 (c1:=[.bool false,.slice none 0 0,.slice none 0 0]) (by simp [LV.csize,aT,aD.csize]) (bS) (a9 (c1:=[.bool false,.slice none 0 0,.slice none 0 0]) (by simp [LV.csize,aT,aD.csize]) (bS) (dH)))) (dH))))⟩
instance:TI Tryz.prog 74 18 true:=⟨T74⟩
instance:BI Tryz.prog 74 336:=⟨B74⟩
instance:ZI Tryz.prog 74 (.agg [.agg [ratL 0,ratL 0],.agg [ratL 0,ratL 0],.agg [ratL 0,ratL 0]]):=⟨Z74⟩
instance:UN Tryz.prog 76 (.array 4 4):=⟨Tryz.underlying76⟩
theorem T76:cF Tryz.prog 76 4 true:=⟨by kernel_rfl,_,Tryz.underlying76,rfl⟩
theorem B76:bU Tryz.prog 76 4:=⟨Tryz.t76,by kernel_rfl,rfl⟩
theorem Z76:bN Tryz.prog 76 (.agg [.v (.bool false),.v (.bool false),.v (.bool false),.v (.bool false)]):=⟨Tryz.t76,_,by kernel_rfl,rfl,rfl,fun _ _ _=>cJ (a9 (c1:=[.bool false]) rfl (dF rfl) (a9 (c1:=[.bool false]) rfl (dF rfl) (a9 (c1:=[.bool false]) rfl (dF rfl) (a9 (c1:=[.bool false]) rfl (dF rfl) (dH)))))⟩
instance:TI Tryz.prog 76 4 true:=⟨T76⟩
instance:BI Tryz.prog 76 4:=⟨B76⟩
instance:ZI Tryz.prog 76 (.agg [.v (.bool false),.v (.bool false),.v (.bool false),.v (.bool false)]):=⟨Z76⟩
theorem T86:cF Tryz.prog 86 12 true:=⟨by kernel_rfl,_,Tryz.underlying86,rfl⟩
theorem B86:bU Tryz.prog 86 224:=⟨Tryz.t86,by kernel_rfl,rfl⟩
theorem Z86:bN Tryz.prog 86 (.agg [.agg [ratL 0,ratL 0,ratL 0],ratL 0]):=⟨Tryz.t86,_,by kernel_rfl,rfl,by simp [LV.pure,aY,aD.pure],fun _ _ _=>cJ (a9 (c1:=[.bool false,.slice none 0 0,.slice none 0 0,.bool false,.slice none 0 0,.slice none 0 0,.bool false,.slice none 0 0,.slice none 0 0]) (by simp [LV.csize,aT,aD.csize]) (cJ (a9 (c1:=[.bool false,.slice none 0 0,.slice none 0 0]) (by simp [LV.csize,aT,aD.csize]) (bS) (a9 (c1:=[.bool false,.slice none 0 0,.slice none 0 0]) (by simp [LV.csize,aT,aD.csize]) (bS) (a9 (c1:=[.bool false,.slice none 0 0,.slice none 0 0]) (by simp [LV.csize,aT,aD.csize]) (bS) (dH))))) (a9 (c1:=[.bool false,.slice none 0 0,.slice none 0 0]) (by simp [LV.csize,aT,aD.csize]) (bS) (dH)))⟩
instance:TI Tryz.prog 86 12 true:=⟨T86⟩
instance:BI Tryz.prog 86 224:=⟨B86⟩
instance:ZI Tryz.prog 86 (.agg [.agg [ratL 0,ratL 0,ratL 0],ratL 0]):=⟨Z86⟩
theorem aPd:dY Tryz.prog 86 [(9,true),(3,true)]:=⟨_,Tryz.underlying86,⟨rfl,sW,⟨rfl,cX,trivial⟩⟩,by decide⟩
instance:SI Tryz.prog 86 [(9,true),(3,true)]:=⟨aPd⟩
theorem T95:cF Tryz.prog 95 2 true:=⟨by kernel_rfl,_,Tryz.underlying95,rfl⟩
theorem B95:bU Tryz.prog 95 32:=⟨Tryz.t95,by kernel_rfl,rfl⟩
theorem Z95:bN Tryz.prog 95 (.agg [.v (.slice none 0 0),.v (.int .i64 0)]):=⟨Tryz.t95,_,by kernel_rfl,rfl,rfl,fun _ _ _=>cJ (a9 (c1:=[.slice none 0 0]) rfl (dF rfl) (a9 (c1:=[.int .i64 0]) rfl (dF rfl) (dH)))⟩
instance:TI Tryz.prog 95 2 true:=⟨T95⟩
instance:BI Tryz.prog 95 32:=⟨B95⟩
instance:ZI Tryz.prog 95 (.agg [.v (.slice none 0 0),.v (.int .i64 0)]):=⟨Z95⟩
theorem aMJ:dY Tryz.prog 95 [(1,false),(1,false)]:=⟨_,Tryz.underlying95,⟨rfl,T22,⟨rfl,T3,trivial⟩⟩,by decide⟩
instance:SI Tryz.prog 95 [(1,false),(1,false)]:=⟨aMJ⟩
instance:UN Tryz.prog 106 (.array 3 64):=⟨Tryz.underlying106⟩
theorem aMD:cF Tryz.prog 106 9 true:=⟨by kernel_rfl,_,Tryz.underlying106,rfl⟩
theorem aPh:bU Tryz.prog 106 120:=⟨Tryz.t106,by kernel_rfl,rfl⟩
theorem aPY:bN Tryz.prog 106 (.agg [.agg [.v (.int .i64 0),.v (.int .i64 0),.v (.slice none 0 0)],.agg [.v (.int .i64 0),.v (.int .i64 0),.v (.slice none 0 0)],.agg [.v (.int .i64 0),.v (.int .i64 0),.v (.slice none 0 0)]]):=⟨Tryz.t106,_,by kernel_rfl,rfl,rfl,fun _ _ _=>cJ (a9 (c1:=[.int .i64 0,.int .i64 0,.slice none 0 0]) rfl (cJ (a9 (c1:=[.int .i64 0]) rfl (dF rfl) (a9 (c1:=[.int .i64 0]) rfl (dF rfl) (a9 (c1:=[.slice none 0 0]) rfl (dF rfl) (dH))))) (a9 (c1:=[.int .i64 0,.int .i64 0,.slice none 0 0]) rfl (cJ (a9 (c1:=[.int .i64 0]) rfl (dF rfl) (a9 (c1:=[.int .i64 0]) rfl (dF rfl) (a9 (c1:=[.slice none 0 0]) rfl (dF rfl) (dH))))) (a9 (c1:=[.int .i64 0,.int .i64 0,.slice none 0 0]) rfl (cJ (a9 (c1:=[.int .i64 0]) rfl (dF rfl) (a9 (c1:=[.int .i64 0]) rfl (dF rfl) (a9 (c1:=[.slice none 0 0]) rfl (dF rfl) (dH))))) (dH))))⟩
instance:TI Tryz.prog 106 9 true:=⟨aMD⟩
instance:BI Tryz.prog 106 120:=⟨aPh⟩
instance:ZI Tryz.prog 106 (.agg [.agg [.v (.int .i64 0),.v (.int .i64 0),.v (.slice none 0 0)],.agg [.v (.int .i64 0),.v (.int .i64 0),.v (.slice none 0 0)],.agg [.v (.int .i64 0),.v (.int .i64 0),.v (.slice none 0 0)]]):=⟨aPY⟩
instance:UN Tryz.prog 111 (.slice 113):=⟨Tryz.underlying111⟩
theorem aPF:cF Tryz.prog 111 1 false:=⟨by kernel_rfl,_,Tryz.underlying111,rfl⟩
theorem aPB:bU Tryz.prog 111 24:=⟨Tryz.t111,by kernel_rfl,rfl⟩
theorem aON:bN Tryz.prog 111 (.v (.slice none 0 0)):=⟨Tryz.t111,_,by kernel_rfl,rfl,rfl,fun _ _ _=>dF rfl⟩
instance:TI Tryz.prog 111 1 false:=⟨aPF⟩
instance:BI Tryz.prog 111 24:=⟨aPB⟩
instance:ZI Tryz.prog 111 (.v (.slice none 0 0)):=⟨aON⟩
theorem aPg:cF Tryz.prog 113 3 true:=⟨by kernel_rfl,_,Tryz.underlying113,rfl⟩
theorem aPA:bU Tryz.prog 113 56:=⟨Tryz.t113,by kernel_rfl,rfl⟩
theorem aPb:bN Tryz.prog 113 (.agg [.v (.int .i64 0),.v (.slice none 0 0),.v (.slice none 0 0)]):=⟨Tryz.t113,_,by kernel_rfl,rfl,rfl,fun _ _ _=>cJ (a9 (c1:=[.int .i64 0]) rfl (dF rfl) (a9 (c1:=[.slice none 0 0]) rfl (dF rfl) (a9 (c1:=[.slice none 0 0]) rfl (dF rfl) (dH))))⟩
instance:TI Tryz.prog 113 3 true:=⟨aPg⟩
instance:BI Tryz.prog 113 56:=⟨aPA⟩
instance:ZI Tryz.prog 113 (.agg [.v (.int .i64 0),.v (.slice none 0 0),.v (.slice none 0 0)]):=⟨aPb⟩
theorem aMB:dY Tryz.prog 113 [(1,false),(1,false),(1,false)]:=⟨_,Tryz.underlying113,⟨rfl,T3,⟨rfl,T36,⟨rfl,T60,trivial⟩⟩⟩,by decide⟩
instance:SI Tryz.prog 113 [(1,false),(1,false),(1,false)]:=⟨aMB⟩
instance:UN Tryz.prog 117 (.array 4 29):=⟨Tryz.underlying117⟩
theorem aMy:cF Tryz.prog 117 12 true:=⟨by kernel_rfl,_,Tryz.underlying117,rfl⟩
theorem aOY:bU Tryz.prog 117 224:=⟨Tryz.t117,by kernel_rfl,rfl⟩
theorem aNX:bN Tryz.prog 117 (.agg [ratL 0,ratL 0,ratL 0,ratL 0]):=⟨Tryz.t117,_,by kernel_rfl,rfl,by simp [LV.pure,aY,aD.pure],fun _ _ _=>cJ (a9 (c1:=[.bool false,.slice none 0 0,.slice none 0 0]) (by simp [LV.csize,aT,aD.csize]) (bS) (a9 (c1:=[.bool false,.slice none 0 0,.slice none 0 0]) (by simp [LV.csize,aT,aD.csize]) (bS) (a9 (c1:=[.bool false,.slice none 0 0,.slice none 0 0]) (by simp [LV.csize,aT,aD.csize]) (bS) (a9 (c1:=[.bool false,.slice none 0 0,.slice none 0 0]) (by simp [LV.csize,aT,aD.csize]) (bS) (dH)))))⟩
instance:TI Tryz.prog 117 12 true:=⟨aMy⟩
instance:BI Tryz.prog 117 224:=⟨aOY⟩
instance:ZI Tryz.prog 117 (.agg [ratL 0,ratL 0,ratL 0,ratL 0]):=⟨aNX⟩
instance:UN Tryz.prog 118 (.array 4 29):=⟨Tryz.underlying118⟩
theorem aMk:cF Tryz.prog 118 12 true:=⟨by kernel_rfl,_,Tryz.underlying118,rfl⟩
theorem aPw:bU Tryz.prog 118 224:=⟨Tryz.t118,by kernel_rfl,rfl⟩
theorem aO9:bN Tryz.prog 118 (.agg [ratL 0,ratL 0,ratL 0,ratL 0]):=⟨Tryz.t118,_,by kernel_rfl,rfl,by simp [LV.pure,aY,aD.pure],fun _ _ _=>cJ (a9 (c1:=[.bool false,.slice none 0 0,.slice none 0 0]) (by simp [LV.csize,aT,aD.csize]) (bS) (a9 (c1:=[.bool false,.slice none 0 0,.slice none 0 0]) (by simp [LV.csize,aT,aD.csize]) (bS) (a9 (c1:=[.bool false,.slice none 0 0,.slice none 0 0]) (by simp [LV.csize,aT,aD.csize]) (bS) (a9 (c1:=[.bool false,.slice none 0 0,.slice none 0 0]) (by simp [LV.csize,aT,aD.csize]) (bS) (dH)))))⟩
instance:TI Tryz.prog 118 12 true:=⟨aMk⟩
instance:BI Tryz.prog 118 224:=⟨aPw⟩
instance:ZI Tryz.prog 118 (.agg [ratL 0,ratL 0,ratL 0,ratL 0]):=⟨aO9⟩
instance:UN Tryz.prog 122 (.slice 31):=⟨Tryz.underlying122⟩
theorem aO8:cF Tryz.prog 122 1 false:=⟨by kernel_rfl,_,Tryz.underlying122,rfl⟩
theorem aOW:bU Tryz.prog 122 24:=⟨Tryz.t122,by kernel_rfl,rfl⟩
theorem aOw:bN Tryz.prog 122 (.v (.slice none 0 0)):=⟨Tryz.t122,_,by kernel_rfl,rfl,rfl,fun _ _ _=>dF rfl⟩
instance:TI Tryz.prog 122 1 false:=⟨aO8⟩
instance:BI Tryz.prog 122 24:=⟨aOW⟩
instance:ZI Tryz.prog 122 (.v (.slice none 0 0)):=⟨aOw⟩
instance:UN Tryz.prog 159 (.slice 29):=⟨Tryz.underlying159⟩
theorem aLf:cF Tryz.prog 159 1 false:=⟨by kernel_rfl,_,Tryz.underlying159,rfl⟩
theorem aOM:bU Tryz.prog 159 24:=⟨Tryz.t159,by kernel_rfl,rfl⟩
theorem aOX:bN Tryz.prog 159 (.v (.slice none 0 0)):=⟨Tryz.t159,_,by kernel_rfl,rfl,rfl,fun _ _ _=>dF rfl⟩
instance:TI Tryz.prog 159 1 false:=⟨aLf⟩
instance:BI Tryz.prog 159 24:=⟨aOM⟩
instance:ZI Tryz.prog 159 (.v (.slice none 0 0)):=⟨aOX⟩
instance:UN Tryz.prog 161 (.int .u64):=⟨Tryz.underlying161⟩
theorem aPI:cF Tryz.prog 161 1 false:=⟨by kernel_rfl,_,Tryz.underlying161,rfl⟩
theorem aPH:bU Tryz.prog 161 8:=⟨Tryz.t161,by kernel_rfl,rfl⟩
theorem aPr:bN Tryz.prog 161 (.v (.int .u64 0)):=⟨Tryz.t161,_,by kernel_rfl,rfl,rfl,fun _ _ _=>dF rfl⟩
instance:TI Tryz.prog 161 1 false:=⟨aPI⟩
instance:BI Tryz.prog 161 8:=⟨aPH⟩
instance:ZI Tryz.prog 161 (.v (.int .u64 0)):=⟨aPr⟩
instance:UN Tryz.prog 182 (.int .u32):=⟨Tryz.underlying182⟩
theorem lD:cF Tryz.prog 182 1 false:=⟨by kernel_rfl,_,Tryz.underlying182,rfl⟩
theorem aBV:bU Tryz.prog 182 4:=⟨Tryz.t182,by kernel_rfl,rfl⟩
theorem zU:bN Tryz.prog 182 (.v (.int .u32 0)):=⟨Tryz.t182,_,by kernel_rfl,rfl,rfl,fun _ _ _=>dF rfl⟩
instance:TI Tryz.prog 182 1 false:=⟨lD⟩
instance:BI Tryz.prog 182 4:=⟨aBV⟩
instance:ZI Tryz.prog 182 (.v (.int .u32 0)):=⟨zU⟩
instance:UN Tryz.prog 187 (.array 2 29):=⟨Tryz.underlying187⟩
theorem aOL:cF Tryz.prog 187 6 true:=⟨by kernel_rfl,_,Tryz.underlying187,rfl⟩
theorem aOF:bU Tryz.prog 187 112:=⟨Tryz.t187,by kernel_rfl,rfl⟩
theorem aN5:bN Tryz.prog 187 (.agg [ratL 0,ratL 0]):=⟨Tryz.t187,_,by kernel_rfl,rfl,by simp [LV.pure,aY,aD.pure],fun _ _ _=>cJ (a9 (c1:=[.bool false,.slice none 0 0,.slice none 0 0]) (by simp [LV.csize,aT,aD.csize]) (bS) (a9 (c1:=[.bool false,.slice none 0 0,.slice none 0 0]) (by simp [LV.csize,aT,aD.csize]) (bS) (dH)))⟩
instance:TI Tryz.prog 187 6 true:=⟨aOL⟩
instance:BI Tryz.prog 187 112:=⟨aOF⟩
instance:ZI Tryz.prog 187 (.agg [ratL 0,ratL 0]):=⟨aN5⟩
instance:UN Tryz.prog 188 (.array 3 187):=⟨Tryz.underlying188⟩
theorem aN6:cF Tryz.prog 188 18 true:=⟨by kernel_rfl,_,Tryz.underlying188,rfl⟩
theorem aOQ:bU Tryz.prog 188 336:=⟨Tryz.t188,by kernel_rfl,rfl⟩
theorem aPP:bN Tryz.prog 188 (.agg [.agg [ratL 0,ratL 0],.agg [ratL 0,ratL 0],.agg [ratL 0,ratL 0]]):=⟨Tryz.t188,_,by kernel_rfl,rfl,by simp [LV.pure,aY,aD.pure],fun _ _ _=>cJ (a9 (c1:=[.bool false,.slice none 0 0,.slice none 0 0,.bool false,.slice none 0 0,.slice none 0 0]) (by simp [LV.csize,aT,aD.csize]) (cJ (a9 (c1:=[.bool false,.slice none 0 0,.slice none 0 0]) (by simp [LV.csize,aT,aD.csize]) (bS) (a9 (c1:=[.bool false,.slice none 0 0,.slice none 0 0]) (by simp [LV.csize,aT,aD.csize]) (bS) (dH)))) (a9 (c1:=[.bool false,.slice none 0 0,.slice none 0 0,.bool false,.slice none 0 0,.slice none 0 0]) (by simp [LV.csize,aT,aD.csize]) (cJ (a9 (c1:=[.bool false,.slice none 0 0,.slice none 0 0]) (by simp [LV.csize,aT,aD.csize]) (bS) (a9 (c1:=[.bool false,.slice none 0 0,.slice none 0 0]) (by simp [LV.csize,aT,aD.csize]) (bS) (dH)))) (a9 (c1:=[.bool false,.slice none 0 0,.slice none 0 0,.bool false,.slice none 0 0,.slice none 0 0]) (by simp [LV.csize,aT,aD.csize]) (cJ (a9 (c1:=[.bool false,.slice none 0 0,.slice none 0 0]) (by simp [LV.csize,aT,aD.csize]) (bS) (a9 (c1:=[.bool false,.slice none 0 0,.slice none 0 0]) (by simp [LV.csize,aT,aD.csize]) (bS) (dH)))) (dH))))⟩
instance:TI Tryz.prog 188 18 true:=⟨aN6⟩
instance:BI Tryz.prog 188 336:=⟨aOQ⟩
instance:ZI Tryz.prog 188 (.agg [.agg [ratL 0,ratL 0],.agg [ratL 0,ratL 0],.agg [ratL 0,ratL 0]]):=⟨aPP⟩
instance:UN Tryz.prog 193 (.int .u64):=⟨Tryz.underlying193⟩
theorem aO5:cF Tryz.prog 193 1 false:=⟨by kernel_rfl,_,Tryz.underlying193,rfl⟩
theorem aO2:bU Tryz.prog 193 8:=⟨Tryz.t193,by kernel_rfl,rfl⟩
theorem aOD:bN Tryz.prog 193 (.v (.int .u64 0)):=⟨Tryz.t193,_,by kernel_rfl,rfl,rfl,fun _ _ _=>dF rfl⟩
instance:TI Tryz.prog 193 1 false:=⟨aO5⟩
instance:BI Tryz.prog 193 8:=⟨aO2⟩
instance:ZI Tryz.prog 193 (.v (.int .u64 0)):=⟨aOD⟩
instance:UN Tryz.prog 197 (.slice 5):=⟨Tryz.underlying197⟩
theorem aN3:cF Tryz.prog 197 1 false:=⟨by kernel_rfl,_,Tryz.underlying197,rfl⟩
theorem aO4:bU Tryz.prog 197 24:=⟨Tryz.t197,by kernel_rfl,rfl⟩
theorem aOZ:bN Tryz.prog 197 (.v (.slice none 0 0)):=⟨Tryz.t197,_,by kernel_rfl,rfl,rfl,fun _ _ _=>dF rfl⟩
instance:TI Tryz.prog 197 1 false:=⟨aN3⟩
instance:BI Tryz.prog 197 24:=⟨aO4⟩
instance:ZI Tryz.prog 197 (.v (.slice none 0 0)):=⟨aOZ⟩
instance:UN Tryz.prog 222 (.slice 159):=⟨Tryz.underlying222⟩
theorem aOg:cF Tryz.prog 222 1 false:=⟨by kernel_rfl,_,Tryz.underlying222,rfl⟩
theorem aOq:bU Tryz.prog 222 24:=⟨Tryz.t222,by kernel_rfl,rfl⟩
theorem aPC:bN Tryz.prog 222 (.v (.slice none 0 0)):=⟨Tryz.t222,_,by kernel_rfl,rfl,rfl,fun _ _ _=>dF rfl⟩
instance:TI Tryz.prog 222 1 false:=⟨aOg⟩
instance:BI Tryz.prog 222 24:=⟨aOq⟩
instance:ZI Tryz.prog 222 (.v (.slice none 0 0)):=⟨aPC⟩
instance:UN Tryz.prog 239 (.slice 2):=⟨Tryz.underlying239⟩
theorem aNV:cF Tryz.prog 239 1 false:=⟨by kernel_rfl,_,Tryz.underlying239,rfl⟩
theorem aPj:bU Tryz.prog 239 24:=⟨Tryz.t239,by kernel_rfl,rfl⟩
theorem aO7:bN Tryz.prog 239 (.v (.slice none 0 0)):=⟨Tryz.t239,_,by kernel_rfl,rfl,rfl,fun _ _ _=>dF rfl⟩
instance:TI Tryz.prog 239 1 false:=⟨aNV⟩
instance:BI Tryz.prog 239 24:=⟨aPj⟩
instance:ZI Tryz.prog 239 (.v (.slice none 0 0)):=⟨aO7⟩
instance:UN Tryz.prog 241 (.slice 36):=⟨Tryz.underlying241⟩
theorem aOd:cF Tryz.prog 241 1 false:=⟨by kernel_rfl,_,Tryz.underlying241,rfl⟩
theorem aOi:bU Tryz.prog 241 24:=⟨Tryz.t241,by kernel_rfl,rfl⟩
theorem aPl:bN Tryz.prog 241 (.v (.slice none 0 0)):=⟨Tryz.t241,_,by kernel_rfl,rfl,rfl,fun _ _ _=>dF rfl⟩
instance:TI Tryz.prog 241 1 false:=⟨aOd⟩
instance:BI Tryz.prog 241 24:=⟨aOi⟩
instance:ZI Tryz.prog 241 (.v (.slice none 0 0)):=⟨aPl⟩
instance:UN Tryz.prog 255 (.array 0 16):=⟨Tryz.underlying255⟩
theorem aOc:cF Tryz.prog 255 0 true:=⟨by kernel_rfl,_,Tryz.underlying255,rfl⟩
theorem aOP:bU Tryz.prog 255 0:=⟨Tryz.t255,by kernel_rfl,rfl⟩
theorem aPx:bN Tryz.prog 255 (.agg []):=⟨Tryz.t255,_,by kernel_rfl,rfl,rfl,fun _ _ _=>cJ (dH)⟩
instance:TI Tryz.prog 255 0 true:=⟨aOc⟩
instance:BI Tryz.prog 255 0:=⟨aOP⟩
instance:ZI Tryz.prog 255 (.agg []):=⟨aPx⟩
theorem aNZ:cF Tryz.prog 262 1 false:=⟨by kernel_rfl,_,Tryz.underlying262,rfl⟩
theorem aN7:bU Tryz.prog 262 8:=⟨Tryz.t262,by kernel_rfl,rfl⟩
theorem aPO:bN Tryz.prog 262 (.v (.pointer none)):=⟨Tryz.t262,_,by kernel_rfl,rfl,rfl,fun _ _ _=>dF rfl⟩
instance:TI Tryz.prog 262 1 false:=⟨aNZ⟩
instance:BI Tryz.prog 262 8:=⟨aN7⟩
instance:ZI Tryz.prog 262 (.v (.pointer none)):=⟨aPO⟩
theorem aMn:bN Tryz.prog 42 (spL (0,0)):=by rw [nA];exact Z42
instance:EC Tryz.prog 2 lJ 1 false 0:=⟨rE,Z2,T2⟩
instance:EC Tryz.prog 3 lJ 1 false 0:=⟨rE,Z3,T3⟩
instance:EC Tryz.prog 29 ratL 3 true 0:=⟨aD,Z29,cX⟩
instance:EC Tryz.prog 31 fA 9 true ⟨0,0,0⟩:=⟨fF,Z31,sW⟩
instance:EC Tryz.prog 42 spL 6 true (0,0):=⟨jK,aMn,T42⟩
instance:AE Tryz.prog 42 spL 6 true (0,0):=⟨jK,aMn⟩
instance:EC Tryz.prog 46 lJ 1 false 0:=⟨rE,Z46,T46⟩
instance:EC Tryz.prog 62 gZ 12 true ⟨⟨0,0,0⟩,0⟩:=⟨eI,Z62,uC⟩
instance:EC Tryz.prog 182 cB 1 false 0:=⟨cT,zU,lD⟩
section
variable {f:FuncId} {fn:Func} {c:Code} {args:List LV} {r:LV}
theorem dI (hf:Tryz.prog.funcs[f]?=some fn)
  (h:wpL Tryz.prog c (fun e L=>match e with | .exit _=>False | _=>oX Tryz.prog fn.results.toList L r []) (St.mk (fun t=>args.getD t .any) (hp [])))
  (hb:fn.body=some c:=by exact rfl) (hn:(fn.name== "runtime.NumGoroutine")=false:=by decide +kernel) (hd:fM fn.ntmps c=true:=by decide +kernel) (hlen:args.length≤fn.ntmps:=by exact Nat.le_of_ble_eq_true rfl) (ht:∀ g,r.ren g=r:=by exact tm0):aM Tryz.prog f args r:=aFL fol hf hb hn hd hlen ht h
theorem fnO {bs:List Blk} (hf:Tryz.prog.funcs[f]?=some fn)
  (h:wpL Tryz.prog c (fun e L=>match e with | .exit _=>False | _=>oX Tryz.prog fn.results.toList L r bs) (St.mk (fun t=>args.getD t .any) (hp [])))
  (hb:fn.body=some c:=by exact rfl) (hn:(fn.name== "runtime.NumGoroutine")=false:=by decide +kernel) (hd:fM fn.ntmps c=true:=by decide +kernel) (hlen:args.length≤fn.ntmps:=by exact Nat.le_of_ble_eq_true rfl):f3 Tryz.prog f args r bs:=aHg fol hf hb hn hd hlen h
theorem fnM {blk blk':Blk} (hf:Tryz.prog.funcs[f]?=some fn)
  (h:wpL Tryz.prog c (fun e L=>match e with | .exit _=>False | _=>aBs Tryz.prog fn.results.toList L r blk') (St.mk (fun t=>args.getD t .any) (hp [(0,blk)])))
  (hb:fn.body=some c:=by exact rfl) (hn:(fn.name== "runtime.NumGoroutine")=false:=by decide +kernel) (hd:fM fn.ntmps c=true:=by decide +kernel) (hlen:args.length≤fn.ntmps:=by exact Nat.le_of_ble_eq_true rfl) (hmt:blk.mt=true:=by exact rfl):gH Tryz.prog f blk args r blk':=aFK fol hf hb hn hd hlen hmt h
end
end Go.Proofs.YtfpdccbgngdhkaaGreat
end
section
set_option linter.unusedVariables false
set_option linter.unusedSimpArgs false
set_option maxHeartbeats 8000000
set_option maxRecDepth 100000
attribute [local irreducible] Go.Lg.opsL Go.Lg.wpL Go.Lg.thenL Go.Lg.blockL
namespace Go.Proofs.YtfpdccbgngdhkaaGreat
open Go.Lg
namespace Zq144
theorem rG {p q:Prop} (k:q) (e:p=q:=by simp only [e1,e2,e3,e4,p1,p2,p3,q1,q2,q3,l1,t0,t1,r1,r2,r3,r4,Nat.zero_add,Nat.reduceMul,Nat.reduceAdd,b1,b2,b3,b4,b5,b6,i1,i2,i3,i4,i5,i6,Nat.reduceBEq,ej,ek];exact rfl):p:=e.mpr k
theorem nf1 {p:Prop} (h:p:=by first | (refine rG ?_;exact rfl) | exact rfl):p:=h
theorem aLL {p q:Prop} (k:q) (e:p=q:=by simp only [e1,e2,e3,e4,p1,p2,p3,q1,q2,q3,l1,t0,t1,r1,r2,r3,r4,Nat.zero_add,Nat.reduceMul,Nat.reduceAdd,b1,b2,b3,b4,b5,b6,i1,i2,i3,i4,i5,i6,Nat.reduceBEq,ek];exact rfl):p:=e.mpr k
theorem nf2 {p:Prop} (h:p:=by first | (refine aLL ?_;exact rfl) | exact rfl):p:=h
end Zq144
open Zq144 H0 in
theorem aGi (l:List Nat) (hl:l.length≤4611686018427387904):aM Tryz.prog 208 [fV l] (fV (qO l)):=by
 unfold fV qO
 refine dI Tryz.func208 ?_
 refine gC ?_
 refine lX (fun(k:Nat) L=>(((St.mk L.slot (hp [])).put (some 0) (.list 1 (l.map cB))).put (some 3) (aE k))) (fun k=>k≤l.length∧fZ l.length l=fZ k l) (fun k=>k) l.length ⟨Nat.le_refl _,rfl⟩ ?_
 rintro k L1 ⟨hk,hkt⟩
 refine dB ?_
 refine dJ 8 rfl (fun h8r h8=>?_) (fun h8r h8=>?_)
 ·obtain⟨j,rfl⟩:∃ j,k=j+1:=⟨k-1,by omega⟩
  have ej:(((j+1:Nat):Int)-1).toNat=j:=by omega
  have ek:(((j+1:Nat):Int)-1)=j:=by omega
  refine dL ?_
  refine jU nf1 ?_
  refine bE ?_
  refine aK rfl (fun h15r h15=>?_) (fun h15r h15=>?_)
  ·refine dL ?_
   refine jU nf2 ?_
   refine cY ?_
   exact kE j ⟨by omega,hkt.trans (by simp only [fZ];rw [if_pos (by simpa using h15)])⟩
  ·refine dU ?_
   refine aB rfl (by first | exact .sliceLh (h:=_) cT rfl Tryz.underlying27 lD rfl om | exact .sliceRh rfl Tryz.underlying27 lD rfl om om) ?_
   refine cO ?_
   rw [hkt,fZ,if_neg (by simpa using h15)]
   exact bM rfl (.pure (aG cT _ _))
 ·have hk0:k=0:=by omega
  subst hk0
  have ej:True:=trivial
  have ek:True:=trivial
  refine dL ?_
  refine jU nf1 ?_
  refine cV ?_
  refine aB rfl (by first | exact .sliceLh (h:=_) cT rfl Tryz.underlying27 lD rfl om | exact .sliceRh rfl Tryz.underlying27 lD rfl om om) ?_
  refine cO ?_
  rw [hkt]
  exact bM rfl (.pure (aG cT _ _))
namespace Zq1
theorem dG {p q:Prop} (k:q) (e:p=q:=by simp only [e1,e2,e3,e4,p1,p2,p3,q1,q2,q3,l1,t0,t1,r1,r2,r3,r4,Nat.zero_add,Nat.reduceMul,Nat.reduceAdd,b1,b2,b3,b4,b5,b6,i1,i2,i3,i4,i5,i6,Nat.reduceBEq,fC];exact rfl):p:=e.mpr k
end Zq1
open Zq1 in
theorem aFO (a b:List Nat) (ha:fT a) (hb:fT b) (hla:a.length≤1099511627776) (hlb:b.length≤1099511627776):aM Tryz.prog 207 [fV a,fV b] (bW (val a+val b)):=by
 unfold fV bW
 refine dI Tryz.func207 ?_
 refine iJ ?_
 refine eB (fun L=>∃ (x:List Nat) (y:List Nat) (L1:St),(fT x∧fT y∧x.length≤1099511627776∧y.length≤x.length∧val a+val b=val x+val y)∧L=(((St.mk L1.slot (hp [])).put (some 0) (.list 1 (x.map cB))).put (some 1) (.list 1 (y.map cB)))) ?_ ?_
 ·refine aK rfl (fun h13r h13=>?_) (fun h13r h13=>?_)
  ·refine dL ?_
   exact⟨b,a,_,⟨hb,ha,hlb,by omega,Nat.add_comm _ _⟩,((aA (aA (bC cl) cl) cl)).symm⟩
  ·refine cY ?_
   exact⟨a,b,_,⟨ha,hb,hla,by omega,rfl⟩,((aA (aA (bC cl) cl) cl)).symm⟩
 ·rintro _ ⟨x,y,LC13,⟨hx,hy,hlx,hyx,hxy⟩,rfl⟩
  rw [hxy]
  refine dB ?_
  refine dD rfl rfl (.mkE (n:=x.length+1) (m:=x.length+1) ml ml om om om) ?_
  refine nY ?_
  refine lp3 (fun(k:Nat) (o:List Nat) (c:Nat) L=>((((((((St.mk L.slot (hp [(19,⟨1,o.map cB,true⟩)])).put (some 0) (.list 1 (x.map cB))).put (some 1) (.list 1 (y.map cB))).put (some 5) (.ref 19 1 0 (x.length+1))).put (some 6) (dV c)).put (some 20) (.list 1 (x.map cB))).put (some 21) (aE x.length)).put (some 22) (aE k))) (fun k o c=>k≤x.length∧o.length=x.length+1∧c≤1∧fT o∧val (o.take k)+4294967296 ^ k*c=val (x.take k)+val (y.take k)) (fun k o c=>x.length-k) 0 (List.replicate (x.length+1) 0) 0 ⟨Nat.zero_le _,by simp,by omega,gQ _,by simp [val]⟩ ?_
  rintro k o c L1 ⟨hk,hol,hc,hlo,hv⟩
  have hxk:=cZ hx k
  have hyk:=cZ hy k
  refine dB ?_
  refine aK rfl (fun h23r h23=>?_) (fun h23r h23=>?_)
  ·refine aPq ?_
   refine aK rfl (fun h34r h34=>?_) (fun h34r h34=>?_)
   ·refine aOl ?_
    exact nx3 (k+1) (o.set k ((c+x.getD k 0+y.getD k 0) % 4294967296)) ((c+x.getD k 0+y.getD k 0)/4294967296) ⟨by omega,by simp [hol],by omega,eX hlo _ _ (Nat.mod_lt _ (by omega)),aDy (by omega) hv rfl⟩
   ·refine aCj ?_
    exact nx3 (k+1) (o.set k ((c+x.getD k 0) % 4294967296)) ((c+x.getD k 0)/4294967296) ⟨by omega,by simp [hol],by omega,eX hlo _ _ (Nat.mod_lt _ (by omega)),aDy (by omega) hv (by rw [jL y k (by omega)];rfl)⟩
  ·obtain rfl:k=x.length:=by omega
   refine mZ ?_
   refine cpf [19] fm1 (aGi _ (by first | omega | (simp;done) | (simp;omega))) ?_
   refine cO ?_
   rw [←aJE (c:=c % 4294967296) hyx hol hlo (by omega) (by rw [Nat.mod_eq_of_lt (by omega)];exact hv)]
   exact bM rfl (.pure (bA _))
theorem g9 (l:List Nat) (h:fT l) (hl:l.length≤4611686018427387904):aM Tryz.prog 208 [fV l] (bW (val l)):=by
 have:=aGi l hl
 rwa [gJ h] at this
namespace Zq79
theorem dG {p q:Prop} (k:q) (e:p=q:=by simp only [e1,e2,e3,e4,p1,p2,p3,q1,q2,q3,l1,t0,t1,r1,r2,r3,r4,Nat.zero_add,Nat.reduceMul,Nat.reduceAdd,b1,b2,b3,b4,b5,b6,i1,i2,i3,i4,i5,i6,Nat.reduceBEq,fC,ej];exact rfl):p:=e.mpr k
end Zq79
open Zq79 in
theorem aHR (a:List Nat) (hl:a.length≤4611686018427387904):aM Tryz.prog 223 [fV a] (bL (decide (a.length=0∨a.getD (a.length-1) 0≠0))):=by
 unfold fV
 refine dI Tryz.func223 ?_
 have ej:True:=trivial
 refine cV ?_
 refine dJ 6 rfl (fun h6r h6=>?_) (fun h6r h6=>?_)
 ·have ej:True:=trivial
  refine cW ?_
  refine bM ?_ (.pure rfl)
  simp only [e1,e2,e3,e4,p1,p2,p3,q1,q2,q3,Nat.reduceBEq]
  congr 2
  first | (symm;rw [decide_eq_true_iff];omega) | (rw [Bool.eq_iff_iff,bne_iff_ne,decide_eq_true_iff];omega)
 ·have ej:((a.length:Int)-1).toNat=a.length-1:=by omega
  refine cW ?_
  refine bM ?_ (.pure rfl)
  simp only [e1,e2,e3,e4,p1,p2,p3,q1,q2,q3,Nat.reduceBEq]
  congr 2
  first | (symm;rw [decide_eq_true_iff];omega) | (rw [Bool.eq_iff_iff,bne_iff_ne,decide_eq_true_iff];omega)
namespace Zq151
theorem dG {p q:Prop} (k:q) (e:p=q:=by simp only [e1,e2,e3,e4,p1,p2,p3,q1,q2,q3,l1,t0,t1,r1,r2,r3,r4,Nat.zero_add,Nat.reduceMul,Nat.reduceAdd,b1,b2,b3,b4,b5,b6,i1,i2,i3,i4,i5,i6,Nat.reduceBEq,fC,ej,ek];exact rfl):p:=e.mpr k
end Zq151
open Zq151 in
theorem aFS (a:List Nat) (h:fT a) (hl:a.length≤2):aM Tryz.prog 260 [fV a] (dV (val a)):=by
 unfold fV
 refine dI Tryz.func260 ?_
 have ej:True:=trivial
 have ek:True:=trivial
 refine mV ?_
 refine nD (fun(k n:Nat) L=>((((St.mk L.slot (hp [])).put (some 0) (.list 1 (a.map cB))).put (some 3) (dV n)).put (some 4) (iL ((k:Int)-1)))) (fun k n=>k≤a.length∧n=val (a.drop k)) (fun k n=>k) a.length 0 ⟨Nat.le_refl _,by simp [val]⟩ ?_
 rintro k n L1 ⟨hk,hn⟩
 refine dL ?_
 refine aK rfl (fun h9r h9=>?_) (fun h9r h9=>?_)
 ·obtain⟨j,rfl⟩:∃ j,k=j+1:=⟨k-1,by omega⟩
  have ej:(((j+1:Nat):Int)-1).toNat=j:=by omega
  have ek:(((j+1:Nat):Int)-1)=j:=by omega
  have hb:=cZ h j
  have hn2:n<4294967296:=by have:=tU h (k:=j+1) (j:=1) (by omega);rw [hn];simpa using this
  refine aCf ?_
  exact lI j (n*4294967296+a.getD j 0) ⟨by omega,by rw [fQ (by omega),hn];omega⟩
 ·obtain rfl:k=0:=by omega
  have ej:True:=trivial
  have ek:True:=trivial
  rw [List.drop_zero] at hn
  rw [←hn]
  refine cW ?_
  exact bM rfl (by first | exact .pure rfl | exact .pure (bA _) | exact .pure (aO _) | exact .pure (aD.pure _) | exact .pure (aG cT _ _) | exact .pure (aG aD _ _))
namespace Zq74
theorem dG {p q:Prop} (k:q) (e:p=q:=by simp only [e1,e2,e3,e4,p1,p2,p3,q1,q2,q3,l1,t0,t1,r1,r2,r3,r4,Nat.zero_add,Nat.reduceMul,Nat.reduceAdd,b1,b2,b3,b4,b5,b6,i1,i2,i3,i4,i5,i6,Nat.reduceBEq,fC,ej,ek];exact rfl):p:=e.mpr k
end Zq74
open Zq74 in
theorem vR (a b:List Nat) (ha:fT a) (hb:fT b) (hla:a.length≤1099511627776) (hlb:b.length≤1099511627776):aM Tryz.prog 219 [fV a,fV b] (iL (kD (val a) (val b))):=by
 refine dI Tryz.func219 ?_
 have ej:True:=trivial
 have ek:True:=trivial
 refine eC ?_
 refine cp dC (g9 _ (by first | assumption | exact aX _) (by omega)) ?_
 refine bE ?_
 refine cp dC (g9 _ (by first | assumption | exact aX _) (by omega)) ?_
 refine gC ?_
 refine aK rfl (fun h14r h14=>?_) (fun h14r h14=>?_)
 ·have hla2:(a7 (val a)).length≤1099511627776:=by rw [←gJ ha];unfold qO;simp;omega
  refine cN ?_
  refine aK rfl (fun h19r h19=>?_) (fun h19r h19=>?_)
  ·have hE:=qB (m:=val a) (n:=val b) (by omega)
   refine eC ?_
   first | (rw [hY hE];exact bM rfl (.pure rfl)) | (rw [iZ hE];exact bM rfl (.pure rfl)) | (rw [jN hE];exact bM rfl (.pure rfl))
  ·have hE:=qB (m:=val b) (n:=val a) (by omega)
   refine dU ?_
   first | (rw [hY hE];exact bM rfl (.pure rfl)) | (rw [iZ hE];exact bM rfl (.pure rfl)) | (rw [jN hE];exact bM rfl (.pure rfl))
 ·have hlen:(a7 (val a)).length=(a7 (val b)).length:=by omega
  have hla2:(a7 (val a)).length≤1099511627776:=by rw [←gJ ha];unfold qO;simp;omega
  clear h14 h14r
  refine cW ?_
  refine lX (fun(k:Nat) L=>((((St.mk L.slot (hp [])).put (some 0) (bW (val a))).put (some 1) (bW (val b))).put (some 5) (iL ((k:Int)-1)))) (fun k=>k≤(a7 (val a)).length∧(a7 (val a)).drop k=(a7 (val b)).drop k) (fun k=>k) ((a7 (val a)).length) ⟨Nat.le_refl _,by rw [List.drop_length,List.drop_of_length_le (by omega)]⟩ ?_
  rintro k L1 ⟨hk,hd⟩
  refine dL ?_
  refine aK rfl (fun h24r h24=>?_) (fun h24r h24=>?_)
  ·obtain⟨j,rfl⟩:∃ j,k=j+1:=⟨k-1,by omega⟩
   have ej:(((j+1:Nat):Int)-1).toNat=j:=by omega
   have ek:(((j+1:Nat):Int)-1)=j:=by omega
   refine dR ?_
   refine aP 9 (by decide +kernel) ?_
   refine cV ?_
   refine aK rfl (fun h35r h35=>?_) (fun h35r h35=>?_)
   ·refine cY ?_
    refine aP 9 (by decide +kernel) ?_
    refine cV ?_
    refine aK rfl (fun h44r h44=>?_) (fun h44r h44=>?_)
    ·have hE:=kN (aX (val a)) (k:=j) (by omega) (by omega) hd (by omega)
     rw [aV,aV] at hE
     refine cW ?_
     first | (rw [hY hE];exact bM rfl (.pure rfl)) | (rw [iZ hE];exact bM rfl (.pure rfl)) | (rw [jN hE];exact bM rfl (.pure rfl))
    ·have hE:=kN (aX (val b)) (k:=j) (by omega) (by omega) hd.symm (by omega)
     rw [aV,aV] at hE
     refine eA ?_
     first | (rw [hY hE];exact bM rfl (.pure rfl)) | (rw [iZ hE];exact bM rfl (.pure rfl)) | (rw [jN hE];exact bM rfl (.pure rfl))
   ·refine dU ?_
    exact kE j ⟨by omega,wV (by omega) (by omega) hd (by omega)⟩
  ·obtain rfl:k=0:=by omega
   have ej:True:=trivial
   have ek:True:=trivial
   rw [List.drop_zero,List.drop_zero] at hd
   have hE:val a=val b:=by have:=congrArg val hd;rwa [aV,aV] at this
   refine cV ?_
   first | (rw [hY hE];exact bM rfl (.pure rfl)) | (rw [iZ hE];exact bM rfl (.pure rfl)) | (rw [jN hE];exact bM rfl (.pure rfl))
theorem t6 {b:List Nat} (h:fT b):(a7 (val b)).length≤b.length:=by
 rw [←gJ h];unfold qO;simp;exact Nat.min_le_right _ _
open H0 in
theorem aG9 (a b:List Nat) (ha:fT a) (hb:fT b) (hla:a.length≤1099511627776) (hlb:b.length≤1099511627776) (hlt:val a<val b):aM Tryz.prog 218 [fV a,fV b] (.tup [fV [],iL 7]):=by
 refine dI Tryz.func218 ?_
 refine cV ?_
 refine cp b9 (vR _ _ (by first | assumption | exact aX _) (by first | assumption | exact aX _) (by omega) (by omega)) ?_
 refine cP ?_
 refine aK rfl (fun h15r h15=>?_) (fun h15r h15=>?_)
 ·refine eC ?_
  exact tE rfl (.nil 1) rfl (.pure rfl)
 ·exfalso;rw [hY hlt] at h15;omega
theorem aGG {k br:Nat} {a b o:List Nat} (hol:k<o.length) (hbr:br≤1) (hx:a.getD k 0<4294967296) (hyb:b.getD k 0<4294967296) (hlo:fT o) (hv:val (o.take k)+val (b.take k)=val (a.take k)+4294967296 ^ k*br) {y d:Nat}
  (hy:y=br+b.getD k 0) (hd:d=(18446744073709551616+a.getD k 0-y) % 18446744073709551616) :
  d/9223372036854775808≤1∧fT (o.set k (d % 4294967296))∧val ((o.set k (d % 4294967296)).take (k+1))+val (b.take (k+1))=val (a.take (k+1))+4294967296 ^ (k+1)*(d/9223372036854775808):=by
 refine⟨by omega,eX hlo _ _ (by omega),?_⟩
 rcases Nat.lt_or_ge (a.getD k 0) y with h | h
 ·have h1:d % 4294967296=4294967296+a.getD k 0-y:=by omega
  have h2:d/9223372036854775808=1:=by omega
  rw [h1,h2]
  exact aBu hol hv hy h (by omega)
 ·have h1:d % 4294967296=a.getD k 0-y:=by omega
  have h2:d/9223372036854775808=0:=by omega
  rw [h1,h2]
  exact aA9 hol hv hy h
namespace Zq78
theorem dG {p q:Prop} (k:q) (e:p=q:=by simp only [e1,e2,e3,e4,p1,p2,p3,q1,q2,q3,l1,t0,t1,r1,r2,r3,r4,Nat.zero_add,Nat.reduceMul,Nat.reduceAdd,b1,b2,b3,b4,b5,b6,i1,i2,i3,i4,i5,i6,Nat.reduceBEq,fC];exact rfl):p:=e.mpr k
end Zq78
open Zq78 in
theorem aLV (a b:List Nat) (ha:fT a) (hb:fT b) (hla:a.length≤1099511627776) (hlb:b.length≤1099511627776) (hle:val b≤val a):aM Tryz.prog 218 [fV a,fV b] (.tup [bW (val a-val b),iL 0]):=by
 have hbl:(a7 (val b)).length≤a.length:=by
  apply fD;exact Nat.lt_of_le_of_lt hle (q7 ha)
 refine dI Tryz.func218 ?_
 refine cV ?_
 refine cp b9 (vR _ _ (by first | assumption | exact aX _) (by first | assumption | exact aX _) (by omega) (by omega)) ?_
 refine cP ?_
 refine aK rfl (fun h15r h15=>?_) (fun h15r h15=>?_)
 ·exfalso
  rcases Nat.lt_or_eq_of_le hle with h | h
  ·rw [iZ h] at h15;omega
  ·rw [jN h.symm] at h15;omega
 ·refine dR ?_
  refine cp dC (g9 _ (by first | assumption | exact aX _) (by omega)) ?_
  refine dL ?_
  refine dD rfl rfl (.mkE (n:=a.length) (m:=a.length) ml ml om om om) ?_
  refine nY ?_
  refine lp3 (fun(k:Nat) (o:List Nat) (br:Nat) L=>((((((((St.mk L.slot (hp [(20,⟨1,o.map cB,true⟩)])).put (some 0) (.list 1 (a.map cB))).put (some 1) (bW (val b))).put (some 6) (.ref 20 1 0 a.length)).put (some 7) (dV br)).put (some 21) (.list 1 (a.map cB))).put (some 22) (aE a.length)).put (some 23) (aE k))) (fun k o br=>k≤a.length∧o.length=a.length∧br≤1∧fT o∧val (o.take k)+val ((a7 (val b)).take k)=val (a.take k)+4294967296 ^ k*br) (fun k o br=>a.length-k) 0 (List.replicate a.length 0) 0 ⟨Nat.zero_le _,by simp,by omega,gQ _,by simp [val]⟩ ?_
  rintro k o br L1 ⟨hk,hol,hbr,hlo,hv⟩
  have hxk:=cZ ha k
  have hyk:=bT (val b) k
  refine dB ?_
  refine aK rfl (fun h24r h24=>?_) (fun h24r h24=>?_)
  ·refine aMC ?_
   refine eB (fun L=>∃ (y:Nat) (L1:St),(y=br+(a7 (val b)).getD k 0)∧L=(((((((((((St.mk L1.slot (hp [(20,⟨1,o.map cB,true⟩)])).put (some 0) (.list 1 (a.map cB))).put (some 1) (bW (val b))).put (some 6) (.ref 20 1 0 a.length)).put (some 7) (dV br)).put (some 21) (.list 1 (a.map cB))).put (some 22) (aE a.length)).put (some 23) (aE k)).put (some 9) (cB (a.getD k 0))).put (some 8) (aE k)).put (some 10) (dV y))) ?_ ?_
   ·refine aK rfl (fun h32r h32=>?_) (fun h32r h32=>?_)
    ·refine cV ?_
     exact⟨br+(a7 (val b)).getD k 0,_,rfl,((aA (aA (aA (aA (aA (aA (aA (aA (aA (aA (bC cl) cl) cl) cl) cl) cl) cl) cl) cl) cl) cl)).symm⟩
    ·refine cY ?_
     exact⟨br,_,by rw [jL _ k (by omega)];rfl,((aA (aA (aA (aA (aA (aA (aA (aA (aA (aA (bC cl) cl) cl) cl) cl) cl) cl) cl) cl) cl) cl)).symm⟩
   ·rintro _ ⟨y,LC32,hy,rfl⟩
    refine dB ?_
    refine aB rfl (.bin rfl rfl (aFw (by omega))) ?_
    refine aE0 ?_
    exact nx3 (k+1) (o.set k ((18446744073709551616+a.getD k 0-y) % 18446744073709551616 % 4294967296)) ((18446744073709551616+a.getD k 0-y) % 18446744073709551616/9223372036854775808) ⟨by omega,by simp [hol],aGG (by omega) hbr hxk hyk hlo hv hy rfl⟩
  ·obtain rfl:k=a.length:=by omega
   refine eC ?_
   refine cpf [20] fm1 (g9 _ (by first | assumption | exact aX _) (by omega)) ?_
   refine dR ?_
   have e:=aEg ha hlo hol hbl (by rw [aV];exact hle) hv
   rw [gJ hlo,aV] at e
   have e2:=congrArg val e
   rw [aV,aV] at e2
   rw [←e2]
   exact tE rfl (.pure (aO _)) rfl (.pure rfl)
theorem aBQ {c x y z:Nat} (hc:c<4294967296) (hx:x<4294967296) (hy:y<4294967296) (hz:z<4294967296):c+(x*y+z)<18446744073709551616:=by
 have:=oN hx hy;omega
theorem mul_zero {i x:Nat} {a b o:List Nat} (hx:x=a.getD i 0) (h0:x=0) (hv:val o=val (a.take i)*val b):val o=val (a.take (i+1))*val b:=by
 rw [cU,←hx,h0];simpa using hv
theorem y8 {i m j x:Nat} {o:List Nat} (hj:j<m) (hz:∀ p,i+m≤p→o.getD p 0=0):∀ p,i+m≤p→(o.set (i+j) x).getD p 0=0:=fun p hp=>by
 rw [Go.Lg.getD_set_ne _ _ _ _ (by omega)];exact hz p hp
theorem y5 {i m x:Nat} {o:List Nat} (hz:∀ p,i+m≤p→o.getD p 0=0):∀ p,i+1+m≤p→(o.set (i+m) x).getD p 0=0:=fun p hp=>by
 rw [Go.Lg.getD_set_ne _ _ _ _ (by omega)];exact hz p (by omega)
theorem wF (n p:Nat):(List.replicate n 0).getD p 0=0:=by
 rw [List.getD_eq_getElem?_getD,List.getElem?_replicate];split<;>rfl
namespace Zq77
theorem dG {p q:Prop} (k:q) (e:p=q:=by simp only [e1,e2,e3,e4,p1,p2,p3,q1,q2,q3,l1,t0,t1,r1,r2,r3,r4,Nat.zero_add,Nat.reduceMul,Nat.reduceAdd,b1,b2,b3,b4,b5,b6,i1,i2,i3,i4,i5,i6,Nat.reduceBEq,fC,eij];exact rfl):p:=e.mpr k
end Zq77
open Zq77 in
theorem n5 (a b:List Nat) (ha:fT a) (hb:fT b) (hla:a.length≤1099511627776) (hlb:b.length≤1099511627776):aM Tryz.prog 137 [fV a,fV b] (bW (val a*val b)):=by
 unfold fV
 refine dI Tryz.func137 ?_
 have eij:True:=trivial
 refine cW ?_
 refine dD rfl rfl (.mkE (n:=a.length+b.length) (m:=a.length+b.length) ml ml om om om) ?_
 refine cW ?_
 refine nD (fun(i:Nat) (o:List Nat) L=>(((((((St.mk L.slot (hp [(16,⟨1,o.map cB,true⟩)])).put (some 0) (.list 1 (a.map cB))).put (some 1) (.list 1 (b.map cB))).put (some 5) (.ref 16 1 0 (a.length+b.length))).put (some 17) (.list 1 (a.map cB))).put (some 18) (aE a.length)).put (some 19) (aE i))) (fun i o=>i≤a.length∧o.length=a.length+b.length∧fT o∧val o=val (a.take i)*val b∧∀ p,i+b.length≤p→o.getD p 0=0) (fun i o=>a.length-i) 0 (List.replicate (a.length+b.length) 0) ⟨Nat.zero_le _,by simp,gQ _,by simp [val,pZ],fun p _=>wF _ _⟩ ?_
 rintro i o L1 ⟨hi,hol,hlo,hv,hz⟩
 have hxi:=cZ ha i
 have eij:True:=trivial
 refine dB ?_
 refine aK rfl (fun h20r h20=>?_) (fun h20r h20=>?_)
 ·refine mV ?_
  refine aK rfl (fun h25r h25=>?_) (fun h25r h25=>?_)
  ·refine dU ?_
   exact lI (i+1) o ⟨by omega,hol,hlo,mul_zero rfl (by omega) hv,fun p hp=>hz p (by omega)⟩
  ·refine mY ?_
   refine lp3 (fun(j:Nat) (o:List Nat) (c:Nat) L=>(((((((((((((St.mk L.slot (hp [(16,⟨1,o.map cB,true⟩)])).put (some 0) (.list 1 (a.map cB))).put (some 1) (.list 1 (b.map cB))).put (some 5) (.ref 16 1 0 (a.length+b.length))).put (some 17) (.list 1 (a.map cB))).put (some 18) (aE a.length)).put (some 19) (aE i)).put (some 6) (aE i)).put (some 7) (cB (a.getD i 0))).put (some 8) (dV c)).put (some 26) (.list 1 (b.map cB))).put (some 27) (aE b.length)).put (some 28) (aE j))) (fun j o c=>j≤b.length∧o.length=a.length+b.length∧fT o∧c<4294967296∧val o+4294967296 ^ (i+j)*c=val (a.take i)*val b+4294967296 ^ i*(a.getD i 0*val (b.take j))∧∀ p,i+b.length≤p→o.getD p 0=0) (fun j o c=>b.length-j) 0 o 0 ⟨Nat.zero_le _,hol,hlo,by omega,by rw [hv];simp [val],hz⟩ ?_
   rintro j o c L2 ⟨hj,hol,hlo,hc,hv,hz⟩
   have hyj:=cZ hb j
   have hzj:=cZ hlo (i+j)
   have hs:=aBQ hc hxi hyj hzj
   have eij:((i:Int)+(j:Int)).toNat=i+j:=by omega
   refine dB ?_
   refine aK rfl (fun h29r h29=>?_) (fun h29r h29=>?_)
   ·refine aPc ?_
    exact nx3 (j+1) (o.set (i+j) ((c+(a.getD i 0*b.getD j 0+o.getD (i+j) 0)) % 4294967296)) ((c+(a.getD i 0*b.getD j 0+o.getD (i+j) 0))/4294967296) ⟨by omega,by simp [hol],eX hlo _ _ (Nat.mod_lt _ (by omega)),by omega,aDH (by omega) hv rfl,y8 (by omega) hz⟩
   ·obtain rfl:j=b.length:=by omega
    have eij2:((i:Int)+(b.length:Int)).toNat=i+b.length:=by omega
    refine aCf ?_
    exact lI (i+1) (o.set (i+b.length) (c % 4294967296)) ⟨by omega,by simp [hol],eX hlo _ _ (Nat.mod_lt _ (by omega)),by rw [Nat.mod_eq_of_lt hc];exact aDn (by omega) (by omega) (hz _ (Nat.le_refl _)) rfl rfl hv,y5 hz⟩
 ·obtain rfl:i=a.length:=by omega
  refine eC ?_
  refine cpf [16] fm1 (g9 _ (by first | assumption | exact aX _) (by first | omega | (simp;done) | (simp;omega))) ?_
  refine cO ?_
  rw [List.take_length] at hv
  rw [←hv]
  exact bM rfl (by first | exact .pure rfl | exact .pure (bA _) | exact .pure (aO _) | exact .pure (aD.pure _) | exact .pure (aG cT _ _) | exact .pure (aG aD _ _))
namespace Zq81
theorem dG {p q:Prop} (k:q) (e:p=q:=by simp only [e1,e2,e3,e4,p1,p2,p3,q1,q2,q3,l1,t0,t1,r1,r2,r3,r4,Nat.zero_add,Nat.reduceMul,Nat.reduceAdd,b1,b2,b3,b4,b5,b6,i1,i2,i3,i4,i5,i6,Nat.reduceBEq,fC,ej,ek];exact rfl):p:=e.mpr k
end Zq81
open Zq81 in
theorem aHP (a:List Nat) (d:Nat) (ha:fT a) (hla:a.length≤1099511627776) (hd0:0<d) (hd:d<4294967296):aM Tryz.prog 261 [fV a,oG d] (.tup [bW (val a/d),oG (val a % d)]):=by
 unfold fV
 refine dI Tryz.func261 ?_
 have ej:True:=trivial
 have ek:True:=trivial
 refine cN ?_
 refine dD rfl rfl (.mkE (n:=a.length) (m:=a.length) ml ml om om om) ?_
 refine pP ?_
 refine lp3 (fun(k:Nat) (q:List Nat) (r:Nat) L=>((((((St.mk L.slot (hp [(11,⟨1,q.map cB,true⟩)])).put (some 0) (.list 1 (a.map cB))).put (some 1) (oG d)).put (some 6) (.ref 11 1 0 a.length)).put (some 7) (dV r)).put (some 8) (iL ((k:Int)-1)))) (fun k q r=>k≤a.length∧q.length=a.length∧fT q∧r<d∧val (q.drop k)*d+r=val (a.drop k)) (fun k q r=>k) a.length (List.replicate a.length 0) 0 ⟨Nat.le_refl _,by simp,gQ _,hd0,by simp [val]⟩ ?_
 rintro k q r L1 ⟨hk,hql,hlq,hr,hv⟩
 refine dL ?_
 refine aK rfl (fun h16r h16=>?_) (fun h16r h16=>?_)
 ·obtain⟨j,rfl⟩:∃ j,k=j+1:=⟨k-1,by omega⟩
  have ej:(((j+1:Nat):Int)-1).toNat=j:=by omega
  have ek:(((j+1:Nat):Int)-1)=j:=by omega
  have hxj:=cZ ha j
  refine aCj ?_
  refine aB rfl (.bin rfl rfl (aBp (by omega) (by omega))) ?_
  refine mV ?_
  exact nx3 j (q.set j ((r*4294967296+a.getD j 0)/d % 4294967296)) ((r*4294967296+a.getD j 0) % d) ⟨by omega,by simp [hql],eX hlq _ _ (Nat.mod_lt _ (by omega)),Nat.mod_lt _ hd0,by rw [Nat.mod_eq_of_lt (aBi hr hxj)];exact yJ (by omega) hql hv rfl⟩
 ·obtain rfl:k=0:=by omega
  have ej:True:=trivial
  have ek:True:=trivial
  refine eC ?_
  refine cpf [11] fm1 (g9 _ (by first | assumption | exact aX _) (by first | omega | (simp;done) | (simp;omega))) ?_
  refine dL ?_
  obtain⟨E1,E2⟩:=yP hd0 hr hlq hv
  rw [gJ hlq] at E1
  have E3:=congrArg val E1
  rw [aV,aV] at E3
  rw [←E3,←E2]
  have E4:r % 4294967296=r:=Nat.mod_eq_of_lt (by omega)
  refine tE rfl (.pure (aO _)) rfl ?_
  show Imm _ (oG (r % 4294967296)) (oG r)
  rw [E4]
  exact .pure rfl
theorem aAY {s:Nat} (hs:s<32):2 ^ s≤2147483648∧0<2 ^ s:=⟨Nat.pow_le_pow_right (n:=2) (by omega) (show s≤31 by omega),Nat.pow_pos (by omega)⟩
theorem aKe {m:Nat} (h:m<256):(0:Int)≤IntKind.u8.wrap (m:Int)∧(IntKind.u8.wrap (m:Int)).toNat=m:=by
 rw [IntKind.wrap_u8];omega
theorem aGj {x p:Nat} (hx:x<4294967296) (hp:p≤2147483648):x*p≤9223372034707292160:=by
 have:=Nat.mul_le_mul (Nat.le_sub_one_of_lt hx) hp;simpa using this
theorem aAV {x p c:Nat} (hx:x<4294967296) (hc:c<p):(x*p+c)/4294967296<p:=by
 rw [Nat.div_lt_iff_lt_mul (by omega)]
 have:(x+1)*p≤4294967296*p:=Nat.mul_le_mul_right _ hx
 rw [Nat.add_mul] at this
 rw [Nat.mul_comm p];omega
namespace Zq138
theorem dG {p q:Prop} (k:q) (e:p=q:=by simp only [e1,e2,e3,e4,p1,p2,p3,q1,q2,q3,l1,t0,t1,r1,r2,r3,r4,Nat.zero_add,Nat.reduceMul,Nat.reduceAdd,b1,b2,b3,b4,b5,b6,i1,i2,i3,i4,i5,i6,Nat.reduceBEq,fC];exact rfl):p:=e.mpr k
end Zq138
open Zq138 in
theorem aIN (a:List Nat) (s:Nat) (ha:fT a) (hla:a.length≤1099511627776) (hs:s<32):f3 Tryz.prog 263 [fV a,aE s] (.ref 1 1 0 (a.length+1)) [⟨1,(i7 (a.length+1) (val a*2 ^ s)).map cB,true⟩]:=by
 unfold fV
 refine fnO Tryz.func263 ?_
 refine cN ?_
 refine dD rfl rfl (.mkE (n:=a.length+1) (m:=a.length+1) ml ml om om om) ?_
 refine nY ?_
 refine lp3 (fun(k:Nat) (o:List Nat) (c:Nat) L=>((((((((St.mk L.slot (hp [(12,⟨1,o.map cB,true⟩)])).put (some 0) (.list 1 (a.map cB))).put (some 1) (aE s)).put (some 5) (.ref 12 1 0 (a.length+1))).put (some 6) (dV c)).put (some 13) (.list 1 (a.map cB))).put (some 14) (aE a.length)).put (some 15) (aE k))) (fun k o c=>k≤a.length∧o.length=a.length+1∧c<2 ^ s∧fT o∧val (o.take k)+4294967296 ^ k*c=val (a.take k)*2 ^ s) (fun k o c=>a.length-k) 0 (List.replicate (a.length+1) 0) 0 ⟨Nat.zero_le _,by simp,(aAY hs).2,gQ _,by simp [val]⟩ ?_
 rintro k o c L1 ⟨hk,hol,hc,hlo,hv⟩
 have hxk:=cZ ha k
 obtain⟨hp1,hp2⟩:=aAY hs
 have hsx:=aGj hxk hp1
 refine dB ?_
 refine aK rfl (fun h16r h16=>?_) (fun h16r h16=>?_)
 ·refine mZ ?_
  refine aB rfl (.sh rfl rfl (aM9 (by omega) (by omega))) ?_
  refine aB rfl (.bin rfl rfl (orV hc (by omega))) ?_
  refine aE0 ?_
  exact nx3 (k+1) (o.set k ((a.getD k 0*2 ^ s+c) % 4294967296)) ((a.getD k 0*2 ^ s+c)/4294967296) ⟨by omega,by simp [hol],aAV hxk hc,eX hlo _ _ (Nat.mod_lt _ (by omega)),aE9 (by omega) hv rfl⟩
 ·obtain rfl:k=a.length:=by omega
  refine aCf ?_
  have hc2:c % 4294967296=c:=Nat.mod_eq_of_lt (by omega)
  have E:=aEw hol hv
  have E2:=u9 (eX hlo a.length c (by omega)) (by simp only [List.length_set];exact hol)
  rw [E] at E2
  rw [←E2]
  simp only [hc2]
  exact r9 rfl rfl (aH cT _)
open H0 in
theorem aHp (n:Nat) (hn:n<18446744073709551616):aM Tryz.prog 209 [dV n] (bW n):=by
 have hL:fT [n % 4294967296,n/4294967296 % 4294967296]:=by
  intro x hx;simp at hx;omega
 have hV:val [n % 4294967296,n/4294967296 % 4294967296]=n:=by rw [aAH];omega
 refine dI Tryz.func209 ?_
 refine eA ?_
 refine cpf [8] fm1 (g9 _ (by first | assumption | exact aX _) (by first | omega | (simp;done) | (simp;omega))) ?_
 refine cO ?_
 skip
 exact bM rfl (by rw [hV];exact .pure (aO _))
namespace Zq71
theorem rG {p q:Prop} (k:q) (e:p=q:=by simp only [e1,e2,e3,e4,p1,p2,p3,q1,q2,q3,l1,t0,t1,r1,r2,r3,r4,Nat.zero_add,Nat.reduceMul,Nat.reduceAdd,b1,b2,b3,b4,b5,b6,i1,i2,i3,i4,i5,i6,Nat.reduceBEq,hbn];exact rfl):p:=e.mpr k
theorem nf1 {p:Prop} (h:p:=by first | (refine rG ?_;exact rfl) | exact rfl):p:=h
end Zq71
open Zq71 H0 in
theorem aDq (n:Nat) (hn:n<4294967296):aM Tryz.prog 259 [oG n] (iL (eG n)):=by
 refine dI Tryz.func259 ?_
 refine cW ?_
 refine eB (fun L=>∃ (m:Nat) (q:Nat) (L1:St),(eG n=q+eG m∧m<65536∧q≤16)∧L=(((St.mk L1.slot (hp [])).put (some 0) (oG m)).put (some 2) (iL q))) ?_ ?_
 ·refine aK rfl (fun h4r h4=>?_) (fun h4r h4=>?_)
  ·refine cP ?_
   refine aB rfl (.sh rfl rfl (aGX (m:=16) (by decide))) ?_
   refine dL ?_
   exact⟨n/2 ^ 16,16,_,⟨rM (by omega),by omega,by omega⟩,((aA (aA (bC cl) cl) cl)).symm⟩
  ·refine cY ?_
   exact⟨n,0,_,⟨by omega,by omega,by omega⟩,((aA (aA (bC cl) cl) cl)).symm⟩
 ·rintro _ ⟨m,q,LC4,⟨hb1,hm,hq⟩,rfl⟩
  refine eC ?_
  refine eB (fun L=>∃ (m2:Nat) (q2:Nat) (L1:St),(eG n=q2+eG m2∧m2<256∧q2≤24)∧L=(((St.mk L1.slot (hp [])).put (some 0) (oG m2)).put (some 2) (iL q2))) ?_ ?_
  ·refine aK rfl (fun h8r h8=>?_) (fun h8r h8=>?_)
   ·refine cP ?_
    refine aB rfl (.sh rfl rfl (aGX (m:=8) (by decide))) ?_
    refine dU ?_
    exact⟨m/2 ^ 8,q+8,_,⟨by rw [hb1,rM (n:=m) (k:=8) (by omega)];omega,by omega,by omega⟩,((aA (aA (bC cl) cl) cl)).symm⟩
   ·refine cY ?_
    exact⟨m,q,_,⟨hb1,by omega,by omega⟩,((aA (aA (bC cl) cl) cl)).symm⟩
  ·rintro _ ⟨m2,q2,LC8,⟨hb2,hm2,hq2⟩,rfl⟩
   have hb8:eG m2≤8:=iY.2 hm2
   have hbn:(UInt8.ofNat (eG m2)).toNat=eG m2:=(by decide:∀ k,k≤8→(UInt8.ofNat k).toNat=k) _ hb8
   refine dB ?_
   refine aB rfl (.indexS (b:=UInt8.ofNat (eG m2)) rfl Tryz.underlying9 rfl (aKe hm2).1 (by rw [(aKe hm2).2];exact tbl (by decide +kernel) hm2)) ?_
   refine aB rfl (.cvI Tryz.underlying5 Tryz.underlying3 rfl (by omega) (by omega)) ?_
   refine aB rfl (.bin rfl rfl (iS (by omega) (by omega))) ?_
   refine bE ?_
   refine jU nf1 ?_
   refine cY ?_
   rw [hb2]
   exact bM rfl (by first | exact .pure rfl | (rw [hbn];exact .pure rfl))
open H0 in
theorem aKR (n:Nat) (hn:n<4294967296):aM Tryz.prog 262 [oG n] (iL (32-eG n)):=by
 have hb:eG n≤32:=iY.2 hn
 refine dI Tryz.func262 ?_
 refine eC ?_
 refine cp dC (aDq _ (by omega)) ?_
 refine dR ?_
 exact bM rfl (by first | exact .pure rfl | exact .pure (bA _) | exact .pure (aO _) | exact .pure (aD.pure _) | exact .pure (aG cT _ _) | exact .pure (aG aD _ _))
theorem oD (l:List Nat) (h:fT l) (hl:l.length≤1099511627776):(a7 (val l)).length≤1099511627776:=Nat.le_trans (t6 h) hl
theorem aBx {n:Nat} (h:0<(a7 n).length):32*((a7 n).length-1)+eG ((a7 n).getD ((a7 n).length-1) 0)=eG n:=by
 have:=aGl (aX n) (qG n) h
 rw [aV] at this;omega
namespace Zq73
theorem dG {p q:Prop} (k:q) (e:p=q:=by simp only [e1,e2,e3,e4,p1,p2,p3,q1,q2,q3,l1,t0,t1,r1,r2,r3,r4,Nat.zero_add,Nat.reduceMul,Nat.reduceAdd,b1,b2,b3,b4,b5,b6,i1,i2,i3,i4,i5,i6,Nat.reduceBEq,fC,ej];exact rfl):p:=e.mpr k
end Zq73
open Zq73 in
theorem mH (a:List Nat) (ha:fT a) (hla:a.length≤1099511627776):aM Tryz.prog 201 [fV a] (iL (eG (val a))):=by
 have hlt:=oD a ha hla
 refine dI Tryz.func201 ?_
 have ej:True:=trivial
 refine eC ?_
 refine cp dC (g9 _ (by first | assumption | exact aX _) (by first | omega | (simp;done) | (simp;omega))) ?_
 refine cV ?_
 refine aK rfl (fun h7r h7=>?_) (fun h7r h7=>?_)
 ·have h0:val a=0:=eR.1 (List.eq_nil_of_length_eq_zero (by omega))
  have hz:eG (val a)=0:=iH.2 h0
  refine dL ?_
  rw [hz]
  exact bM rfl (by first | exact .pure rfl | exact .pure (bA _) | exact .pure (aO _) | exact .pure (aD.pure _) | exact .pure (aG cT _ _) | exact .pure (aG aD _ _))
 ·have hpos:0<(a7 (val a)).length:=by omega
  have ej:(((a7 (val a)).length:Int)-1).toNat=(a7 (val a)).length-1:=by omega
  have hz:=aBx hpos
  have hlim:=bT (val a) ((a7 (val a)).length-1)
  have hb32:eG ((a7 (val a)).getD ((a7 (val a)).length-1) 0)≤32:=iY.2 hlim
  refine gC ?_
  refine cp dC (aDq _ (by rw [ej];exact hlim)) ?_
  refine aB rfl (.bin rfl rfl (iS (by simp only [ej,fC];omega) (by simp only [ej,fC];omega))) ?_
  refine cO ?_
  refine bM ?_ (.pure rfl)
  simp only [e1,e2,e3,e4,p1,p2,p3,q1,q2,q3,Nat.reduceBEq]
  congr 2
  omega
namespace Zq3
theorem rG {p q:Prop} (k:q) (e:p=q:=by simp only [e1,e2,e3,e4,p1,p2,p3,q1,q2,q3,l1,t0,t1,r1,r2,r3,r4,Nat.zero_add,Nat.reduceMul,Nat.reduceAdd,b1,b2,b3,b4,b5,b6,i1,i2,i3,i4,i5,i6,Nat.reduceBEq,List.take_zero,List.take_nil,List.nil_append,aC cT,LV.kill];exact rfl):p:=e.mpr k
theorem nf1 {p:Prop} (h:p:=by first | (refine rG ?_;exact rfl) | exact rfl):p:=h
end Zq3
open Zq3 H0 in
theorem sK (a:List Nat) (hla:a.length≤1099511627776):aM Tryz.prog 220 [fV a] (fV a):=by
 unfold fV
 refine dI Tryz.func220 ?_
 refine dL ?_
 refine zR (aI3 (sz:=1) (l:=a.map cB) rfl Tryz.underlying27 (fun b hb=>?_))
 refine bE ?_
 refine aK rfl (fun h4r h4=>?_) (fun h4r h4=>?_)
 ·have hnil:a=[]:=by simpa using hb h4r
  subst hnil
  refine dL ?_
  exact bM rfl (.nil 1)
 ·refine dB ?_
  refine bD rfl (.app rfl rfl rfl rfl rfl (Nat.zero_le _) (.inr rfl) (by decide) Tryz.underlying27 Tryz.underlying27 zU lD rfl aBV (.inr (.inl rfl)) (by simp;omega) (by simp;omega) (by decide)) ?_
  refine bE ?_
  refine jU nf1 ?_
  refine cY ?_
  exact kP [7] rfl rfl (cA cT rfl rfl (by simp))
namespace Zq13
theorem dG {p q:Prop} (k:q) (e:p=q:=by simp only [e1,e2,e3,e4,p1,p2,p3,q1,q2,q3,l1,t0,t1,r1,r2,r3,r4,Nat.zero_add,Nat.reduceMul,Nat.reduceAdd,b1,b2,b3,b4,b5,b6,i1,i2,i3,i4,i5,i6,Nat.reduceBEq,fC];exact rfl):p:=e.mpr k
end Zq13
open Zq13 in
theorem u5 (a b:List Nat) (hla:a.length≤1099511627776) (hlb:b.length≤1099511627776):aM Tryz.prog 217 [fV a,fV b] (bL (decide (a=b))):=by
 unfold fV
 refine dI Tryz.func217 ?_
 refine iJ ?_
 refine aK rfl (fun h10r h10=>?_) (fun h10r h10=>?_)
 ·have hE:a≠b:=by rintro rfl;omega
  refine dL ?_
  first | (rw [decide_eq_true hE];exact bM rfl (.pure rfl)) | (rw [decide_eq_false hE];exact bM rfl (.pure rfl))
 ·have hl:a.length=b.length:=by omega
  clear h10 h10r
  refine cV ?_
  refine lX (fun(k:Nat) L=>((((((St.mk L.slot (hp [])).put (some 0) (.list 1 (a.map cB))).put (some 1) (.list 1 (b.map cB))).put (some 11) (.list 1 (a.map cB))).put (some 12) (aE a.length)).put (some 13) (aE k))) (fun k=>k≤a.length∧a.take k=b.take k) (fun k=>a.length-k) 0 ⟨Nat.zero_le _,rfl⟩ ?_
  rintro k L1 ⟨hk,ht⟩
  refine dB ?_
  refine aK rfl (fun h14r h14=>?_) (fun h14r h14=>?_)
  ·refine cV ?_
   refine aP 9 (by decide +kernel) ?_
   refine cV ?_
   refine aK rfl (fun h24r h24=>?_) (fun h24r h24=>?_)
   ·have hE:a≠b:=by rintro rfl;omega
    refine cV ?_
    first | (rw [decide_eq_true hE];exact bM rfl (.pure rfl)) | (rw [decide_eq_false hE];exact bM rfl (.pure rfl))
   ·refine eC ?_
    exact kE (k+1) ⟨by omega,aCS (by omega) (by omega) ht (by omega)⟩
  ·obtain rfl:k=a.length:=by omega
   have hE:a=b:=by rw [List.take_length,hl,List.take_length] at ht;exact ht
   refine cV ?_
   first | (rw [decide_eq_true hE];exact bM rfl (.pure rfl)) | (rw [decide_eq_false hE];exact bM rfl (.pure rfl))
namespace Zq145
theorem dG {p q:Prop} (k:q) (e:p=q:=by simp only [e1,e2,e3,e4,p1,p2,p3,q1,q2,q3,l1,t0,t1,r1,r2,r3,r4,Nat.zero_add,Nat.reduceMul,Nat.reduceAdd,b1,b2,b3,b4,b5,b6,i1,i2,i3,i4,i5,i6,Nat.reduceBEq,ej,ek,fC];exact rfl):p:=e.mpr k
end Zq145
open Zq145 in
theorem aIg (l:List Nat) (hl:l.length≤4611686018427387904) (h0:0<l.length):gH Tryz.prog 208 ⟨1,l.map cB,true⟩ [.ref 0 1 0 l.length] (.ref 0 1 0 (fZ l.length l)) ⟨1,l.map cB,true⟩:=by
 refine fnM Tryz.func208 ?_
 have ej:True:=trivial
 have ek:True:=trivial
 refine gC ?_
 refine lX (fun(k:Nat) L=>(((St.mk L.slot (hp [(0,⟨1,l.map cB,true⟩)])).put (some 0) (.ref 0 1 0 l.length)).put (some 3) (aE k))) (fun k=>k≤l.length∧fZ l.length l=fZ k l) (fun k=>k) l.length ⟨Nat.le_refl _,rfl⟩ ?_
 rintro k L1 ⟨hk,hkt⟩
 refine dB ?_
 refine dJ 8 rfl (fun h8r h8=>?_) (fun h8r h8=>?_)
 ·obtain⟨j,rfl⟩:∃ j,k=j+1:=⟨k-1,by omega⟩
  have ej:(((j+1:Nat):Int)-1).toNat=j:=by omega
  have ek:(((j+1:Nat):Int)-1)=j:=by omega
  refine dU ?_
  refine aK rfl (fun h15r h15=>?_) (fun h15r h15=>?_)
  ·refine cN ?_
   exact kE j ⟨by omega,hkt.trans (by simp only [fZ];rw [if_pos (by simpa using h15)])⟩
  ·refine dU ?_
   refine aB rfl (by first | exact .sliceLh (h:=_) cT rfl Tryz.underlying27 lD rfl om | exact .sliceRh rfl Tryz.underlying27 lD rfl om om) ?_
   refine cO ?_
   rw [hkt,fZ,if_neg (by simpa using h15)]
   exact oM rfl .ref rfl rfl (aH cT _)
 ·have hk0:k=0:=by omega
  subst hk0
  refine mZ ?_
  refine aB rfl (by first | exact .sliceLh (h:=_) cT rfl Tryz.underlying27 lD rfl om | exact .sliceRh rfl Tryz.underlying27 lD rfl om om) ?_
  refine cO ?_
  rw [hkt]
  exact oM rfl .ref rfl rfl (aH cT _)
theorem aHx (l:List Nat) (n:Nat) (hn:n=l.length) (hl:n≤4611686018427387904) (h0:0<n):gH Tryz.prog 208 ⟨1,l.map cB,true⟩ [.ref 0 1 0 n] (.ref 0 1 0 (fZ n l)) ⟨1,l.map cB,true⟩:=by
 subst hn;exact aIg l hl h0
theorem aBT (x s:Nat) (hla:(a7 x).length≤1099511627776) (hs:s<32):f3 Tryz.prog 263 [bW x,aE s] (.ref 1 1 0 ((a7 x).length+1)) [⟨1,(i7 ((a7 x).length+1) (x*2 ^ s)).map cB,true⟩]:=by
 have:=aIN (a7 x) s (aX x) hla hs
 rw [aV] at this
 exact this
theorem aIZ (x:Nat):val [x]=x:=by simp [val]
theorem aNp {x:Nat} (h:x≤32):(32:Int)-(x:Int)=((32-x:Nat):Int):=by omega
namespace Zq75
theorem dG {p q:Prop} (k:q) (e:p=q:=by simp only [e1,e2,e3,e4,p1,p2,p3,q1,q2,q3,l1,t0,t1,r1,r2,r3,r4,Nat.zero_add,Nat.reduceMul,Nat.reduceAdd,b1,b2,b3,b4,b5,b6,i1,i2,i3,i4,i5,i6,Nat.reduceBEq,fC,aV,ej,ek,es,eV,ej1,ej2,ej3,ehm,ehg,en1,en2,eij,eiij,eqn,egi,egi1,List.set_set,List.length_set,Nat.add_mod_mod,eg2,eg3,ei1,enV];exact rfl):p:=e.mpr k
theorem rG {p q:Prop} (k:q) (e:p=q:=by simp only [e1,e2,e3,e4,p1,p2,p3,q1,q2,q3,l1,t0,t1,r1,r2,r3,r4,Nat.zero_add,Nat.reduceMul,Nat.reduceAdd,b1,b2,b3,b4,b5,b6,i1,i2,i3,i4,i5,i6,Nat.reduceBEq,fC,aV,ej,ek,es,eV,ej1,ej2,ej3,ehm,ehg,en1,en2,eij,eiij,eqn,egi,egi1,List.set_set,List.length_set,Nat.add_mod_mod,eg2,eg3,ei1,enV,ehg];exact rfl):p:=e.mpr k
theorem nf1 {p:Prop} (h:p:=by first | (refine rG ?_;exact rfl) | exact rfl):p:=h
theorem aLL {p q:Prop} (k:q) (e:p=q:=by simp only [e1,e2,e3,e4,p1,p2,p3,q1,q2,q3,l1,t0,t1,r1,r2,r3,r4,Nat.zero_add,Nat.reduceMul,Nat.reduceAdd,b1,b2,b3,b4,b5,b6,i1,i2,i3,i4,i5,i6,Nat.reduceBEq,fC,aV,ej,ek,es,eV,ej1,ej2,ej3,ehm,ehg,en1,en2,eij,eiij,eqn,egi,egi1,List.set_set,List.length_set,Nat.add_mod_mod,eg2,eg3,ei1,enV,aIZ];exact rfl):p:=e.mpr k
theorem nf2 {p:Prop} (h:p:=by first | (refine aLL ?_;exact rfl) | exact rfl):p:=h
theorem aOC {p q:Prop} (k:q) (e:p=q:=by simp only [e1,e2,e3,e4,p1,p2,p3,q1,q2,q3,l1,t0,t1,r1,r2,r3,r4,Nat.zero_add,Nat.reduceMul,Nat.reduceAdd,b1,b2,b3,b4,b5,b6,i1,i2,i3,i4,i5,i6,Nat.reduceBEq,fC,aV,ej,ek,es,eV,ej1,ej2,ej3,ehm,ehg,en1,en2,eij,eiij,eqn,egi,egi1,List.set_set,List.length_set,Nat.add_mod_mod,eg2,eg3,ei1,enV,fW,ehm];exact rfl):p:=e.mpr k
theorem nf3 {p:Prop} (h:p:=by first | (refine aOC ?_;exact rfl) | exact rfl):p:=h
theorem aMl {p q:Prop} (k:q) (e:p=q:=by simp only [e1,e2,e3,e4,p1,p2,p3,q1,q2,q3,l1,t0,t1,r1,r2,r3,r4,Nat.zero_add,Nat.reduceMul,Nat.reduceAdd,b1,b2,b3,b4,b5,b6,i1,i2,i3,i4,i5,i6,Nat.reduceBEq,fC,aV,ej,ek,es,eV,ej1,ej2,ej3,ehm,ehg,en1,en2,eij,eiij,eqn,egi,egi1,List.set_set,List.length_set,Nat.add_mod_mod,eg2,eg3,ei1,enV,enV];exact rfl):p:=e.mpr k
theorem nf4 {p:Prop} (h:p:=by first | (refine aMl ?_;exact rfl) | exact rfl):p:=h
theorem lO {p:Prop} (h:p:=by first | rfl | (refine aMl ?_;first | exact trivial | rfl | (congr 3<;>omega) | (congr 2<;>omega))):p:=h
theorem aPE {p q:Prop} (k:q) (e:p=q:=by simp only [e1,e2,e3,e4,p1,p2,p3,q1,q2,q3,l1,t0,t1,r1,r2,r3,r4,Nat.zero_add,Nat.reduceMul,Nat.reduceAdd,b1,b2,b3,b4,b5,b6,i1,i2,i3,i4,i5,i6,Nat.reduceBEq,fC,aV,ej,ek,es,eV,ej1,ej2,ej3,ehm,ehg,en1,en2,eij,eiij,eqn,egi,egi1,List.set_set,List.length_set,Nat.add_mod_mod,eg2,eg3,ei1,enV,enV,ehm];exact rfl):p:=e.mpr k
theorem cl5 {p:Prop} (h:p:=by first | rfl | (refine aPE ?_;first | exact trivial | rfl | (congr 3<;>omega) | (congr 2<;>omega))):p:=h
theorem aOB {p q:Prop} (k:q) (e:p=q:=by simp only [e1,e2,e3,e4,p1,p2,p3,q1,q2,q3,l1,t0,t1,r1,r2,r3,r4,Nat.zero_add,Nat.reduceMul,Nat.reduceAdd,b1,b2,b3,b4,b5,b6,i1,i2,i3,i4,i5,i6,Nat.reduceBEq,fC,aV,ej,ek,es,eV,ej1,ej2,ej3,ehm,ehg,en1,en2,eij,eiij,eqn,egi,egi1,List.set_set,List.length_set,Nat.add_mod_mod,eg2,eg3,ei1,enV,←hT];exact rfl):p:=e.mpr k
theorem nf6 {p:Prop} (h:p:=by first | (refine aOB ?_;exact rfl) | exact rfl):p:=h
end Zq75
open Zq75 in
theorem aGE (b ul ql:List Nat) (n s m q0 j:Nat) (enV:(a7 (val b*2 ^ s)).length=n+2) (hnm:n+2≤m) (hm4:m≤1099511627776) (hq0:q0=m+1-(n+2)) (hk:j+1≤q0) (hul:ul.length=m+1) (hql:ql.length=q0) (hlu:fT ul) (hlq:fT ql) (hvt:2147483648≤(a7 (val b*2 ^ s)).getD (n+1) 0) (hV0:0<(val b*2 ^ s)) (hVlt:(val b*2 ^ s)<4294967296 ^ (n+2)) (hlt:val ul<(val b*2 ^ s)*4294967296 ^ (j+1)) {Q:LEx→St→Prop} (L1:St)
  (hQ:∀ (x:Nat) (L2:St),(val ul/4294967296 ^ j/(val b*2 ^ s)≤x∧x≤val ul/4294967296 ^ j/(val b*2 ^ s)+1∧x<4294967296)→Q .normal ((((((((St.mk L2.slot (hp [(1001057,⟨1,ul.map cB,true⟩),(1001105,⟨1,(i7 ((a7 (val b)).length+1) (val b*2 ^ s)).map cB,false⟩),(77,⟨1,ql.map cB,true⟩)])).put (some 4) (.ref 77 1 0 q0)).put (some 9) (aE s)).put (some 10) (.ref 1001057 1 0 (m+1))).put (some 11) (bW (val b*2 ^ s))).put (some 12) (aE (n+2))).put (some 13) (iL (((j+1:Nat):Int)-1))).put (some 15) (dV x))) :
  wpL Tryz.prog ((aCQ Tryz.f206 [1,1,1,1,1,1,1,0,1,0,0,1,0,0,1,1,0]).getD .skip) Q (((((((((St.mk L1.slot (hp [(1001057,⟨1,ul.map cB,true⟩),(1001105,⟨1,(i7 ((a7 (val b)).length+1) (val b*2 ^ s)).map cB,false⟩),(77,⟨1,ql.map cB,true⟩)])).put (some 4) (.ref 77 1 0 q0)).put (some 9) (aE s)).put (some 10) (.ref 1001057 1 0 (m+1))).put (some 11) (bW (val b*2 ^ s))).put (some 12) (aE (n+2))).put (some 13) (iL (((j+1:Nat):Int)-1))).put (some 15) (dV ((ul.getD (n+2+j) 0*4294967296+ul.getD (n+1+j) 0)/(a7 (val b*2 ^ s)).getD (n+1) 0))).put (some 16) (dV ((ul.getD (n+2+j) 0*4294967296+ul.getD (n+1+j) 0) % (a7 (val b*2 ^ s)).getD (n+1) 0))):=by
 have ej:True:=trivial
 have ek:True:=trivial
 have es:True:=trivial
 have eV:True:=trivial
 have ej1:True:=trivial
 have ej2:True:=trivial
 have ej3:True:=trivial
 have ehm:True:=trivial
 have ehg:True:=trivial
 have en1:True:=trivial
 have en2:True:=trivial
 have eij:True:=trivial
 have eiij:True:=trivial
 have eqn:True:=trivial
 have egi:True:=trivial
 have egi1:True:=trivial
 have eg2:True:=trivial
 have eg3:True:=trivial
 have ei1:True:=trivial
 have ej1:((j:Int)+((n+2:Nat):Int)).toNat=n+2+j:=by omega
 have ej2:((j:Int)+((n+2:Nat):Int)-1).toNat=n+1+j:=by omega
 have ej3:((j:Int)+((n+2:Nat):Int)-2).toNat=n+j:=by omega
 have en1:(((n+2:Nat):Int)-1).toNat=n+1:=by omega
 have en2:(((n+2:Nat):Int)-2).toNat=n:=by omega
 have ek:(((j+1:Nat):Int)-1)=(j:Int):=by omega
 have hv1l:=bT ((val b*2 ^ s)) (n+1)
 have hv2l:=bT ((val b*2 ^ s)) n
 have hu0:=cZ hlu (n+2+j)
 have hu1:=cZ hlu (n+1+j)
 have hu2:=cZ hlu (n+j)
 obtain⟨vl,rl,hvl,hrl,hVe,hRe,hRV⟩:=aDc (j:=j) enV (by omega) hlu hlt
 have hun:=aMw hVe hRe hvl hv2l hRV
 have htop:=aLd hVe hRe hrl hu2 (by omega)
 have hqB:val ul/4294967296 ^ j/(val b*2 ^ s)<4294967296:=by rw [Nat.div_lt_iff_lt_mul hV0,Nat.mul_comm];exact hRV
 refine vK rfl ?_
 refine bE ?_
 refine nD (fun(x rest:Nat) L=>(((((((((St.mk L.slot (hp [(1001057,⟨1,ul.map cB,true⟩),(1001105,⟨1,(i7 ((a7 (val b)).length+1) (val b*2 ^ s)).map cB,false⟩),(77,⟨1,ql.map cB,true⟩)])).put (some 4) (.ref 77 1 0 q0)).put (some 9) (aE s)).put (some 10) (.ref 1001057 1 0 (m+1))).put (some 11) (bW (val b*2 ^ s))).put (some 12) (aE (n+2))).put (some 13) (iL (((j+1:Nat):Int)-1))).put (some 15) (dV x)).put (some 16) (dV rest))) (fun x rest=>val ul/4294967296 ^ j/(val b*2 ^ s)≤x∧x*(a7 (val b*2 ^ s)).getD (n+1) 0+rest=(ul.getD (n+2+j) 0*4294967296+ul.getD (n+1+j) 0)∧rest<4294967296) (fun x rest=>x) ((ul.getD (n+2+j) 0*4294967296+ul.getD (n+1+j) 0)/(a7 (val b*2 ^ s)).getD (n+1) 0) ((ul.getD (n+2+j) 0*4294967296+ul.getD (n+1+j) 0) % (a7 (val b*2 ^ s)).getD (n+1) 0) ⟨htop,by rw [Nat.mul_comm];exact Nat.div_add_mod _ _,Nat.lt_trans (Nat.mod_lt _ (by omega)) hv1l⟩ ?_
 rintro x rest L2 ⟨hx,hxr,hrest⟩
 have hxt:x≤x*(a7 (val b*2 ^ s)).getD (n+1) 0:=Nat.le_mul_of_pos_right _ (by omega)
 refine cY ?_
 refine aP 24 (by decide +kernel) ?_
 refine cP ?_
 refine dJ 120 rfl (fun h120r h120=>?_) (fun h120r h120=>?_)
 ·have hxd:val ul/4294967296 ^ j/(val b*2 ^ s)≤x-1:=by omega
  have hx0:1≤x:=by omega
  refine aMC ?_
  have hxr2:(x-1)*(a7 (val b*2 ^ s)).getD (n+1) 0+(rest+(a7 (val b*2 ^ s)).getD (n+1) 0)=(ul.getD (n+2+j) 0*4294967296+ul.getD (n+1+j) 0):=by
   have e:(x-1)*(a7 (val b*2 ^ s)).getD (n+1) 0+(a7 (val b*2 ^ s)).getD (n+1) 0=x*(a7 (val b*2 ^ s)).getD (n+1) 0:=by rw [←Nat.succ_mul];congr 1;omega
   omega
  refine aE0 ?_
  refine aK rfl (fun h153r h153=>?_) (fun h153r h153=>?_)
  ·have hbk:=aBj (u2:=ul.getD (n+j) 0) hxr2 hun hu1 hv2l (by omega)
   refine cO ?_
   exact mR (hQ (x-1) _ ⟨hxd,aCr hVe hRe hvl (by omega) hV0 hxr2 (Nat.le_of_lt hbk.1) hbk.2,hbk.1⟩) (aA (aA (aA (aA (aA (aA (aA (bC cl) cl) cl) cl) cl) cl) cl) cl)
  ·refine cP ?_
   exact lI (x-1) (rest+(a7 (val b*2 ^ s)).getD (n+1) 0) ⟨hxd,hxr2,by omega⟩
 ·have hmul:=oN (show x<4294967296 by omega) hv2l
  refine aCf ?_
  refine aK rfl (fun h141r h141=>?_) (fun h141r h141=>?_)
  ·have hx0:1≤x:=by
    rcases Nat.eq_zero_or_pos x with e | e
    ·rw [e,Nat.zero_mul] at h141;omega
    ·exact e
   have hxd:val ul/4294967296 ^ j/(val b*2 ^ s)≤x-1:=by have:=aKL hVe hRe hrl hV0 hxr (by omega);omega
   refine cO ?_
   have hxr2:(x-1)*(a7 (val b*2 ^ s)).getD (n+1) 0+(rest+(a7 (val b*2 ^ s)).getD (n+1) 0)=(ul.getD (n+2+j) 0*4294967296+ul.getD (n+1+j) 0):=by
    have e:(x-1)*(a7 (val b*2 ^ s)).getD (n+1) 0+(a7 (val b*2 ^ s)).getD (n+1) 0=x*(a7 (val b*2 ^ s)).getD (n+1) 0:=by rw [←Nat.succ_mul];congr 1;omega
    omega
   refine aE0 ?_
   refine aK rfl (fun h153r h153=>?_) (fun h153r h153=>?_)
   ·have hbk:=aBj (u2:=ul.getD (n+j) 0) hxr2 hun hu1 hv2l (by omega)
    refine cO ?_
    exact mR (hQ (x-1) _ ⟨hxd,aCr hVe hRe hvl (by omega) hV0 hxr2 (Nat.le_of_lt hbk.1) hbk.2,hbk.1⟩) (aA (aA (aA (aA (aA (aA (aA (bC cl) cl) cl) cl) cl) cl) cl) cl)
   ·refine cP ?_
    exact lI (x-1) (rest+(a7 (val b*2 ^ s)).getD (n+1) 0) ⟨hxd,hxr2,by omega⟩
  ·refine cO ?_
   exact mR (hQ (x) _ ⟨hx,aCr hVe hRe hvl (by omega) hV0 hxr (by omega) (by omega),by omega⟩) (aA (aA (aA (aA (aA (aA (aA (bC cl) cl) cl) cl) cl) cl) cl) cl)
open Zq75 in
theorem aC6 (b ul ql:List Nat) (n s m q0 j:Nat) (enV:(a7 (val b*2 ^ s)).length=n+2) (hnm:n+2≤m) (hm4:m≤1099511627776) (hq0:q0=m+1-(n+2)) (hk:j+1≤q0) (hul:ul.length=m+1) (hql:ql.length=q0) (hlu:fT ul) (hlq:fT ql) (hvt:2147483648≤(a7 (val b*2 ^ s)).getD (n+1) 0) (hV0:0<(val b*2 ^ s)) (hVlt:(val b*2 ^ s)<4294967296 ^ (n+2)) (hlt:val ul<(val b*2 ^ s)*4294967296 ^ (j+1)) (x:Nat) (hx1:val ul/4294967296 ^ j/(val b*2 ^ s)≤x) (hxB:x<4294967296) {Q:LEx→St→Prop} (L1:St)
  (hQ:∀ (wl:List Nat) (c:Nat) (br:Nat) (L2:St),(wl.length=m+1∧fT wl∧c<4294967296∧br≤1∧val wl+4294967296 ^ j*(x*(val b*2 ^ s))=val ul+4294967296 ^ (n+2+j)*(c+br)∧∀ p,n+2+j≤p→wl.getD p 0=ul.getD p 0)→Q .normal ((((((((((St.mk L2.slot (hp [(1001057,⟨1,wl.map cB,true⟩),(1001105,⟨1,(i7 ((a7 (val b)).length+1) (val b*2 ^ s)).map cB,false⟩),(77,⟨1,ql.map cB,true⟩)])).put (some 4) (.ref 77 1 0 q0)).put (some 9) (aE s)).put (some 10) (.ref 1001057 1 0 (m+1))).put (some 11) (bW (val b*2 ^ s))).put (some 12) (aE (n+2))).put (some 13) (iL (((j+1:Nat):Int)-1))).put (some 15) (dV x)).put (some 17) (dV br)).put (some 18) (dV c))) :
  wpL Tryz.prog ((aCQ Tryz.f206 [1,1,1,1,1,1,1,0,1,0,0,1,0,0,1,1,1,1,0,1]).getD .skip) Q (((((((((((((St.mk L1.slot (hp [(1001057,⟨1,ul.map cB,true⟩),(1001105,⟨1,(i7 ((a7 (val b)).length+1) (val b*2 ^ s)).map cB,false⟩),(77,⟨1,ql.map cB,true⟩)])).put (some 4) (.ref 77 1 0 q0)).put (some 9) (aE s)).put (some 10) (.ref 1001057 1 0 (m+1))).put (some 11) (bW (val b*2 ^ s))).put (some 12) (aE (n+2))).put (some 13) (iL (((j+1:Nat):Int)-1))).put (some 15) (dV x)).put (some 17) (dV 0)).put (some 18) (dV 0)).put (some 154) (bW (val b*2 ^ s))).put (some 155) (aE (n+2))).put (some 156) (aE 0)):=by
 have ej:True:=trivial
 have ek:True:=trivial
 have es:True:=trivial
 have eV:True:=trivial
 have ej1:True:=trivial
 have ej2:True:=trivial
 have ej3:True:=trivial
 have ehm:True:=trivial
 have ehg:True:=trivial
 have en1:True:=trivial
 have en2:True:=trivial
 have eij:True:=trivial
 have eiij:True:=trivial
 have eqn:True:=trivial
 have egi:True:=trivial
 have egi1:True:=trivial
 have eg2:True:=trivial
 have eg3:True:=trivial
 have ei1:True:=trivial
 have ej1:((j:Int)+((n+2:Nat):Int)).toNat=n+2+j:=by omega
 have ej2:((j:Int)+((n+2:Nat):Int)-1).toNat=n+1+j:=by omega
 have ej3:((j:Int)+((n+2:Nat):Int)-2).toNat=n+j:=by omega
 have en1:(((n+2:Nat):Int)-1).toNat=n+1:=by omega
 have en2:(((n+2:Nat):Int)-2).toNat=n:=by omega
 have ek:(((j+1:Nat):Int)-1)=(j:Int):=by omega
 have hv1l:=bT ((val b*2 ^ s)) (n+1)
 have hv2l:=bT ((val b*2 ^ s)) n
 have hu0:=cZ hlu (n+2+j)
 have hu1:=cZ hlu (n+1+j)
 have hu2:=cZ hlu (n+j)
 refine vK rfl ?_
 refine bE ?_
 refine lp4 (fun(i:Nat) (wl:List Nat) (c br:Nat) L=>(((((((((((((St.mk L.slot (hp [(1001057,⟨1,wl.map cB,true⟩),(1001105,⟨1,(i7 ((a7 (val b)).length+1) (val b*2 ^ s)).map cB,false⟩),(77,⟨1,ql.map cB,true⟩)])).put (some 4) (.ref 77 1 0 q0)).put (some 9) (aE s)).put (some 10) (.ref 1001057 1 0 (m+1))).put (some 11) (bW (val b*2 ^ s))).put (some 12) (aE (n+2))).put (some 13) (iL (((j+1:Nat):Int)-1))).put (some 15) (dV x)).put (some 17) (dV br)).put (some 18) (dV c)).put (some 154) (bW (val b*2 ^ s))).put (some 155) (aE (n+2))).put (some 156) (aE i))) (fun i wl c br=>i≤n+2∧wl.length=m+1∧fT wl∧c<4294967296∧br≤1∧val wl+4294967296 ^ j*(x*val ((a7 (val b*2 ^ s)).take i))=val ul+4294967296 ^ (i+j)*(c+br)∧∀ p,n+2+j≤p→wl.getD p 0=ul.getD p 0) (fun i wl c br=>n+2-i) 0 ul 0 0 ⟨Nat.zero_le _,hul,hlu,by omega,by omega,by simp [val],fun _ _=>rfl⟩ (h0:=⟨_,bI.of_eq (aA (aA (aA (aA (aA (aA (aA (aA (aA (aA (aA (aA (bC lO) lO) lO) lO) lO) lO) lO) lO) lO) lO) lO) lO) lO)⟩) ?_
 rintro i wl c br L3 ⟨hi,hwl,hlw,hc,hbr,hv5,hz5⟩
 have eij:((i:Int)+(j:Int)).toNat=i+j:=by omega
 have hvi:=bT (val b*2 ^ s) i
 have hmul:=oN hxB hvi
 have hwi:=cZ hlw (i+j)
 refine dB ?_
 refine aK rfl (fun h157r h157=>?_) (fun h157r h157=>?_)
 ·refine aMK ?_
  refine aB rfl (.bin rfl rfl (aOy)) ?_
  refine aB rfl (.bin rfl rfl (aFw (by omega))) ?_
  refine bE ?_
  refine aB rfl (.bin rfl rfl (aFw (by omega))) ?_
  refine aMK ?_
  exact nx4 (i+1) (wl.set (i+j) (((18446744073709551616+(18446744073709551616+wl.getD (i+j) 0-(c+x*(a7 (val b*2 ^ s)).getD i 0) % 4294967296) % 18446744073709551616-br) % 18446744073709551616) % 4294967296)) ((c+x*(a7 (val b*2 ^ s)).getD i 0)/4294967296) (((18446744073709551616+(18446744073709551616+wl.getD (i+j) 0-(c+x*(a7 (val b*2 ^ s)).getD i 0) % 4294967296) % 18446744073709551616-br) % 18446744073709551616)/9223372036854775808) (by
   obtain⟨g1,g2,g3⟩:=aK7 (by omega) hlw hbr hv5 (c1:=(c+x*(a7 (val b*2 ^ s)).getD i 0)) rfl rfl
   exact⟨by omega,by simp [hwl],g2,by omega,g1,g3,fun p hp=>by rw [Go.Lg.getD_set_ne _ _ _ _ (by omega)];exact hz5 p hp⟩) (he:=bI.of_eq (aA (aA (aA (aA (aA (aA (aA (aA (aA (aA (aA (aA (bC lO) lO) lO) lO) lO) lO) lO) lO) lO) lO) lO) lO) lO))
 ·obtain rfl:i=n+2:=by omega
  rw [List.take_of_length_le (by omega),aV] at hv5
  refine cO ?_
  exact mR (hQ (wl) (c) (br) _ ⟨hwl,hlw,hc,hbr,hv5,hz5⟩) (aA (aA (aA (aA (aA (aA (aA (aA (aA (bC cl) cl) cl) cl) cl) cl) cl) cl) cl) cl)
open Zq75 in
theorem aGM (b ul ql:List Nat) (n s m q0 j:Nat) (enV:(a7 (val b*2 ^ s)).length=n+2) (hnm:n+2≤m) (hm4:m≤1099511627776) (hq0:q0=m+1-(n+2)) (hk:j+1≤q0) (hul:ul.length=m+1) (hql:ql.length=q0) (hlu:fT ul) (hlq:fT ql) (hvt:2147483648≤(a7 (val b*2 ^ s)).getD (n+1) 0) (hV0:0<(val b*2 ^ s)) (hVlt:(val b*2 ^ s)<4294967296 ^ (n+2)) (hlt:val ul<(val b*2 ^ s)*4294967296 ^ (j+1)) (x:Nat) (hx1:val ul/4294967296 ^ j/(val b*2 ^ s)≤x) (hx2:x≤val ul/4294967296 ^ j/(val b*2 ^ s)+1) (hxB:x<4294967296) (wl:List Nat) (c br:Nat) (hwl:wl.length=m+1) (hlw:fT wl) (hc:c<4294967296) (hbr:br≤1) (hv5:val wl+4294967296 ^ j*(x*(val b*2 ^ s))=val ul+4294967296 ^ (n+2+j)*(c+br)) (hz5:∀ p,n+2+j≤p→wl.getD p 0=ul.getD p 0) {Q:LEx→St→Prop} (L1:St)
  (hQ:∀ (w4:List Nat) (x4:Nat) (L2:St),(x4=val ul/4294967296 ^ j/(val b*2 ^ s)∧w4.length=m+1∧fT w4∧val w4+4294967296 ^ j*(x4*(val b*2 ^ s))=val ul)→Q .normal ((((((((St.mk L2.slot (hp [(1001057,⟨1,w4.map cB,true⟩),(1001105,⟨1,(i7 ((a7 (val b)).length+1) (val b*2 ^ s)).map cB,false⟩),(77,⟨1,ql.map cB,true⟩)])).put (some 4) (.ref 77 1 0 q0)).put (some 9) (aE s)).put (some 10) (.ref 1001057 1 0 (m+1))).put (some 11) (bW (val b*2 ^ s))).put (some 12) (aE (n+2))).put (some 13) (iL (((j+1:Nat):Int)-1))).put (some 15) (dV x4))) :
  wpL Tryz.prog ((aCQ Tryz.f206 [1,1,1,1,1,1,1,0,1,0,0,1,0,0,1,1,1,1,1,1,1,0,1]).getD .skip) Q ((((((((((St.mk L1.slot (hp [(1001057,⟨1,(wl.set (n+2+j) (((18446744073709551616+(18446744073709551616+wl.getD (n+2+j) 0-c) % 18446744073709551616-br) % 18446744073709551616) % 4294967296)).map cB,true⟩),(1001105,⟨1,(i7 ((a7 (val b)).length+1) (val b*2 ^ s)).map cB,false⟩),(77,⟨1,ql.map cB,true⟩)])).put (some 4) (.ref 77 1 0 q0)).put (some 9) (aE s)).put (some 10) (.ref 1001057 1 0 (m+1))).put (some 11) (bW (val b*2 ^ s))).put (some 12) (aE (n+2))).put (some 13) (iL (((j+1:Nat):Int)-1))).put (some 15) (dV x)).put (some 22) (dV ((18446744073709551616+(18446744073709551616+wl.getD (n+2+j) 0-c) % 18446744073709551616-br) % 18446744073709551616))).put (some 211) (.v (.bool (((((18446744073709551616+(18446744073709551616+wl.getD (n+2+j) 0-c) % 18446744073709551616-br) % 18446744073709551616)/9223372036854775808:Nat):Int) != 0)))):=by
 have ej:True:=trivial
 have ek:True:=trivial
 have es:True:=trivial
 have eV:True:=trivial
 have ej1:True:=trivial
 have ej2:True:=trivial
 have ej3:True:=trivial
 have ehm:True:=trivial
 have ehg:True:=trivial
 have en1:True:=trivial
 have en2:True:=trivial
 have eij:True:=trivial
 have eiij:True:=trivial
 have eqn:True:=trivial
 have egi:True:=trivial
 have egi1:True:=trivial
 have eg2:True:=trivial
 have eg3:True:=trivial
 have ei1:True:=trivial
 have ej1:((j:Int)+((n+2:Nat):Int)).toNat=n+2+j:=by omega
 have ej2:((j:Int)+((n+2:Nat):Int)-1).toNat=n+1+j:=by omega
 have ej3:((j:Int)+((n+2:Nat):Int)-2).toNat=n+j:=by omega
 have en1:(((n+2:Nat):Int)-1).toNat=n+1:=by omega
 have en2:(((n+2:Nat):Int)-2).toNat=n:=by omega
 have ek:(((j+1:Nat):Int)-1)=(j:Int):=by omega
 have hv1l:=bT ((val b*2 ^ s)) (n+1)
 have hv2l:=bT ((val b*2 ^ s)) n
 have hu0:=cZ hlu (n+2+j)
 have hu1:=cZ hlu (n+1+j)
 have hu2:=cZ hlu (n+j)
 have hz:=uI (n:=n+2) (j:=j) hVlt hlt
 obtain⟨hlw2,hd2,hv6⟩:=aDY (n:=n+2) (by omega) hlw hbr hc hv5 rfl rfl
 have hwt:=cZ hlw (n+2+j)
 refine vK rfl ?_
 refine aK rfl (fun h211r h211=>?_) (fun h211r h211=>?_)
 ·have hd1:((18446744073709551616+(18446744073709551616+wl.getD (n+2+j) 0-c) % 18446744073709551616-br) % 18446744073709551616)/9223372036854775808=1:=by omega
  have hgt:=aMT (V:=(val b*2 ^ s)) (n:=n+2) (j:=j) (x:=x) (ul:=(wl.set (n+2+j) (((18446744073709551616+(18446744073709551616+wl.getD (n+2+j) 0-c) % 18446744073709551616-br) % 18446744073709551616) % 4294967296))) (ul0:=ul) (by rw [hv6,hd1,Nat.mul_one]) (uD hlw2 (fun p hp=>by rw [Go.Lg.getD_set_ne _ _ _ _ (by omega),hz5 p (by omega)];exact hz p hp)) hV0
  have hx0:1≤x:=Nat.lt_of_le_of_lt (Nat.zero_le _) hgt
  refine cP ?_
  refine aB rfl (.bin rfl rfl (aMS (show 1≤x by omega) (by omega))) ?_
  refine nY ?_
  refine lp3 (fun(ii:Nat) (w3:List Nat) (c3:Nat) L=>((((((((((((St.mk L.slot (hp [(1001057,⟨1,w3.map cB,true⟩),(1001105,⟨1,(i7 ((a7 (val b)).length+1) (val b*2 ^ s)).map cB,false⟩),(77,⟨1,ql.map cB,true⟩)])).put (some 4) (.ref 77 1 0 q0)).put (some 9) (aE s)).put (some 10) (.ref 1001057 1 0 (m+1))).put (some 11) (bW (val b*2 ^ s))).put (some 12) (aE (n+2))).put (some 13) (iL (((j+1:Nat):Int)-1))).put (some 15) (dV (x-1))).put (some 18) (dV c3)).put (some 214) (bW (val b*2 ^ s))).put (some 215) (aE (n+2))).put (some 216) (aE ii))) (fun ii w3 c3=>ii≤n+2∧w3.length=m+1∧fT w3∧c3≤1∧val w3+4294967296 ^ (ii+j)*c3=val (wl.set (n+2+j) (((18446744073709551616+(18446744073709551616+wl.getD (n+2+j) 0-c) % 18446744073709551616-br) % 18446744073709551616) % 4294967296))+4294967296 ^ j*val ((a7 (val b*2 ^ s)).take ii)∧∀ p,n+2+j+1≤p→w3.getD p 0=0) (fun ii w3 c3=>n+2-ii) 0 (wl.set (n+2+j) (((18446744073709551616+(18446744073709551616+wl.getD (n+2+j) 0-c) % 18446744073709551616-br) % 18446744073709551616) % 4294967296)) 0 ⟨Nat.zero_le _,by simp [hwl],hlw2,by omega,by simp [val],fun p hp=>by rw [Go.Lg.getD_set_ne _ _ _ _ (by omega),hz5 p (by omega)];exact hz p hp⟩ (h0:=⟨_,bI.of_eq (aA (aA (aA (aA (aA (aA (aA (aA (aA (aA (aA (bC lO) lO) lO) lO) lO) lO) lO) lO) lO) lO) lO) lO)⟩) ?_
  rintro ii w3 c3 L4 ⟨hi3,hw3,hl3,hc3,hv7,hz7⟩
  have eiij:((ii:Int)+(j:Int)).toNat=ii+j:=by omega
  have hvi3:=bT (val b*2 ^ s) ii
  have hwi3:=cZ hl3 (ii+j)
  refine dB ?_
  refine aK rfl (fun h217r h217=>?_) (fun h217r h217=>?_)
  ·refine aOE ?_
   exact nx3 (ii+1) (w3.set (ii+j) ((c3+(w3.getD (ii+j) 0+(a7 (val b*2 ^ s)).getD ii 0)) % 4294967296)) ((c3+(w3.getD (ii+j) 0+(a7 (val b*2 ^ s)).getD ii 0))/4294967296) (by
    obtain⟨g1,g2⟩:=aLs (by omega) hl3 hv7 (s:=(c3+(w3.getD (ii+j) 0+(a7 (val b*2 ^ s)).getD ii 0))) rfl
    exact⟨by omega,by simp [hw3],g1,by omega,g2,fun p hp=>by rw [Go.Lg.getD_set_ne _ _ _ _ (by omega)];exact hz7 p hp⟩) (he:=bI.of_eq (aA (aA (aA (aA (aA (aA (aA (aA (aA (aA (aA (bC lO) lO) lO) lO) lO) lO) lO) lO) lO) lO) lO) lO))
  ·obtain rfl:ii=n+2:=by omega
   rw [List.take_of_length_le (by omega),aV] at hv7
   have hw3t:=cZ hl3 (n+2+j)
   have hxe:x-1=val ul/4294967296 ^ j/(val b*2 ^ s):=by omega
   have hxle:4294967296 ^ j*((x-1)*(val b*2 ^ s))≤val ul:=by rw [hxe];exact Nat.le_trans (Nat.mul_le_mul_left _ (Nat.div_mul_le_self _ _)) (Nat.mul_div_le _ _)
   have hbk:=aI1 (ul:=(wl.set (n+2+j) (((18446744073709551616+(18446744073709551616+wl.getD (n+2+j) 0-c) % 18446744073709551616-br) % 18446744073709551616) % 4294967296))) (ul0:=ul) (n:=n+2) (j:=j) (x:=x) (V:=(val b*2 ^ s)) (ul3:=w3) (c:=c3) (by omega) hxle (by rw [hv6,hd1,Nat.mul_one]) (by omega) hl3 hz7 hc3 hv7 rfl
   refine gC ?_
   refine aB rfl (.bin rfl rfl (aGe)) ?_
   refine cP ?_
   exact mR (hQ (w3.set (n+2+j) ((w3.getD (n+2+j) 0+c3) % 4294967296)) (x-1) _ ⟨hxe,by simp [hw3],hbk.1,hbk.2⟩) (aA (aA (aA (aA (aA (aA (aA (bC cl) cl) cl) cl) cl) cl) cl) cl)
 ·have hd0:((18446744073709551616+(18446744073709551616+wl.getD (n+2+j) 0-c) % 18446744073709551616-br) % 18446744073709551616)/9223372036854775808=0:=by omega
  rw [hd0,Nat.mul_zero,Nat.add_zero] at hv6
  have hxF:x=val ul/4294967296 ^ j/(val b*2 ^ s):=by have:=aMH hv6 hV0;omega
  refine bE ?_
  exact mR (hQ ((wl.set (n+2+j) (((18446744073709551616+(18446744073709551616+wl.getD (n+2+j) 0-c) % 18446744073709551616-br) % 18446744073709551616) % 4294967296))) (x) _ ⟨hxF,by simp [hwl],hlw2,hv6⟩) (aA (aA (aA (aA (aA (aA (aA (bC cl) cl) cl) cl) cl) cl) cl) cl)
open Zq75 in
theorem aEJ (b ul ql:List Nat) (n s m q0 j:Nat) (enV:(a7 (val b*2 ^ s)).length=n+2) (hnm:n+2≤m) (hm4:m≤1099511627776) (hq0:q0=m+1-(n+2)) (hk:j+1≤q0) (hul:ul.length=m+1) (hql:ql.length=q0) (hlu:fT ul) (hlq:fT ql) (hvt:2147483648≤(a7 (val b*2 ^ s)).getD (n+1) 0) (hV0:0<(val b*2 ^ s)) (hVlt:(val b*2 ^ s)<4294967296 ^ (n+2)) (hlt:val ul<(val b*2 ^ s)*4294967296 ^ (j+1)) {Q:LEx→St→Prop} (L1:St)
  (hQ:∀ (w4:List Nat) (x4:Nat) (L2:St),(x4=val ul/4294967296 ^ j/(val b*2 ^ s)∧w4.length=m+1∧fT w4∧val w4+4294967296 ^ j*(x4*(val b*2 ^ s))=val ul)→Q .normal (((((((St.mk L2.slot (hp [(1001057,⟨1,w4.map cB,true⟩),(1001105,⟨1,(i7 ((a7 (val b)).length+1) (val b*2 ^ s)).map cB,false⟩),(77,⟨1,(ql.set j (x4 % 4294967296)).map cB,true⟩)])).put (some 4) (.ref 77 1 0 q0)).put (some 9) (aE s)).put (some 10) (.ref 1001057 1 0 (m+1))).put (some 11) (bW (val b*2 ^ s))).put (some 12) (aE (n+2))).put (some 13) (iL (((j+1:Nat):Int)-1)))) :
  wpL Tryz.prog ((aCQ Tryz.f206 [1,1,1,1,1,1,1,0,1,0,0,1,0]).getD .skip) Q (((((((St.mk L1.slot (hp [(1001057,⟨1,ul.map cB,true⟩),(1001105,⟨1,(i7 ((a7 (val b)).length+1) (val b*2 ^ s)).map cB,false⟩),(77,⟨1,ql.map cB,true⟩)])).put (some 4) (.ref 77 1 0 q0)).put (some 9) (aE s)).put (some 10) (.ref 1001057 1 0 (m+1))).put (some 11) (bW (val b*2 ^ s))).put (some 12) (aE (n+2))).put (some 13) (iL (((j+1:Nat):Int)-1))):=by
 have ej:True:=trivial
 have ek:True:=trivial
 have es:True:=trivial
 have eV:True:=trivial
 have ej1:True:=trivial
 have ej2:True:=trivial
 have ej3:True:=trivial
 have ehm:True:=trivial
 have ehg:True:=trivial
 have en1:True:=trivial
 have en2:True:=trivial
 have eij:True:=trivial
 have eiij:True:=trivial
 have eqn:True:=trivial
 have egi:True:=trivial
 have egi1:True:=trivial
 have eg2:True:=trivial
 have eg3:True:=trivial
 have ei1:True:=trivial
 have ej1:((j:Int)+((n+2:Nat):Int)).toNat=n+2+j:=by omega
 have ej2:((j:Int)+((n+2:Nat):Int)-1).toNat=n+1+j:=by omega
 have ej3:((j:Int)+((n+2:Nat):Int)-2).toNat=n+j:=by omega
 have en1:(((n+2:Nat):Int)-1).toNat=n+1:=by omega
 have en2:(((n+2:Nat):Int)-2).toNat=n:=by omega
 have ek:(((j+1:Nat):Int)-1)=(j:Int):=by omega
 have hv1l:=bT ((val b*2 ^ s)) (n+1)
 have hv2l:=bT ((val b*2 ^ s)) n
 have hu0:=cZ hlu (n+2+j)
 have hu1:=cZ hlu (n+1+j)
 have hu2:=cZ hlu (n+j)
 have hz:=uI (n:=n+2) (j:=j) hVlt hlt
 refine vK rfl ?_
 refine cY ?_
 refine aP 18 (by decide +kernel) ?_
 refine aC8 ?_
 refine aP 18 (by decide +kernel) ?_
 refine dL ?_
 refine aB rfl (.bin rfl rfl (aBp (by simp only [en1,fC];omega) (by omega))) ?_
 refine dL ?_
 refine aB rfl (.bin rfl rfl (aKN (by simp only [en1,fC];omega))) ?_
 refine dR ?_
 refine v6 (S:=fun L=>(((((((((St.mk L.slot (hp [(1001057,⟨1,ul.map cB,true⟩),(1001105,⟨1,(i7 ((a7 (val b)).length+1) (val b*2 ^ s)).map cB,false⟩),(77,⟨1,ql.map cB,true⟩)])).put (some 4) (.ref 77 1 0 q0)).put (some 9) (aE s)).put (some 10) (.ref 1001057 1 0 (m+1))).put (some 11) (bW (val b*2 ^ s))).put (some 12) (aE (n+2))).put (some 13) (iL (((j+1:Nat):Int)-1))).put (some 15) (dV ((ul.getD (n+2+j) 0*4294967296+ul.getD (n+1+j) 0)/(a7 (val b*2 ^ s)).getD (n+1) 0))).put (some 16) (dV ((ul.getD (n+2+j) 0*4294967296+ul.getD (n+1+j) 0) % (a7 (val b*2 ^ s)).getD (n+1) 0)))) (aA (aA (aA (aA (aA (aA (aA (aA (bC cl) cl) cl) cl) cl) cl) cl) cl) cl) ?_
 refine aGE b ul ql n s m q0 j enV hnm hm4 hq0 hk hul hql hlu hlq hvt hV0 hVlt hlt _ ?_
 rintro x LQ ⟨hx1,hx2,hxB⟩
 refine iJ ?_
 refine v6 (S:=fun L=>(((((((((((((St.mk L.slot (hp [(1001057,⟨1,ul.map cB,true⟩),(1001105,⟨1,(i7 ((a7 (val b)).length+1) (val b*2 ^ s)).map cB,false⟩),(77,⟨1,ql.map cB,true⟩)])).put (some 4) (.ref 77 1 0 q0)).put (some 9) (aE s)).put (some 10) (.ref 1001057 1 0 (m+1))).put (some 11) (bW (val b*2 ^ s))).put (some 12) (aE (n+2))).put (some 13) (iL (((j+1:Nat):Int)-1))).put (some 15) (dV x)).put (some 17) (dV 0)).put (some 18) (dV 0)).put (some 154) (bW (val b*2 ^ s))).put (some 155) (aE (n+2))).put (some 156) (aE 0))) (aA (aA (aA (aA (aA (aA (aA (aA (aA (aA (aA (aA (bC cl) cl) cl) cl) cl) cl) cl) cl) cl) cl) cl) cl) cl) ?_
 refine aC6 b ul ql n s m q0 j enV hnm hm4 hq0 hk hul hql hlu hlq hvt hV0 hVlt hlt x hx1 hxB _ ?_
 rintro wl c br LQ ⟨hwl,hlw,hc,hbr,hv5,hz5⟩
 obtain⟨hlw2,hd2,hv6⟩:=aDY (n:=n+2) (by omega) hlw hbr hc hv5 rfl rfl
 have hwt:=cZ hlw (n+2+j)
 refine cV ?_
 refine aB rfl (.bin rfl rfl (aFw (by omega))) ?_
 refine bE ?_
 refine aB rfl (.bin rfl rfl (aFw (by omega))) ?_
 refine aCf ?_
 refine v6 (S:=fun L=>((((((((((St.mk L.slot (hp [(1001057,⟨1,(wl.set (n+2+j) (((18446744073709551616+(18446744073709551616+wl.getD (n+2+j) 0-c) % 18446744073709551616-br) % 18446744073709551616) % 4294967296)).map cB,true⟩),(1001105,⟨1,(i7 ((a7 (val b)).length+1) (val b*2 ^ s)).map cB,false⟩),(77,⟨1,ql.map cB,true⟩)])).put (some 4) (.ref 77 1 0 q0)).put (some 9) (aE s)).put (some 10) (.ref 1001057 1 0 (m+1))).put (some 11) (bW (val b*2 ^ s))).put (some 12) (aE (n+2))).put (some 13) (iL (((j+1:Nat):Int)-1))).put (some 15) (dV x)).put (some 22) (dV ((18446744073709551616+(18446744073709551616+wl.getD (n+2+j) 0-c) % 18446744073709551616-br) % 18446744073709551616))).put (some 211) (.v (.bool (((((18446744073709551616+(18446744073709551616+wl.getD (n+2+j) 0-c) % 18446744073709551616-br) % 18446744073709551616)/9223372036854775808:Nat):Int) != 0))))) (aA (aA (aA (aA (aA (aA (aA (aA (aA (bC cl) cl) cl) cl) cl) cl) cl) cl) cl) cl) ?_
 refine aGM b ul ql n s m q0 j enV hnm hm4 hq0 hk hul hql hlu hlq hvt hV0 hVlt hlt x hx1 hx2 hxB wl c br hwl hlw hc hbr hv5 hz5 _ ?_
 rintro w4 x4 LQ ⟨hx4,hw4,hl4,hv8⟩
 have hRV:val ul/4294967296 ^ j<(val b*2 ^ s)*4294967296:=by
  obtain⟨_,_,_,_,_,_,h⟩:=aDc (j:=j) enV (by omega) hlu hlt
  exact h
 have hqB:val ul/4294967296 ^ j/(val b*2 ^ s)<4294967296:=by rw [Nat.div_lt_iff_lt_mul hV0,Nat.mul_comm];exact hRV
 have hx4B:x4<4294967296:=by rw [hx4];exact hqB
 have hx4m:x4 % 4294967296=x4:=Nat.mod_eq_of_lt hx4B
 refine cN ?_
 exact mR (hQ (w4) (x4) _ ⟨hx4,hw4,hl4,hv8⟩) (aA (aA (aA (aA (aA (aA (bC cl) cl) cl) cl) cl) cl) cl)
open Zq75 in
theorem aFe (b ul ql:List Nat) (s m q0 T:Nat) (hs32:s<32) (hm4:m≤1099511627776) (hul:ul.length=m+1) (hlu:fT ul) (hTm:T≤m+1) (hTz:∀ p,T≤p→ul.getD p 0=0) (hlow:ul.getD 0 0 % 2 ^ s=0) {Q:LEx→St→Prop} (L1:St)
  (hQ:∀ (w:List Nat) (L2:St),(w.length=m+1∧fT w∧2 ^ s*val (w.take T)=val (ul.take T)+4294967296 ^ T*(ul.getD T 0 % 2 ^ s))→Q .normal (((St.mk L2.slot (hp [(1001057,⟨1,w.map cB,true⟩),(1001105,⟨1,(i7 ((a7 (val b)).length+1) (val b*2 ^ s)).map cB,false⟩),(77,⟨1,ql.map cB,true⟩)])).put (some 4) (.ref 77 1 0 q0)).put (some 5) (.ref 1001057 1 0 T))) :
  wpL Tryz.prog ((aCQ Tryz.f206 [1,1,1,1,1,1,1,1,1,0,1]).getD .skip) Q (((((((St.mk L1.slot (hp [(1001057,⟨1,ul.map cB,true⟩),(1001105,⟨1,(i7 ((a7 (val b)).length+1) (val b*2 ^ s)).map cB,false⟩),(77,⟨1,ql.map cB,true⟩)])).put (some 4) (.ref 77 1 0 q0)).put (some 5) (.ref 1001057 1 0 T)).put (some 9) (aE s)).put (some 260) (.ref 1001057 1 0 T)).put (some 261) (aE T)).put (some 262) (aE 0)):=by
 have ej:True:=trivial
 have ek:True:=trivial
 have es:True:=trivial
 have eV:True:=trivial
 have ej1:True:=trivial
 have ej2:True:=trivial
 have ej3:True:=trivial
 have ehm:True:=trivial
 have ehg:True:=trivial
 have en1:True:=trivial
 have en2:True:=trivial
 have eij:True:=trivial
 have eiij:True:=trivial
 have eqn:True:=trivial
 have egi:True:=trivial
 have egi1:True:=trivial
 have eg2:True:=trivial
 have eg3:True:=trivial
 have ei1:True:=trivial
 have enV:True:=trivial
 refine vK rfl ?_
 refine bE ?_
 refine nD (fun(i:Nat) (w:List Nat) L=>(((((((St.mk L.slot (hp [(1001057,⟨1,w.map cB,true⟩),(1001105,⟨1,(i7 ((a7 (val b)).length+1) (val b*2 ^ s)).map cB,false⟩),(77,⟨1,ql.map cB,true⟩)])).put (some 4) (.ref 77 1 0 q0)).put (some 5) (.ref 1001057 1 0 T)).put (some 9) (aE s)).put (some 260) (.ref 1001057 1 0 T)).put (some 261) (aE T)).put (some 262) (aE i))) (fun i w=>i≤T∧w.length=m+1∧fT w∧(∀ p,i≤p→w.getD p 0=ul.getD p 0)∧2 ^ s*val (w.take i)=val (ul.take i)+4294967296 ^ i*(ul.getD i 0 % 2 ^ s)) (fun i w=>T-i) 0 ul ⟨Nat.zero_le _,hul,hlu,fun _ _=>rfl,by rw [hlow];simp [val]⟩ ?_
 rintro i w L5 ⟨hi,hwl,hlw,hz9,hv9⟩
 have ei1:((i:Int)+1).toNat=i+1:=by omega
 have hwi:=cZ hlw i
 have hwi1:=cZ hlu (i+1)
 have egi:=hz9 i (Nat.le_refl _)
 have egi1:=hz9 (i+1) (by omega)
 have hui:=cZ hlu i
 obtain⟨hh1,hh2⟩:=aAI (z:=ul.getD (i+1) 0) (show s≤32 by omega) hui
 have hh3:ul.getD i 0/2 ^ s<4294967296:=by omega
 refine dB ?_
 refine aK rfl (fun h263r h263=>?_) (fun h263r h263=>?_)
 ·have eg2:(w.set i (ul.getD i 0/2 ^ s)).getD i 0=ul.getD i 0/2 ^ s:=qV _ _ _ (by omega)
  have eg3:(w.set i (ul.getD i 0/2 ^ s)).getD (i+1) 0=ul.getD (i+1) 0:=by rw [Go.Lg.getD_set_ne _ _ _ _ (by omega)];exact egi1
  refine nY ?_
  refine aB rfl (.sh rfl rfl (aGX (m:=s) (by show s≤32;omega))) ?_
  refine dU ?_
  refine dJ 274 rfl (fun h274r h274=>?_) (fun h274r h274=>?_)
  ·refine eC ?_
   refine aK rfl (fun h280r h280=>?_) (fun h280r h280=>?_)
   ·refine aP 14 (by decide +kernel) ?_
    refine cV ?_
    refine aB rfl (.sh rfl rfl (aLK (s:=s) (by omega))) ?_
    refine aB rfl (.bin rfl rfl (aMQ (by simp only [e1,e2,e3,e4,p1,p2,p3,q1,q2,q3,l1,t0,t1,r1,r2,r3,r4,Nat.zero_add,Nat.reduceMul,Nat.reduceAdd,b1,b2,b3,b4,b5,b6,i1,i2,i3,i4,i5,i6,Nat.reduceBEq,fC,egi,egi1,eg2,eg3,ei1];exact hh1) (by simp only [e1,e2,e3,e4,p1,p2,p3,q1,q2,q3,l1,t0,t1,r1,r2,r3,r4,Nat.zero_add,Nat.reduceMul,Nat.reduceAdd,b1,b2,b3,b4,b5,b6,i1,i2,i3,i4,i5,i6,Nat.reduceBEq,fC,egi,egi1,eg2,eg3,ei1];exact hh2))) ?_
    refine cN ?_
    exact lI (i+1) (w.set i (ul.getD (i+1) 0 % 2 ^ s*2 ^ (32-s)+ul.getD i 0/2 ^ s)) ⟨by omega,by simp [hwl],eX hlw _ _ hh2,fun p hp=>by rw [Go.Lg.getD_set_ne _ _ _ _ (by omega)];exact hz9 p (by omega),aCz (by omega) hs32 egi hv9 (Nat.add_comm _ _)⟩
   ·refine eC ?_
    exact lI (i+1) (w.set i (ul.getD i 0/2 ^ s)) ⟨by omega,by simp [hwl],eX hlw _ _ hh3,fun p hp=>by rw [Go.Lg.getD_set_ne _ _ _ _ (by omega)];exact hz9 p (by omega),aCz (by omega) hs32 egi hv9 (by rw [hTz (i+1) (by omega)];simp)⟩
  ·refine nY ?_
   exact lI (i+1) (w.set i (ul.getD i 0/2 ^ s)) ⟨by omega,by simp [hwl],eX hlw _ _ hh3,fun p hp=>by rw [Go.Lg.getD_set_ne _ _ _ _ (by omega)];exact hz9 p (by omega),aCz (by omega) hs32 egi hv9 (by rw [show s=0 by omega];simp [Nat.mod_one])⟩
 ·obtain rfl:i=T:=by omega
  refine cO ?_
  exact mR (hQ (w) _ ⟨hwl,hlw,hv9⟩) (aA (aA (bC cl) cl) cl)
open Zq75 in
theorem aAB (a b:List Nat) (ha:fT a) (hb:fT b) (hla:a.length≤1099511627776) (hlb:b.length≤1099511627776) (hb0:0<val b):aM Tryz.prog 206 [fV a,fV b] (.tup [bW (val a/val b),bW (val a % val b),iL 0]):=by
 have hla2:=oD a ha hla
 have hlb2:=oD b hb hlb
 have hbne:(a7 (val b)).length≠0:=fun h=>by have:=eR.1 (List.eq_nil_of_length_eq_zero h);omega
 refine dI Tryz.func206 ?_
 have ej:True:=trivial
 have ek:True:=trivial
 have es:True:=trivial
 have eV:True:=trivial
 have ej1:True:=trivial
 have ej2:True:=trivial
 have ej3:True:=trivial
 have ehm:True:=trivial
 have ehg:True:=trivial
 have en1:True:=trivial
 have en2:True:=trivial
 have eij:True:=trivial
 have eiij:True:=trivial
 have eqn:True:=trivial
 have egi:True:=trivial
 have egi1:True:=trivial
 have eg2:True:=trivial
 have eg3:True:=trivial
 have ei1:True:=trivial
 have enV:True:=trivial
 refine cN ?_
 refine cp dC (g9 _ (by first | assumption | exact aX _) (by first | omega | (simp;done) | (simp;omega))) ?_
 refine bE ?_
 refine cp dC (g9 _ (by first | assumption | exact aX _) (by first | omega | (simp;done) | (simp;omega))) ?_
 refine gC ?_
 refine aK rfl (fun h30r h30=>?_) (fun h30r h30=>?_)
 ·exfalso
  omega
 ·refine cO ?_
  refine cp b9 (vR _ _ (by first | assumption | exact aX _) (by first | assumption | exact aX _) (by omega) (by omega)) ?_
  refine cO ?_
  refine aK rfl (fun h34r h34=>?_) (fun h34r h34=>?_)
  ·have hlt:val a<val b:=by
    apply Classical.byContradiction
    intro hh
    rcases Nat.lt_or_eq_of_le (Nat.le_of_not_lt hh) with h | h
    ·rw [iZ h] at h34;omega
    ·rw [jN h.symm] at h34;omega
   refine cP ?_
   refine cp dC (sK _ (by omega)) ?_
   refine eC ?_
   rw [Nat.div_eq_of_lt hlt,Nat.mod_eq_of_lt hlt]
   exact qR [] rfl rfl (.nil 1) rfl (.pure (bA _)) rfl (.pure rfl)
  ·have hge:val b≤val a:=by
    apply Classical.byContradiction
    intro hh
    rw [hY (by omega)] at h34;omega
   refine eC ?_
   refine aK rfl (fun h41r h41=>?_) (fun h41r h41=>?_)
   ·have hb32:val b<4294967296:=eT.1 (by omega)
    have hd1:a7 (val b)=[val b]:=kA hb0 hb32
    have hg0:(a7 (val b)).getD 0 0=val b:=by rw [hd1];rfl
    have ehg:=hg0
    have hml:=Nat.mod_lt (val a) hb0
    refine dB ?_
    refine cp b9 (aHP _ _ (aX _) (by omega) (by show 0<(a7 (val b)).getD 0 0;rw [hg0];exact hb0) (bT _ _)) ?_
    refine dR ?_
    refine jU nf1 ?_
    refine dB ?_
    refine cpf [55] fm1 (g9 [val a % val b] (aJh (by omega)) (by simp)) ?_
    refine cP ?_
    refine jU nf2 ?_
    refine cO ?_
    exact qR [] rfl rfl (.pure (aO _)) rfl (.pure (aO _)) rfl (.pure rfl)
   ·obtain⟨n,hn⟩:∃ n,(a7 (val b)).length=n+2:=⟨(a7 (val b)).length-2,by omega⟩
    obtain⟨m,hm⟩:∃ m,(a7 (val a)).length=m:=⟨_,rfl⟩
    have ehm:=hm
    have hm4:m≤1099511627776:=by omega
    have hnm:n+1+1≤m:=by rw [←hm];have:=dE hge;omega
    have ej:(((a7 (val b)).length:Int)-1).toNat=n+1:=by omega
    obtain⟨s,hs⟩:∃ s,s=32-eG ((a7 (val b)).getD (n+1) 0):=⟨_,rfl⟩
    have hbl32:eG ((a7 (val b)).getD (n+1) 0)≤32:=iY.2 (bT _ _)
    have es:(32:Int)-((eG ((a7 (val b)).getD (n+1) 0):Nat):Int)=((s:Nat):Int):=by rw [aNp hbl32,hs]
    obtain⟨hs32,enV,hVge,hVlt⟩:=aEi (n:=n+1) hn hs
    have hV0:0<val b*2 ^ s:=Nat.mul_pos hb0 (Nat.pow_pos (by omega))
    have eV:val (i7 ((a7 (val b)).length+1) (val b*2 ^ s))=val b*2 ^ s:=v5 (by rw [hn];exact Nat.lt_of_lt_of_le hVlt (Nat.pow_le_pow_right (by omega) (by omega)))
    have hvt:=aKw enV hVge
    have hv1l:=bT (val b*2 ^ s) (n+1)
    have hv2l:=bT (val b*2 ^ s) n
    obtain⟨hst1,hst2⟩:=aHe (n:=n+1) hs32 hm hnm hVge
    obtain⟨q0,hq0⟩:∃ q0,q0=m+1-(n+2):=⟨_,rfl⟩
    have eqn:((m:Int)+1-((n+2:Nat):Int))=((q0:Nat):Int):=by omega
    have en1:(((n+2:Nat):Int)-1).toNat=n+1:=by omega
    have en2:(((n+2:Nat):Int)-2).toNat=n:=by omega
    have hB1:val (i7 (m+1) (val a*2 ^ s))=val a*2 ^ s:=v5 hst2
    refine cV ?_
    refine cp dC (aKR _ (bT _ _)) ?_
    refine dL ?_
    refine lE [] rfl rfl (.cons (.pure (aO _)) (.cons (.pure rfl) .nil)) (aBT (val a) s (by omega) hs32) (aH cT _) rfl ?_
    refine cY ?_
    refine lE [] rfl rfl (.cons (.pure (aO _)) (.cons (.pure rfl) .nil)) (aBT (val b) s (by omega) hs32) (aH cT _) rfl ?_
    refine yL [1001105] rfl rfl (.cons (cA cT rfl rfl (nH _ _).symm) .nil) (g9 (i7 ((a7 (val b)).length+1) (val b*2 ^ s)) (w8 _ _) (by rw [nH];omega)) ?_
    refine cY ?_
    refine jU nf3 ?_
    refine dB ?_
    refine jU nf4 ?_
    refine dL ?_
    refine dD rfl rfl (.mkE (n:=q0) (m:=q0) ml ml om om om) ?_
    refine eA ?_
    refine lp3 (fun(k:Nat) (ul ql:List Nat) L=>(((((((St.mk L.slot (hp [(1001057,⟨1,ul.map cB,true⟩),(1001105,⟨1,(i7 ((a7 (val b)).length+1) (val b*2 ^ s)).map cB,false⟩),(77,⟨1,ql.map cB,true⟩)])).put (some 4) (.ref 77 1 0 q0)).put (some 9) (aE s)).put (some 10) (.ref 1001057 1 0 (m+1))).put (some 11) (bW (val b*2 ^ s))).put (some 12) (aE (n+2))).put (some 13) (iL ((k:Int)-1)))) (fun k ul ql=>k≤q0∧ul.length=m+1∧ql.length=q0∧fT ul∧fT ql∧val ul+(val b*2 ^ s)*4294967296 ^ k*val (ql.drop k)=val a*2 ^ s∧val ul<(val b*2 ^ s)*4294967296 ^ k) (fun k ul ql=>k) q0 (i7 (m+1) (val a*2 ^ s)) (List.replicate q0 0) ⟨Nat.le_refl _,nH _ _,by simp,w8 _ _,gQ _,by rw [List.drop_of_length_le (by simp),hB1];simp [val],by rw [hB1,hq0];exact hst1⟩ (h0:=⟨_,bI.of_eq (aA (aA (aA (aA (aA (aA (bC cl5) cl5) cl5) cl5) cl5) cl5) cl5)⟩) ?_
    rintro k ul ql L1 ⟨hk,hul,hql,hlu,hlq,hv,hlt⟩
    refine dL ?_
    refine aK rfl (fun h82r h82=>?_) (fun h82r h82=>?_)
    ·obtain⟨j,rfl⟩:∃ j,k=j+1:=⟨k-1,by omega⟩
     have ek:(((j+1:Nat):Int)-1)=(j:Int):=by omega
     refine cP ?_
     refine v6 (S:=fun L=>(((((((St.mk L.slot (hp [(1001057,⟨1,ul.map cB,true⟩),(1001105,⟨1,(i7 ((a7 (val b)).length+1) (val b*2 ^ s)).map cB,false⟩),(77,⟨1,ql.map cB,true⟩)])).put (some 4) (.ref 77 1 0 q0)).put (some 9) (aE s)).put (some 10) (.ref 1001057 1 0 (m+1))).put (some 11) (bW (val b*2 ^ s))).put (some 12) (aE (n+2))).put (some 13) (iL (((j+1:Nat):Int)-1)))) (aA (aA (aA (aA (aA (aA (bC cl) cl) cl) cl) cl) cl) cl) ?_
     refine aEJ b ul ql n s m q0 j enV hnm hm4 hq0 hk hul hql hlu hlq hvt hV0 hVlt hlt _ ?_
     rintro w4 x4 LQ ⟨hx4,hw4,hl4,hv8⟩
     have hRV:val ul/4294967296 ^ j<(val b*2 ^ s)*4294967296:=by
      obtain⟨_,_,_,_,_,_,h⟩:=aDc (j:=j) enV (by omega) hlu hlt
      exact h
     have hqB:val ul/4294967296 ^ j/(val b*2 ^ s)<4294967296:=by rw [Nat.div_lt_iff_lt_mul hV0,Nat.mul_comm];exact hRV
     have hx4B:x4<4294967296:=by rw [hx4];exact hqB
     have hx4m:x4 % 4294967296=x4:=Nat.mod_eq_of_lt hx4B
     obtain⟨hn1,hn2⟩:=aDr (j:=j) hV0 hx4 hv8 (by omega) hv
     refine dL ?_
     exact nx3 j w4 (ql.set j (x4 % 4294967296)) ⟨by omega,hw4,by simp [hql],hl4,eX hlq _ _ (by omega),by rw [hx4m];exact hn1,hn2⟩ (he:=bI.of_eq (aA (aA (aA (aA (aA (aA (bC cl5) cl5) cl5) cl5) cl5) cl5) cl5))
    ·obtain rfl:k=0:=by omega
     rw [List.drop_zero,Nat.pow_zero,Nat.mul_one] at hv
     rw [Nat.pow_zero,Nat.mul_one] at hlt
     obtain⟨hq,hr⟩:=aGz hb0 hv hlt
     obtain⟨T,hT⟩:∃ T,T=fZ (m+1) ul:=⟨_,rfl⟩
     have hTm:T≤m+1:=by rw [hT];exact wJ _ _
     have hTz:=aEO (l:=ul) (n:=m+1) hul.symm
     rw [←hT] at hTz
     have hlow:=aBh (by omega) hr
     refine eC ?_
     refine lF 1001057 rfl rfl rfl (aH cT _) (.cons .ref .nil) (.ref (by omega)) (aHx ul (m+1) hul.symm (by omega) (by omega)) rfl (aH cT _) ?_
     refine bE ?_
     refine jU nf6 ?_
     refine dU ?_
     refine v6 (S:=fun L=>(((((((St.mk L.slot (hp [(1001057,⟨1,ul.map cB,true⟩),(1001105,⟨1,(i7 ((a7 (val b)).length+1) (val b*2 ^ s)).map cB,false⟩),(77,⟨1,ql.map cB,true⟩)])).put (some 4) (.ref 77 1 0 q0)).put (some 5) (.ref 1001057 1 0 T)).put (some 9) (aE s)).put (some 260) (.ref 1001057 1 0 T)).put (some 261) (aE T)).put (some 262) (aE 0))) (aA (aA (aA (aA (aA (aA (bC cl) cl) cl) cl) cl) cl) cl) ?_
     refine aFe b ul ql s m q0 T hs32 hm4 hul hlu hTm hTz hlow _ ?_
     rintro w LQ ⟨hwl,hlw,hv9⟩
     rw [hTz T (Nat.le_refl _),Nat.zero_mod,Nat.mul_zero,Nat.add_zero] at hv9
     have hfin:val (w.take T)=val a % val b:=by
      have e1:=(n7 ul.length ul (Nat.le_refl _)).2
      rw [List.take_length,hul,←hT,hr] at e1
      rw [e1,Nat.mul_comm] at hv9
      exact Nat.eq_of_mul_eq_mul_right (Nat.pow_pos (by omega)) hv9
     refine cO ?_
     refine cpf [77] fm1 (g9 ql hlq (by omega)) ?_
     refine bE ?_
     refine cpf [1001057] fm1 (g9 (w.take T) (i8 hlw _) (by simp;omega)) ?_
     refine dB ?_
     rw [←hq,←hfin]
     exact qR [] rfl rfl (.pure (aO _)) rfl (.pure (aO _)) rfl (.pure rfl)
namespace Zq76
theorem dG {p q:Prop} (k:q) (e:p=q:=by simp only [e1,e2,e3,e4,p1,p2,p3,q1,q2,q3,l1,t0,t1,r1,r2,r3,r4,Nat.zero_add,Nat.reduceMul,Nat.reduceAdd,b1,b2,b3,b4,b5,b6,i1,i2,i3,i4,i5,i6,Nat.reduceBEq,fC,aV];exact rfl):p:=e.mpr k
end Zq76
open Zq76 in
theorem aDj (a b:List Nat) (ha:fT a) (hb:fT b) (hla:a.length≤1099511627776) (hlb:b.length≤1099511627776):aM Tryz.prog 205 [fV a,fV b] (bW (Nat.gcd (val a) (val b))):=by
 have hla2:=oD a ha hla
 have hlb2:=oD b hb hlb
 refine dI Tryz.func205 ?_
 refine eC ?_
 refine cp dC (g9 _ (by first | assumption | exact aX _) (by first | omega | (simp;done) | (simp;omega))) ?_
 refine cp dC (sK _ (by omega)) ?_
 refine bE ?_
 refine cp dC (g9 _ (by first | assumption | exact aX _) (by first | omega | (simp;done) | (simp;omega))) ?_
 refine cp dC (sK _ (by omega)) ?_
 refine dB ?_
 refine nD (fun(x y:Nat) L=>(((St.mk L.slot (hp [])).put (some 5) (bW x)).put (some 6) (bW y))) (fun x y=>Nat.gcd x y=Nat.gcd (val a) (val b)∧(a7 x).length≤1099511627776∧(a7 y).length≤1099511627776) (fun x y=>y) (val a) (val b) ⟨rfl,hla2,hlb2⟩ ?_
 rintro x y L1 ⟨hg,hx,hy⟩
 refine eC ?_
 refine aK rfl (fun h23r h23=>?_) (fun h23r h23=>?_)
 ·have hy0:0<y:=Nat.pos_of_ne_zero (fun h=>by rw [h,i9] at h23;simp at h23)
  refine dL ?_
  refine cp b9 (aAB _ _ (aX _) (aX _) (by omega) (by omega) (by rw [aV];exact hy0)) ?_
  refine nY ?_
  exact lI y (x % y) ⟨by rw [Nat.gcd_comm,←Nat.gcd_rec,Nat.gcd_comm];exact hg,hy,Nat.le_trans (dE (Nat.le_of_lt (Nat.mod_lt x hy0))) hy⟩ (hm:=Nat.mod_lt _ hy0)
 ·refine eA ?_
  refine aK rfl (fun h35r h35=>?_) (fun h35r h35=>?_)
  ·have hy0:y=0:=eR.1 (List.eq_nil_of_length_eq_zero (by omega))
   refine eC ?_
   subst hy0
   rw [←hg,Nat.gcd_zero_right]
   exact bM rfl (by first | exact .pure rfl | exact .pure (bA _) | exact .pure (aO _) | exact .pure (aD.pure _) | exact .pure (aG cT _ _) | exact .pure (aG aD _ _))
  ·have hy0:0<y:=Nat.pos_of_ne_zero (fun h=>by rw [h,i9] at h35;simp at h35)
   refine cN ?_
   refine eB (fun L=>∃ (x2:Nat) (y2:Nat) (L1:St),(Nat.gcd x2 y2=Nat.gcd (val a) (val b)∧(a7 x2).length≤2∧(a7 y2).length≤2)∧L=(((St.mk L1.slot (hp [])).put (some 5) (bW x2)).put (some 6) (bW y2))) ?_ ?_
   ·refine aK rfl (fun h39r h39=>?_) (fun h39r h39=>?_)
    ·refine cO ?_
     refine cp b9 (aAB _ _ (aX _) (aX _) (by omega) (by omega) (by rw [aV];exact hy0)) ?_
     refine mY ?_
     exact⟨y,x % y,_,⟨by rw [Nat.gcd_comm,←Nat.gcd_rec,Nat.gcd_comm];exact hg,by omega,Nat.le_trans (dE (Nat.le_of_lt (Nat.mod_lt x hy0))) (by omega)⟩,((aA (aA (bC cl) cl) cl)).symm⟩
    ·refine cY ?_
     exact⟨x,y,_,⟨hg,by omega,by omega⟩,((aA (aA (bC cl) cl) cl)).symm⟩
   ·rintro _ ⟨x2,y2,LC39,⟨hg2,hx2,hy2⟩,rfl⟩
    refine cO ?_
    refine cp dC (aFS _ (aX _) (by omega)) ?_
    refine bE ?_
    refine cp dC (aFS _ (aX _) (by omega)) ?_
    refine dB ?_
    refine nD (fun(m n:Nat) L=>(((St.mk L.slot (hp [])).put (some 13) (dV m)).put (some 14) (dV n))) (fun m n=>Nat.gcd m n=Nat.gcd (val a) (val b)∧m<18446744073709551616∧n<18446744073709551616) (fun m n=>n) x2 y2 ⟨hg2,gU.1 hx2,gU.1 hy2⟩ ?_
    rintro m n L2 ⟨hg3,hm,hn⟩
    refine dL ?_
    refine aK rfl (fun h54r h54=>?_) (fun h54r h54=>?_)
    ·refine cP ?_
     refine aP 6 (by decide +kernel) ?_
     refine dU ?_
     exact lI n (m % n) ⟨by rw [Nat.gcd_comm,←Nat.gcd_rec,Nat.gcd_comm];exact hg3,hn,by have:=Nat.mod_lt m (show n > 0 by omega);omega⟩ (hm:=Nat.mod_lt _ (by omega))
    ·obtain rfl:n=0:=by omega
     refine eC ?_
     refine cp dC (aHp _ (by omega)) ?_
     refine cO ?_
     rw [←hg3,Nat.gcd_zero_right]
     exact bM rfl (by first | exact .pure rfl | exact .pure (bA _) | exact .pure (aO _) | exact .pure (aD.pure _) | exact .pure (aG cT _ _) | exact .pure (aG aD _ _))
open H0 in
theorem aJ1 :aM Tryz.prog 140 [] (bW 1):=by
 refine dI Tryz.func140 ?_
 refine cW ?_
 rw [show bW 1=.list 1 ([1].map cB) from rfl]
 exact kP [1] rfl rfl (cA cT rfl rfl rfl)
namespace Zq128
theorem dG {p q:Prop} (k:q) (e:p=q:=by simp only [e1,e2,e3,e4,p1,p2,p3,q1,q2,q3,l1,t0,t1,r1,r2,r3,r4,Nat.zero_add,Nat.reduceMul,Nat.reduceAdd,b1,b2,b3,b4,b5,b6,i1,i2,i3,i4,i5,i6,Nat.reduceBEq,aC aD,aS];exact rfl):p:=e.mpr k
end Zq128
open Zq128 in
theorem pR (q:Rat):aM Tryz.prog 138 [ratL q] (bW q.den):=by
 refine dI Tryz.func138 ?_
 refine iJ ?_
 refine aK rfl (fun h6r h6=>?_) (fun h6r h6=>?_)
 ·have hd1:=qC (show (a7 (jA q)).length=0 by omega)
  refine cY ?_
  refine cp am0 (aJ1) ?_
  refine dR ?_
  rw [hd1]
  exact bM rfl (by first | exact .pure rfl | exact .pure (bA _) | exact .pure (aO _) | exact .pure (aD.pure _) | exact .pure (aG cT _ _) | exact .pure (aG aD _ _))
 ·have hd1:=pJ (q:=q) (by omega)
  refine cN ?_
  rw [←hd1]
  exact bM rfl (by first | exact .pure rfl | exact .pure (bA _) | exact .pure (aO _) | exact .pure (aD.pure _) | exact .pure (aG cT _ _) | exact .pure (aG aD _ _))
namespace Zq103
theorem dG {p q:Prop} (k:q) (e:p=q:=by simp only [e1,e2,e3,e4,p1,p2,p3,q1,q2,q3,l1,t0,t1,r1,r2,r3,r4,Nat.zero_add,Nat.reduceMul,Nat.reduceAdd,b1,b2,b3,b4,b5,b6,i1,i2,i3,i4,i5,i6,Nat.reduceBEq,fC,ej];exact rfl):p:=e.mpr k
end Zq103
open Zq103 in
theorem aAj (a:List Nat) (h:fT a) (hl:a.length≤2):aM Tryz.prog 202 [fV a] (dV (val a)):=by
 unfold fV
 refine dI Tryz.func202 ?_
 have ej:True:=trivial
 refine mV ?_
 refine nD (fun(k n:Nat) L=>((((St.mk L.slot (hp [])).put (some 0) (.list 1 (a.map cB))).put (some 3) (dV n)).put (some 4) (iL ((k:Int)-1)))) (fun k n=>k≤a.length∧n=val (a.drop k)) (fun k n=>k) a.length 0 ⟨Nat.le_refl _,by simp [val]⟩ ?_
 rintro k n L1 ⟨hk,hn⟩
 refine dL ?_
 refine aK rfl (fun h9r h9=>?_) (fun h9r h9=>?_)
 ·obtain⟨j,rfl⟩:∃ j,k=j+1:=⟨k-1,by omega⟩
  have ej:(((j+1:Nat):Int)-1).toNat=j:=by omega
  have ek:(((j+1:Nat):Int)-1)=j:=by omega
  have hj:=cZ h j
  have hnB:=tU h (k:=j+1) (j:=1) (by omega)
  rw [←hn] at hnB
  refine aCf ?_
  exact lI j (n*4294967296+a.getD j 0) ⟨by omega,by rw [fQ (by omega),hn];omega⟩
 ·obtain rfl:k=0:=by omega
  rw [List.drop_zero] at hn
  refine cW ?_
  rw [←hn]
  exact bM rfl (by first | exact .pure rfl | exact .pure (bA _) | exact .pure (aO _) | exact .pure (aD.pure _) | exact .pure (aG cT _ _) | exact .pure (aG aD _ _))
open H0 in
theorem aEX (a b:Nat) (ha:a<18446744073709551616) (hb:b<18446744073709551616):aM Tryz.prog 203 [dV a,dV b] (dV (Nat.gcd a b)):=by
 refine dI Tryz.func203 ?_
 refine dL ?_
 refine nD (fun(m n:Nat) L=>(((St.mk L.slot (hp [])).put (some 0) (dV m)).put (some 1) (dV n))) (fun m n=>Nat.gcd m n=Nat.gcd a b∧m<18446744073709551616∧n<18446744073709551616) (fun m n=>n) a b ⟨rfl,ha,hb⟩ ?_
 rintro m n L1 ⟨hg3,hm,hn⟩
 refine dL ?_
 refine aK rfl (fun h6r h6=>?_) (fun h6r h6=>?_)
 ·refine cP ?_
  refine aP 6 (by decide +kernel) ?_
  refine dU ?_
  exact lI n (m % n) ⟨by rw [Nat.gcd_comm,←Nat.gcd_rec,Nat.gcd_comm];exact hg3,hn,by have:=Nat.mod_lt m (show n > 0 by omega);omega⟩ (hm:=Nat.mod_lt _ (by omega))
 ·obtain rfl:n=0:=by omega
  refine cW ?_
  rw [←hg3,Nat.gcd_zero_right]
  exact bM rfl (by first | exact .pure rfl | exact .pure (bA _) | exact .pure (aO _) | exact .pure (aD.pure _) | exact .pure (aG cT _ _) | exact .pure (aG aD _ _))
namespace Zq131
theorem dG {p q:Prop} (k:q) (e:p=q:=by simp only [e1,e2,e3,e4,p1,p2,p3,q1,q2,q3,l1,t0,t1,r1,r2,r3,r4,Nat.zero_add,Nat.reduceMul,Nat.reduceAdd,b1,b2,b3,b4,b5,b6,i1,i2,i3,i4,i5,i6,Nat.reduceBEq,fC,List.length_set,Nat.add_zero,eqm,eqz];exact rfl):p:=e.mpr k
end Zq131
open Zq131 in
theorem aDK (l:List Nat) (off len n:Nat) (hn:n<18446744073709551616) (h1:1≤len) (h2:4294967296≤n→2≤len) (hl:off+len≤l.length):gH Tryz.prog 204 ⟨1,l.map cB,true⟩ [.ref 0 1 off len,dV n] (aE (lS n)) ⟨1,(pM l off n).map cB,true⟩:=by
 refine fnM Tryz.func204 ?_
 have eqm:True:=trivial
 have eqz:True:=trivial
 refine aCu ?_
 refine aK rfl (fun h11r h11=>?_) (fun h11r h11=>?_)
 ·have hn1:n<4294967296:=by omega
  have eqz:n % 4294967296=n:=Nat.mod_eq_of_lt hn1
  refine dL ?_
  simp only [pM,lS,if_pos hn1,eqz]
  exact oM rfl (.imm (.pure rfl)) rfl rfl (aH cT _)
 ·have hn1:¬ n<4294967296:=by omega
  have eqm:n/4294967296 % 4294967296=n/4294967296:=Nat.mod_eq_of_lt (by omega)
  refine pP ?_
  simp only [pM,lS,if_neg hn1]
  exact oM rfl (.imm (.pure rfl)) rfl rfl (aH cT _)
theorem aIW:val []=0:=rfl
theorem aHT (n:Nat):decide (((eG n:Nat):Int)=0)=decide (n=0):=by
 rw [decide_eq_decide,←iH];omega
theorem lR {n:Nat} (h:(a7 n).length=1):(a7 n).getD 0 0=n∧0<n:=by
 have h0:0<n:=Nat.pos_of_ne_zero (fun e=>by rw [e,i9] at h;cases h)
 rw [kA h0 (eT.1 (by omega))];exact⟨rfl,h0⟩
namespace Zq134
theorem dG {p q:Prop} (k:q) (e:p=q:=by simp only [e1,e2,e3,e4,p1,p2,p3,q1,q2,q3,l1,t0,t1,r1,r2,r3,r4,Nat.zero_add,Nat.reduceMul,Nat.reduceAdd,b1,b2,b3,b4,b5,b6,i1,i2,i3,i4,i5,i6,Nat.reduceBEq,aC aD,aS,fC,aV];exact rfl):p:=e.mpr k
end Zq134
open Zq134 in
theorem mO (q:Rat):aM Tryz.prog 134 [ratL q] (.tup [dV (pN q),dV (pD q),bL (smB q)]):=by
 have hdp:=q.den_pos
 have hden:=jP q
 refine dI Tryz.func134 ?_
 refine mY ?_
 refine dJ 9 rfl (fun h9r h9=>?_) (fun h9r h9=>?_)
 ·have hs:smB q=false:=decide_eq_false (fun h=>by have:=eT.2 h.1;omega)
  have h14:True:=trivial
  refine nY ?_
  simp only [pN,pD,hs,Bool.false_eq_true,if_false]
  exact qR [] rfl rfl (.pure rfl) rfl (.pure rfl) rfl (.pure rfl)
 ·have hn1:=eT.1 (show (a7 q.num.natAbs).length≤1 by omega)
  refine dL ?_
  refine aK rfl (fun h14r h14=>?_) (fun h14r h14=>?_)
  ·have hs:smB q=false:=by first | exact hs | exact decide_eq_false (fun h=>by have:=aLu h.2;omega)
   refine dU ?_
   simp only [pN,pD,hs,Bool.false_eq_true,if_false]
   exact qR [] rfl rfl (.pure rfl) rfl (.pure rfl) rfl (.pure rfl)
  ·have hd1:q.den<4294967296:=by
    have:=eT.1 (show (a7 (jA q)).length≤1 by omega)
    rw [hden] at this;split at this<;>omega
   have hs:smB q=true:=decide_eq_true ⟨hn1,hd1⟩
   refine mY ?_
   refine eB (fun L=>∃ (d:Nat) (L1:St),(d=q.den)∧L=(((St.mk L1.slot (hp [(1,⟨3,[ratL q],true⟩)])).put (some 1) (.eptr 1 3 0 0)).put (some 3) (dV d))) ?_ ?_
   ·refine aK rfl (fun h18r h18=>?_) (fun h18r h18=>?_)
    ·have hdn:=pJ (q:=q) (by omega)
     have hg0:(a7 (jA q)).getD 0 0=q.den:=by rw [hdn,kA hdp hd1];rfl
     refine dU ?_
     exact⟨(a7 (jA q)).getD 0 0,_,hg0,((aA (aA (bC cl) cl) cl)).symm⟩
    ·have hdn:=qC (q:=q) (by omega)
     refine cY ?_
     exact⟨1,_,hdn.symm,((aA (aA (bC cl) cl) cl)).symm⟩
   ·rintro _ ⟨d,LC18,rfl,rfl⟩
    refine dR ?_
    refine cp dC (aAj _ (aX _) (by omega)) ?_
    refine dU ?_
    simp only [pN,pD,hs,if_true]
    have hb0:((q.den:Int) != 0)=true:=by simp;omega
    refine qR [] rfl rfl (.pure rfl) rfl (.pure rfl) (x'':=.v (.bool ((q.den:Int) != 0))) rfl ?_
    rw [hb0]
    exact .pure rfl
namespace Zq142
theorem dG {p q:Prop} (k:q) (e:p=q:=by simp only [e1,e2,e3,e4,p1,p2,p3,q1,q2,q3,l1,t0,t1,r1,r2,r3,r4,Nat.zero_add,Nat.reduceMul,Nat.reduceAdd,b1,b2,b3,b4,b5,b6,i1,i2,i3,i4,i5,i6,Nat.reduceBEq,fC,Nat.sub_zero,Nat.zero_add,Nat.add_sub_cancel_left,Nat.add_zero];exact rfl):p:=e.mpr k
theorem rG {p q:Prop} (k:q) (e:p=q:=by simp only [e1,e2,e3,e4,p1,p2,p3,q1,q2,q3,l1,t0,t1,r1,r2,r3,r4,Nat.zero_add,Nat.reduceMul,Nat.reduceAdd,b1,b2,b3,b4,b5,b6,i1,i2,i3,i4,i5,i6,Nat.reduceBEq,fC,Nat.sub_zero,Nat.zero_add,Nat.add_sub_cancel_left,Nat.add_zero,←hN,←hD];exact rfl):p:=e.mpr k
theorem nf1 {p:Prop} (h:p:=by first | (refine rG ?_;exact rfl) | exact rfl):p:=h
end Zq142
open Zq142 in
theorem p5 (s:Bool) (n d:Nat) (hn:n<18446744073709551616) (hd0:0<d) (hd:d<18446744073709551616):aM Tryz.prog 135 [bL s,dV n,dV d] (ratL (qv s n d)):=by
 refine dI Tryz.func135 ?_
 refine cW ?_
 refine aK rfl (fun h13r h13=>?_) (fun h13r h13=>?_)
 ·refine eC ?_
  obtain rfl:n=0:=by omega
  rw [sQ,eW]
  exact dQ [] rfl rfl rfl rfl rfl cX (.pure rfl)
 ·have hn0:0<n:=by omega
  have hg:0<Nat.gcd n d:=Nat.gcd_pos_of_pos_left _ hn0
  have hn2:0<n/Nat.gcd n d:=Nat.div_pos (Nat.le_of_dvd hn0 (Nat.gcd_dvd_left n d)) hg
  have hd2:0<d/Nat.gcd n d:=Nat.div_pos (Nat.le_of_dvd hd0 (Nat.gcd_dvd_right n d)) hg
  have hn3:n/Nat.gcd n d<18446744073709551616:=Nat.lt_of_le_of_lt (Nat.div_le_self _ _) hn
  have hd3:d/Nat.gcd n d<18446744073709551616:=Nat.lt_of_le_of_lt (Nat.div_le_self _ _) hd
  have hE:=uQ s hn0 hd0
  obtain⟨g,hgg⟩:∃ g,g=Nat.gcd n d:=⟨_,rfl⟩
  obtain⟨N,hN⟩:∃ N,N=n/Nat.gcd n d:=⟨_,rfl⟩
  obtain⟨D,hD⟩:∃ D,D=d/Nat.gcd n d:=⟨_,rfl⟩
  rw [←hN,←hD] at hE
  rw [←hN] at hn2 hn3
  rw [←hD] at hd2 hd3
  have hk1:=pA hn2 hn3
  have hk2:=pA hd2 hd3
  obtain⟨hs1,hs2⟩:=aE1 hn2 hn3 hd2 hd3
  have hs0:=aEN hn2 hn3
  have hl1:(pM [0,0,0,0] 0 N).length=4:=wH _ _ _
  have hl2:(pM (pM [0,0,0,0] 0 N) (lS N) D).length=4:=by rw [wH,wH];rfl
  refine dB ?_
  refine cp b9 (aEX _ _ (by omega) (by omega)) ?_
  refine cO ?_
  refine aP 8 (by decide +kernel) ?_
  refine cY ?_
  refine aB rfl (.bin rfl rfl (aBp (by omega) (by omega))) ?_
  refine cY ?_
  refine aB rfl (.bin rfl rfl (aBp (by omega) (by omega))) ?_
  refine cY ?_
  refine jU nf1 ?_
  refine cP ?_
  refine dD rfl rfl (.mkE (n:=4) (m:=4) ml ml om om om) ?_
  refine dL ?_
  refine lF 24 rfl rfl rfl (aH cT _) (.cons .ref (.cons (.imm (.pure rfl)) .nil)) (.ref (by decide)) (aDK [0,0,0,0] 0 4 N hn3 (by omega) (by omega) (by simp)) rfl (aH cT _) ?_
  refine dU ?_
  refine aB rfl (.sliceR3 (a:=0) (h:=lS N) (mx:=lS N) rfl Tryz.underlying27 lD (fun y hy=>by cases hy) (fun _=>rfl) rfl rfl (by omega) (by omega) (by omega) (by omega)) ?_
  refine cW ?_
  refine aK rfl (fun h35r h35=>?_) (fun h35r h35=>?_)
  ·refine dR ?_
   refine aB rfl (.sliceR (a:=lS N) (h:=4) rfl Tryz.underlying27 lD (fun y hy=>by cases hy;exact⟨_,rfl⟩) (fun h=>by cases h) (fun y hy=>by cases hy) (fun _=>rfl) (by omega) (by omega) (by omega)) ?_
   refine bE ?_
   refine lF 24 rfl rfl rfl (aH cT _) (.cons .ref (.cons (.imm (.pure rfl)) .nil)) (.ref (by omega)) (aDK (pM [0,0,0,0] 0 N) (0+lS N) (4-lS N) D hd3 (by omega) (by omega) (by omega)) rfl (aH cT _) ?_
   refine dU ?_
   refine aB rfl (.sliceR3 (a:=lS N) (h:=lS N+lS D) (mx:=lS N+lS D) rfl Tryz.underlying27 lD (fun y hy=>by cases hy;exact⟨_,rfl⟩) (fun h=>by cases h) rfl rfl (by omega) (by omega) (by omega) (by omega)) ?_
   refine cV ?_
   rw [hE,if_neg (by omega)]
   exact dQ [24] rfl rfl rfl rfl rfl cX (.agg (.cons (.pure rfl) (.cons (vM cT rfl rfl (by omega) hs1) (.cons (vM cT rfl rfl (by omega) hs2) .nil))))
  ·refine dU ?_
   rw [hE,if_pos (by omega)]
   exact dQ [24] rfl rfl rfl rfl rfl cX (.agg (.cons (.pure rfl) (.cons (vM cT rfl rfl (by omega) hs0) (.cons (.pure rfl) .nil))))
namespace Zq139
theorem dG {p q:Prop} (k:q) (e:p=q:=by simp only [e1,e2,e3,e4,p1,p2,p3,q1,q2,q3,l1,t0,t1,r1,r2,r3,r4,Nat.zero_add,Nat.reduceMul,Nat.reduceAdd,b1,b2,b3,b4,b5,b6,i1,i2,i3,i4,i5,i6,Nat.reduceBEq,fC,aV,aIW,Nat.add_zero];exact rfl):p:=e.mpr k
end Zq139
open Zq139 in
theorem l9 (s:Bool) (a b:List Nat) (ha:fT a) (hb:fT b) (hla:a.length≤1099511627776) (hlb:b.length≤1099511627776):aM Tryz.prog 136 [bL s,fV a,fV b] (ratL (qv s (val a) (val b))):=by
 have hla2:=oD a ha hla
 have hlb2:=oD b hb hlb
 refine dI Tryz.func136 ?_
 refine dL ?_
 refine eB (fun L=>∃ (t:Bool) (L1:St),(t=decide (val a=0∨val b=0))∧L=((((((St.mk L1.slot (hp [(6,⟨3,[.agg [.v (.bool false),.list 1 [],.list 1 []]],true⟩)])).put (some 0) (bL s)).put (some 1) (fV a)).put (some 2) (fV b)).put (some 6) (.eptr 6 3 0 0)).put (some 15) (bL t))) ?_ ?_
 ·refine cY ?_
  refine cp dC (mH _ (by first | assumption | exact aX _) (by omega)) ?_
  refine cY ?_
  refine dJ 11 rfl (fun h11r h11=>?_) (fun h11r h11=>?_)
  ·have hz:val a=0:=iH.1 (by omega)
   refine dB ?_
   exact⟨true,_,(decide_eq_true (.inl hz)).symm,((aA (aA (aA (aA (aA (bC cl) cl) cl) cl) cl) cl)).symm⟩
  ·have hza:val a≠0:=fun h=>by rw [iH.2 h] at h11;exact h11 rfl
   refine bE ?_
   refine cp dC (mH _ (by first | assumption | exact aX _) (by omega)) ?_
   refine cO ?_
   exact⟨decide (((eG (val b):Nat):Int)=0),_,by show decide _=_;rw [aHT];simp [hza],((aA (aA (aA (aA (aA (bC cl) cl) cl) cl) cl) cl)).symm⟩
 ·rintro _ ⟨t,LR1,ht,rfl⟩
  refine bE ?_
  refine aK rfl (fun h15r h15=>?_) (fun h15r h15=>?_)
  ·have hq:qv s (val a) (val b)=0:=by
    rw [ht,decide_eq_true_eq] at h15r
    rcases h15r with h | h
    ·rw [h];exact sQ _ _
    ·rw [h];exact zE _ _
   refine eC ?_
   rw [hq,eW]
   exact dQ [] rfl rfl rfl rfl rfl cX (.pure rfl)
  ·rw [ht,decide_eq_false_iff_not,not_or] at h15r
   have ha0:0<val a:=Nat.pos_of_ne_zero h15r.1
   have hb0:0<val b:=Nat.pos_of_ne_zero h15r.2
   have hg:0<Nat.gcd (val a) (val b):=Nat.gcd_pos_of_pos_left _ ha0
   have hE:=uQ s ha0 hb0
   have hgl:(a7 (Nat.gcd (val a) (val b))).length≤1099511627776:=Nat.le_trans (dE (Nat.le_of_dvd ha0 (Nat.gcd_dvd_left _ _))) hla2
   have hqa:(a7 (val a/Nat.gcd (val a) (val b))).length≤1099511627776:=Nat.le_trans (dE (Nat.div_le_self _ _)) hla2
   have hqb:(a7 (val b/Nat.gcd (val a) (val b))).length≤1099511627776:=Nat.le_trans (dE (Nat.div_le_self _ _)) hlb2
   refine cO ?_
   refine eB (fun L=>∃ (t:Bool) (L1:St),(t=decide (a.length≤2∧b.length≤2))∧L=((((((St.mk L1.slot (hp [(6,⟨3,[.agg [.v (.bool false),.list 1 [],.list 1 []]],true⟩)])).put (some 0) (bL s)).put (some 1) (fV a)).put (some 2) (fV b)).put (some 6) (.eptr 6 3 0 0)).put (some 24) (bL t))) ?_ ?_
   ·refine dR ?_
    refine dJ 20 rfl (fun h20r h20=>?_) (fun h20r h20=>?_)
    ·refine dB ?_
     exact⟨decide (((b.length:Nat):Int)≤2),_,by rw [decide_eq_decide];omega,((aA (aA (aA (aA (aA (bC cl) cl) cl) cl) cl) cl)).symm⟩
    ·refine dB ?_
     exact⟨false,_,by symm;rw [decide_eq_false_iff_not];omega,((aA (aA (aA (aA (aA (bC cl) cl) cl) cl) cl) cl)).symm⟩
   ·rintro _ ⟨t,LR3,ht2,rfl⟩
    refine bE ?_
    refine aK rfl (fun h24r h24=>?_) (fun h24r h24=>?_)
    ·rw [ht2,decide_eq_true_eq] at h24r
     have hla24:=h24r.1
     have hlb24:=h24r.2
     refine cO ?_
     have hva:=fR ha (k:=2) (by omega)
     have hvb:=fR hb (k:=2) (by omega)
     refine cp dC (aAj a ha (by omega)) ?_
     refine bE ?_
     refine cp dC (aAj b hb (by omega)) ?_
     refine cp pS (p5 _ _ _ hva hb0 hvb) ?_
     refine dR ?_
     exact dQ [] rfl rfl rfl (aD.csize _) (aJ _) cX (.pure (aD.pure _))
    ·refine dL ?_
     refine cp b9 (aDj _ _ (by first | assumption | exact aX _) (by first | assumption | exact aX _) (by omega) (by omega)) ?_
     refine dB ?_
     refine cp dC (mH _ (by first | assumption | exact aX _) (by omega)) ?_
     refine cP ?_
     refine eB (fun L=>∃ (x:List Nat) (y:List Nat) (L1:St),(fT x∧fT y∧x.length≤1099511627776∧y.length≤1099511627776∧val x=val a/Nat.gcd (val a) (val b)∧val y=val b/Nat.gcd (val a) (val b))∧L=(((((St.mk L1.slot (hp [(6,⟨3,[.agg [.v (.bool false),.list 1 [],.list 1 []]],true⟩)])).put (some 0) (bL s)).put (some 1) (fV x)).put (some 2) (fV y)).put (some 6) (.eptr 6 3 0 0))) ?_ ?_
     ·refine aK rfl (fun h36r h36=>?_) (fun h36r h36=>?_)
      ·refine cO ?_
       refine cp b9 (aAB _ _ (by first | assumption | exact aX _) (by first | assumption | exact aX _) (by omega) (by omega) (by rw [aV];exact hg)) ?_
       refine cN ?_
       refine cp b9 (aAB _ _ (by first | assumption | exact aX _) (by first | assumption | exact aX _) (by omega) (by omega) (by rw [aV];exact hg)) ?_
       refine dL ?_
       exact⟨a7 (val a/Nat.gcd (val a) (val b)),a7 (val b/Nat.gcd (val a) (val b)),_,⟨aX _,aX _,hqa,hqb,aV _,aV _⟩,((aA (aA (aA (aA (bC cl) cl) cl) cl) cl)).symm⟩
      ·have hg1:Nat.gcd (val a) (val b)=1:=aF5.1 (by have:=iH (n:=Nat.gcd (val a) (val b));omega)
       refine cY ?_
       exact⟨a,b,_,⟨ha,hb,hla,hlb,by rw [hg1,Nat.div_one],by rw [hg1,Nat.div_one]⟩,((aA (aA (aA (aA (bC cl) cl) cl) cl) cl)).symm⟩
     ·rintro _ ⟨x,y,LC36,⟨hx,hy,hlx,hly,hvx,hvy⟩,rfl⟩
      rw [←hvx,←hvy] at hE
      have hy0:0<val y:=by rw [hvy];exact Nat.div_pos (Nat.le_of_dvd hb0 (Nat.gcd_dvd_right _ _)) hg
      refine cO ?_
      refine cp b9 (aFO x [] hx (by intro y hy;cases hy) hlx (by simp)) ?_
      refine bE ?_
      refine cp b9 (aFO y [] hy (by intro y hy;cases hy) hly (by simp)) ?_
      refine cV ?_
      refine dJ 58 rfl (fun h58r h58=>?_) (fun h58r h58=>?_)
      ·refine dL ?_
       refine aK rfl (fun h63r h63=>?_) (fun h63r h63=>?_)
       ·have hy1:val y=1:=by have:=(lR (n:=val y) (by omega)).1;omega
        refine gC ?_
        rw [hE,if_pos hy1]
        exact dQ [] rfl rfl rfl rfl rfl cX (.agg (.cons (.pure rfl) (.cons (.pure (aO _)) (.cons (.nil 1) .nil))))
       ·have hy1:val y≠1:=by have:=(lR (n:=val y) (by omega)).1;omega
        refine cW ?_
        rw [hE,if_neg hy1]
        exact dQ [] rfl rfl rfl rfl rfl cX (.agg (.cons (.pure rfl) (.cons (.pure (aO _)) (.cons (.pure (aO _)) .nil))))
      ·have hy1:val y≠1:=fun e=>by rw [e,uZ] at h58;exact h58 rfl
       refine mV ?_
       rw [hE,if_neg hy1]
       exact dQ [] rfl rfl rfl rfl rfl cX (.agg (.cons (.pure rfl) (.cons (.pure (aO _)) (.cons (.pure (aO _)) .nil))))
open H0 in
theorem aCU (n:Int) (h1:-9223372036854775808≤n) (h2:n≤9223372036854775807):aM Tryz.prog 139 [iL n] (bW n.natAbs):=by
 refine dI Tryz.func139 ?_
 refine cW ?_
 refine aK rfl (fun h4r h4=>?_) (fun h4r h4=>?_)
 ·refine cY ?_
  refine cp dC (aHp 9223372036854775808 (by omega)) ?_
  refine dR ?_
  rw [show n.natAbs=9223372036854775808 by omega]
  exact bM rfl (by first | exact .pure rfl | exact .pure (bA _) | exact .pure (aO _) | exact .pure (aD.pure _) | exact .pure (aG cT _ _) | exact .pure (aG aD _ _))
 ·refine dB ?_
  refine aB rfl (.neg rfl) ?_
  refine bE ?_
  refine aB rfl (.cv64 (n:=n.natAbs) Tryz.underlying2 Tryz.underlying161 (by simp only [e1,p1,p2,Nat.reduceBEq];rw [aJy (by omega) (by omega)]) (by omega)) ?_
  refine cp dC (aHp n.natAbs (by omega)) ?_
  refine cO ?_
  exact bM rfl (by first | exact .pure rfl | exact .pure (bA _) | exact .pure (aO _) | exact .pure (aD.pure _) | exact .pure (aG cT _ _) | exact .pure (aG aD _ _))
theorem kG {P:Program} {L:St} {a u:Nat} {T:TypeId} {b sz:Nat} {x y x' y':LV} {m:Bool} {n:Nat} {ag:Bool} (bs:List Nat) (h0:bs.contains 0=false) (h:L.slot a=.eptr b sz 0 0) (hb:L.heap b=some ⟨sz,[x],m⟩)
  (hx:x.csize=sz) (hat:x.at 0 n ag=some x) (hT:cF P T n ag) (hi:Imm (L.frz bs).heap x y) (h':L.slot u=x') (hi':Imm (L.frz bs).heap x' y'):oX P [.cell a T,.tmp u] L (.tup [y,y']) [] :=
 ⟨[x,x'],[y,y'],(L.frz bs).heap,[],.cons ⟨b,sz,0,0,_,x,n,ag,h,hb,rfl,rfl,hx,hat,hT⟩ (.cons h' .nil),kM bs h0,.cons (.imm hi) (.cons (.imm hi') .nil),List.nodup_nil,rfl,fun k b h=>by simp at h,rfl⟩
namespace Zq97
theorem dG {p q:Prop} (k:q) (e:p=q:=by simp only [e1,e2,e3,e4,p1,p2,p3,q1,q2,q3,l1,t0,t1,r1,r2,r3,r4,Nat.zero_add,Nat.reduceMul,Nat.reduceAdd,b1,b2,b3,b4,b5,b6,i1,i2,i3,i4,i5,i6,Nat.reduceBEq,aV];exact rfl):p:=e.mpr k
end Zq97
open Zq97 in
theorem rH (n:Int) (h1:-9223372036854775808≤n) (h2:n≤9223372036854775807):aM Tryz.prog 69 [iL n] (ratL (n:Rat)):=by
 refine dI Tryz.func69 ?_
 refine cN ?_
 refine cp dC (aCU _ (by omega) (by omega)) ?_
 refine cp am0 (aJ1) ?_
 refine cp pS (l9 (decide (n<0)) (a7 n.natAbs) (a7 1) (aX _) (aX _) (Nat.le_trans (gU.2 (by omega)) (by omega)) (by rw [uZ];decide)) ?_
 refine cO ?_
 rw [←wG n]
 exact dQ [] rfl rfl rfl (aD.csize _) (aJ _) cX (.pure (aD.pure _))
namespace Zq98
theorem dG {p q:Prop} (k:q) (e:p=q:=by simp only [e1,e2,e3,e4,p1,p2,p3,q1,q2,q3,l1,t0,t1,r1,r2,r3,r4,Nat.zero_add,Nat.reduceMul,Nat.reduceAdd,b1,b2,b3,b4,b5,b6,i1,i2,i3,i4,i5,i6,Nat.reduceBEq,aV];exact rfl):p:=e.mpr k
end Zq98
open Zq98 in
theorem z6 (n d:Int) (h1:-9223372036854775808≤n) (h2:n≤9223372036854775807) (h3:-9223372036854775808≤d) (h4:d≤9223372036854775807) (hd:d≠0):aM Tryz.prog 282 [iL n,iL d] (.tup [ratL ((n:Rat)/(d:Rat)),iL 0]):=by
 refine dI Tryz.func282 ?_
 refine eA ?_
 refine aK rfl (fun h7r h7=>?_) (fun h7r h7=>?_)
 ·exact absurd h7 hd
 ·refine cN ?_
  refine cp dC (aCU _ (by omega) (by omega)) ?_
  refine bE ?_
  refine cp dC (aCU _ (by omega) (by omega)) ?_
  refine cp pS (l9 (decide (n<0) != decide (d<0)) (a7 n.natAbs) (a7 d.natAbs) (aX _) (aX _) (Nat.le_trans (gU.2 (by omega)) (by omega)) (Nat.le_trans (gU.2 (by omega)) (by omega))) ?_
  refine dR ?_
  rw [←zS]
  exact kG [] rfl rfl rfl (aD.csize _) (aJ _) cX (.pure (aD.pure _)) rfl (.pure rfl)
theorem tW {q:Rat} (h:smB q=true):pN q=q.num.natAbs∧pD q=q.den∧q.num.natAbs<4294967296∧q.den<4294967296:=by
 have h2:=of_decide_eq_true h
 exact⟨by simp [pN,h],by simp [pD,h],h2.1,h2.2⟩
theorem cE {x y k l:Nat} (hx:(a7 x).length≤k) (hy:(a7 y).length≤l):(a7 (x*y)).length≤k+l :=
 fD (jD (dP hx) (dP hy))
theorem aAg {x y k:Nat} (hx:(a7 x).length≤k) (hy:(a7 y).length≤k):(a7 (x+y)).length≤k+1 :=
 fD (wT (dP hx) (dP hy))
def aEA (x y:Nat):List Nat:=if x<y then [] else a7 (x-y)
def aCL (x y:Nat):Int:=if x<y then 7 else 0
theorem y6 (x y:Nat) (hx:(a7 x).length≤1099511627776) (hy:(a7 y).length≤1099511627776):aM Tryz.prog 218 [bW x,bW y] (.tup [fV (aEA x y),iL (aCL x y)]):=by
 unfold aEA aCL
 by_cases h:x<y
 ·rw [if_pos h,if_pos h]
  exact aG9 _ _ (aX _) (aX _) hx hy (by rw [aV,aV];exact h)
 ·rw [if_neg h,if_neg h]
  have:=aLV _ _ (aX x) (aX y) hx hy (by rw [aV,aV];omega)
  rw [aV,aV] at this
  exact this
theorem aCd {x y:Nat}:aCL x y=0↔y≤x:=by unfold aCL;split<;>omega
theorem rY {x y:Nat} (h:y≤x):aEA x y=a7 (x-y):=by unfold aEA;rw [if_neg (by omega)]
section
variable {a b:Rat} {s:Bool} {x y d k:Nat}
theorem w5 (hk:0<k) (hx:x*k=a.num.natAbs*b.den) (hy:y*k=b.num.natAbs*a.den) (hd:d*k=a.den*b.den) (h:decide (a<0)=s):a+sgR s b=qv s (x+y) d:=by
 have:=tP s (n:=a.num.natAbs) (m:=b.num.natAbs) a.den_pos b.den_pos
 rw [←hx,←hy,←hd,←Nat.add_mul,xK s hk] at this
 rw [←this,sgR]
 subst h
 rw [eY]
theorem aCq (hk:0<k) (hx:x*k=a.num.natAbs*b.den) (hy:y*k=b.num.natAbs*a.den) (hd:d*k=a.den*b.den) (h:decide (a<0)≠s) (hle:y≤x):a+sgR s b=qv (decide (a<0)) (x-y) d:=by
 have:=yN (decide (a<0)) s (n:=a.num.natAbs) (m:=b.num.natAbs) a.den_pos b.den_pos h (by rw [←hx,←hy];exact Nat.mul_le_mul_right _ hle)
 rw [←hx,←hy,←hd,←Nat.sub_mul,xK _ hk] at this
 rw [←this,sgR,eY]
theorem aCk (hk:0<k) (hx:x*k=a.num.natAbs*b.den) (hy:y*k=b.num.natAbs*a.den) (hd:d*k=a.den*b.den) (h:decide (a<0)≠s) (hle:x≤y):a+sgR s b=qv s (y-x) d:=by
 have:=xF (decide (a<0)) s (n:=a.num.natAbs) (m:=b.num.natAbs) a.den_pos b.den_pos h (by rw [←hx,←hy];exact Nat.mul_le_mul_right _ hle)
 rw [←hx,←hy,←hd,←Nat.sub_mul,xK _ hk] at this
 rw [←this,sgR,eY]
end
theorem vI {a b:Rat} (h:a7 (jA a)=a7 (jA b)):a.den=b.den:=by
 have h2:jA a=jA b:=by rw [←aV (jA a),h,aV]
 rw [jP,jP] at h2
 have:=a.den_pos
 have:=b.den_pos
 split at h2<;>split at h2<;>omega
theorem aFV {x y k:Nat} (hk:0<k):kD (x*k) (y*k)=kD x y:=by
 simp only [kD,Nat.mul_lt_mul_right hk]
theorem aCc {a b:Rat} (ha:¬ a<0) (hb:¬ b<0):a<b↔a.num.natAbs*b.den<b.num.natAbs*a.den:=by
 rw [uG] at ha hb
 rw [Rat.lt_iff]
 have h1:a.num=(a.num.natAbs:Int):=by omega
 have h2:b.num=(b.num.natAbs:Int):=by omega
 rw [h1,h2]
 simp only [Int.natAbs_natCast]
 exact_mod_cast Iff.rfl
theorem aG7 {a b:Rat} (ha:a<0) (hb:b<0):a<b↔b.num.natAbs*a.den<a.num.natAbs*b.den:=by
 have:=aCc (a:=-b) (b:=-a) (by grind) (by grind)
 rw [Rat.neg_num,Rat.neg_num,Int.natAbs_neg,Int.natAbs_neg,Rat.neg_den,Rat.neg_den] at this
 rw [←this]
 grind
theorem sJ {a b:Rat} (h:mE a=mE b):mD a b=if a<0 then-kD (a.num.natAbs*b.den) (b.num.natAbs*a.den) else kD (a.num.natAbs*b.den) (b.num.natAbs*a.den):=by
 have hs:(a<0)↔(b<0):=by
  unfold mE at h
  split at h<;>split at h<;>(try split at h)<;>(try split at h)<;>grind
 by_cases ha:a<0
 ·have hb:=hs.1 ha
  rw [if_pos ha]
  simp only [mD,kD,aG7 ha hb,aG7 hb ha]
  split<;>split<;>omega
 ·have hb:=fun h=>ha (hs.2 h)
  rw [if_neg ha]
  simp only [mD,kD,aCc ha hb,aCc hb ha]
theorem aD4 {a b:Rat} (h:mE a<mE b):mD a b=-1:=by
 have:a<b:=by unfold mE at h;split at h<;>split at h<;>(try split at h)<;>(try split at h)<;>grind
 simp [mD,this]
theorem aDF {a b:Rat} (h:mE b<mE a):mD a b=1:=by
 have h1:b<a:=by unfold mE at h;split at h<;>split at h<;>(try split at h)<;>(try split at h)<;>grind
 have h2:¬ a<b:=by grind
 simp [mD,h1,h2]
theorem xY {q:Rat} (h:(a7 q.num.natAbs).length=0):q=0:=by
 have:=eR.1 (List.eq_nil_of_length_eq_zero h)
 exact Rat.num_eq_zero.1 (by omega)
theorem yU {c:Int} {x y:Nat} (h:c=kD x y):IntKind.i64.wrap (0-c)=-c:=by
 have:c=-1∨c=0∨c=1:=by rw [h];unfold kD;split<;>(try split)<;>simp
 rw [IntWalk.i64_in _ (by omega)];omega
end Go.Proofs.YtfpdccbgngdhkaaGreat
namespace Go.Lg
open Go.Proofs.YtfpdccbgngdhkaaGreat in
theorem OpT.stR1 {P:Program} {L:St} {dst:Option Nat} {T:TypeId} {p x:Operand} {b:Nat} {q q0:Rat} (hp:L.ev p=.eptr b 3 0 0) (hb:L.heap b=some ⟨3,[ratL q0],true⟩) (hx:L.ev x=ratL q) (hT:cF P T 3 true) :
  OpT P L dst (.store T p x) ((L.setB b (some ⟨3,[ratL q],true⟩)).put dst .any):=by
 have h0:LV.put (ratL q0) 0 (L.ev x)=some (ratL q):=by
  rw [hx,jQ q0]
  have e1:∀ n,(bW n).csize=1:=fun _=>rfl
  simp [LV.put,aD.csize,aD.isAgg,aT,LV.csize,e1]
 have h:=OpT.store (P:=P) (dst:=dst) (T:=T) (p:=p) (x:=x) (y:=ratL q0) (y':=ratL q) hp hb rfl rfl rfl (aD.csize _) h0 (by rw [hx,aD.csize,aD.isAgg];exact hT)
  (by rw [hx];exact⟨LV.pure_ne_any (aD.pure q),LV.pure_ne_tup (aD.pure q)⟩)
 exact h
end Go.Lg
namespace Go.Proofs.YtfpdccbgngdhkaaGreat
open Go.Lg
namespace Zq101
theorem dG {p q:Prop} (k:q) (e:p=q:=by simp only [e1,e2,e3,e4,p1,p2,p3,q1,q2,q3,l1,t0,t1,r1,r2,r3,r4,Nat.zero_add,Nat.reduceMul,Nat.reduceAdd,b1,b2,b3,b4,b5,b6,i1,i2,i3,i4,i5,i6,Nat.reduceBEq,aV];exact rfl):p:=e.mpr k
end Zq101
open Zq101 in
theorem vC (q:Rat) (h:rl q≤1099511627776):aM Tryz.prog 133 [ratL q] (iL (mE q)):=by
 have h1:=fO q
 have hq:=aEo q
 refine dI Tryz.func133 ?_
 refine cW ?_
 refine cp dC (mH _ (by first | assumption | exact aX _) (by omega)) ?_
 refine cO ?_
 refine aK rfl (fun h3r h3=>?_) (fun h3r h3=>?_)
 ·have hz:q.num.natAbs=0:=iH.1 (by omega)
  refine eC ?_
  rw [hq,if_pos hz]
  exact bM rfl (by first | exact .pure rfl | exact .pure (bA _) | exact .pure (aO _) | exact .pure (aD.pure _) | exact .pure (aG cT _ _) | exact .pure (aG aD _ _))
 ·have hz:q.num.natAbs≠0:=fun e=>by rw [iH.2 e] at h3;exact h3 rfl
  refine dL ?_
  refine aK rfl (fun h8r h8=>?_) (fun h8r h8=>?_)
  ·refine eC ?_
   rw [hq,if_neg hz,if_pos h8]
   exact bM rfl (by first | exact .pure rfl | exact .pure (bA _) | exact .pure (aO _) | exact .pure (aD.pure _) | exact .pure (aG cT _ _) | exact .pure (aG aD _ _))
  ·refine dU ?_
   rw [hq,if_neg hz,if_neg h8]
   exact bM rfl (by first | exact .pure rfl | exact .pure (bA _) | exact .pure (aO _) | exact .pure (aD.pure _) | exact .pure (aG cT _ _) | exact .pure (aG aD _ _))
open H0 in
theorem aB1 (q:Rat) (h:rl q≤1099511627776):aM Tryz.prog 153 [ratL q] (ratL q):=by
 have h1:=fO q
 have h2:=eO q
 refine dI Tryz.func153 ?_
 refine dL ?_
 refine aP 9 (by decide +kernel) ?_
 refine cO ?_
 refine cp dC (sK _ (by omega)) ?_
 refine cY ?_
 refine cp dC (sK _ (by omega)) ?_
 refine dR ?_
 rw [jQ]
 exact dQ [] rfl rfl rfl rfl rfl cX (.agg (.cons (.pure rfl) (.cons (.pure (aO _)) (.cons (.pure (aO _)) .nil))))
namespace Zq96
theorem dG {p q:Prop} (k:q) (e:p=q:=by simp only [e1,e2,e3,e4,p1,p2,p3,q1,q2,q3,l1,t0,t1,r1,r2,r3,r4,Nat.zero_add,Nat.reduceMul,Nat.reduceAdd,b1,b2,b3,b4,b5,b6,i1,i2,i3,i4,i5,i6,Nat.reduceBEq,aV];exact rfl):p:=e.mpr k
theorem rG {p q:Prop} (k:q) (e:p=q:=by simp only [e1,e2,e3,e4,p1,p2,p3,q1,q2,q3,l1,t0,t1,r1,r2,r3,r4,Nat.zero_add,Nat.reduceMul,Nat.reduceAdd,b1,b2,b3,b4,b5,b6,i1,i2,i3,i4,i5,i6,Nat.reduceBEq,aV,ekA,ekB,ekC,ekD];exact rfl):p:=e.mpr k
theorem nf1 {p:Prop} (h:p:=by first | (refine rG ?_;exact rfl) | exact rfl):p:=h
end Zq96
open Zq96 in
theorem w7 (a b:Rat) (h:rl a+rl b≤1099511627776):aM Tryz.prog 152 [ratL a,ratL b] (iL (mD a b)):=by
 have a1:=fO a
 have a2:=f5 a
 have a3:=eO a
 have c1:=fO b
 have c2:=f5 b
 have c3:=eO b
 have a0:=a.den_pos
 have c0:=b.den_pos
 have m1:=cE a1 c2
 have m2:=cE c1 a2
 have m3:=cE a2 c2
 have m4:=cE a1 c1
 have m5:=cE a2 c1
 have m6:=cE c2 a2
 refine dI Tryz.func152 ?_
 refine dU ?_
 refine aP 6 (by decide +kernel) ?_
 refine bE ?_
 refine cp dC (vC _ (by omega)) ?_
 refine bE ?_
 refine cp dC (vC _ (by omega)) ?_
 refine cV ?_
 refine aK rfl (fun h20r h20=>?_) (fun h20r h20=>?_)
 ·refine eC ?_
  refine aK rfl (fun h23r h23=>?_) (fun h23r h23=>?_)
  ·refine eC ?_
   rw [aD4 h23]
   exact bM rfl (by first | exact .pure rfl | exact .pure (bA _) | exact .pure (aO _) | exact .pure (aD.pure _) | exact .pure (aG cT _ _) | exact .pure (aG aD _ _))
  ·refine dU ?_
   rw [aDF (by omega)]
   exact bM rfl (by first | exact .pure rfl | exact .pure (bA _) | exact .pure (aO _) | exact .pure (aD.pure _) | exact .pure (aG cT _ _) | exact .pure (aG aD _ _))
 ·have hss:mE a=mE b:=by omega
  refine cV ?_
  refine cp dC (mO _) ?_
  refine iJ ?_
  refine cp b9 (u5 _ _ (by omega) (by omega)) ?_
  refine cY ?_
  refine eB (fun L=>∃ (c:Int) (L1:St),(c=kD (a.num.natAbs*b.den) (b.num.natAbs*a.den))∧L=(((St.mk L1.slot (hp [(2,⟨3,[ratL a],true⟩),(3,⟨3,[ratL b],true⟩)])).put (some 2) (.eptr 2 3 0 0)).put (some 7) (iL c))) ?_ ?_
  ·refine aK rfl (fun h34r h34=>?_) (fun h34r h34=>?_)
   ·refine dR ?_
    refine cp b9 (vR _ _ (aX _) (aX _) (by first | omega | (simp only [aV];omega)) (by first | omega | (simp only [aV];omega))) ?_
    refine cP ?_
    exact⟨kD a.num.natAbs b.num.natAbs,_,by rw [vI h34];exact(aFV b.den_pos).symm,((aA (aA (bC cl) cl) cl)).symm⟩
   ·refine cP ?_
    refine cp dC (mO _) ?_
    refine cN ?_
    refine eB (fun L=>∃ (t:Bool) (L1:St),(t=(smB a && smB b))∧L=(((((((((St.mk L1.slot (hp [(2,⟨3,[ratL a],true⟩),(3,⟨3,[ratL b],true⟩)])).put (some 2) (.eptr 2 3 0 0)).put (some 3) (.eptr 3 3 0 0)).put (some 7) (iL 0)).put (some 8) (dV (pN a))).put (some 9) (dV (pD a))).put (some 11) (dV (pN b))).put (some 12) (dV (pD b))).put (some 49) (bL t))) ?_ ?_
    ·refine cP ?_
     refine dJ 47 rfl (fun h47r h47=>?_) (fun h47r h47=>?_)
     ·refine cO ?_
      exact⟨smB b,_,by rw [h47r];rfl,((aA (aA (aA (aA (aA (aA (aA (aA (bC cl) cl) cl) cl) cl) cl) cl) cl) cl)).symm⟩
     ·refine cO ?_
      exact⟨false,_,by rw [h47r];rfl,((aA (aA (aA (aA (aA (aA (aA (aA (bC cl) cl) cl) cl) cl) cl) cl) cl) cl)).symm⟩
    ·rintro _ ⟨t,LR11,ht,rfl⟩
     refine bE ?_
     refine aK rfl (fun h49r h49=>?_) (fun h49r h49=>?_)
     ·rw [ht,Bool.and_eq_true] at h49r
      obtain⟨ekA,ekB,k3,k4⟩:=tW h49r.1
      obtain⟨ekC,ekD,k7,k8⟩:=tW h49r.2
      have n1:=oN k3 k8
      have n2:=oN k7 k4
      have n3:=n1
      have n4:=n2
      rw [←ekA,←ekD] at n1
      rw [←ekC,←ekB] at n2
      refine cO ?_
      refine aB rfl (.bin rfl rfl (wP (by omega))) ?_
      refine cY ?_
      refine aB rfl (.bin rfl rfl (wP (by omega))) ?_
      refine bE ?_
      refine jU nf1 ?_
      refine bE ?_
      refine aK rfl (fun h56r h56=>?_) (fun h56r h56=>?_)
      ·refine cO ?_
       exact⟨-1,_,(hY (by omega)).symm,((aA (aA (bC cl) cl) cl)).symm⟩
      ·refine cO ?_
       refine aB rfl (.bin rfl rfl (wP (by omega))) ?_
       refine cY ?_
       refine aB rfl (.bin rfl rfl (wP (by omega))) ?_
       refine bE ?_
       refine jU nf1 ?_
       refine bE ?_
       refine aK rfl (fun h63r h63=>?_) (fun h63r h63=>?_)
       ·refine cO ?_
        exact⟨1,_,(iZ (by omega)).symm,((aA (aA (bC cl) cl) cl)).symm⟩
       ·refine cY ?_
        exact⟨0,_,(jN (by omega)).symm,((aA (aA (bC cl) cl) cl)).symm⟩
     ·refine aP 12 (by decide +kernel) ?_
      refine cP ?_
      refine cp dC (pR _) ?_
      refine cp b9 (n5 _ _ (aX _) (aX _) (by omega) (by omega)) ?_
      refine cP ?_
      refine cp dC (pR _) ?_
      refine cp b9 (n5 _ _ (aX _) (aX _) (by omega) (by omega)) ?_
      refine cp b9 (vR _ _ (aX _) (aX _) (by first | omega | (simp only [aV];omega)) (by first | omega | (simp only [aV];omega))) ?_
      refine cP ?_
      exact⟨kD (a.num.natAbs*b.den) (b.num.natAbs*a.den),_,rfl,((aA (aA (bC cl) cl) cl)).symm⟩
  ·rintro _ ⟨c,LC34,hc,rfl⟩
   refine eC ?_
   refine aK rfl (fun h76r h76=>?_) (fun h76r h76=>?_)
   ·refine dU ?_
    rw [sJ hss,if_pos h76,←hc,←yU hc]
    exact bM rfl (by first | exact .pure rfl | exact .pure (bA _) | exact .pure (aO _) | exact .pure (aD.pure _) | exact .pure (aG cT _ _) | exact .pure (aG aD _ _))
   ·refine dU ?_
    rw [sJ hss,if_neg h76,←hc]
    exact bM rfl (by first | exact .pure rfl | exact .pure (bA _) | exact .pure (aO _) | exact .pure (aD.pure _) | exact .pure (aG cT _ _) | exact .pure (aG aD _ _))
namespace Zq99
theorem dG {p q:Prop} (k:q) (e:p=q:=by simp only [e1,e2,e3,e4,p1,p2,p3,q1,q2,q3,l1,t0,t1,r1,r2,r3,r4,Nat.zero_add,Nat.reduceMul,Nat.reduceAdd,b1,b2,b3,b4,b5,b6,i1,i2,i3,i4,i5,i6,Nat.reduceBEq,aV,ekA,ekB,ekC,ekD];exact rfl):p:=e.mpr k
end Zq99
open Zq99 in
theorem fN (a b:Rat) (h:rl a+rl b≤1099511627776):aM Tryz.prog 70 [ratL a,ratL b] (ratL (a*b)):=by
 have a1:=fO a
 have a2:=f5 a
 have a3:=eO a
 have c1:=fO b
 have c2:=f5 b
 have c3:=eO b
 have a0:=a.den_pos
 have c0:=b.den_pos
 have m1:=cE a1 c2
 have m2:=cE c1 a2
 have m3:=cE a2 c2
 have m4:=cE a1 c1
 have m5:=cE a2 c1
 have m6:=cE c2 a2
 have hE:=z5 (decide (a<0)) (decide (b<0)) a.num.natAbs a.den b.num.natAbs b.den
 rw [eY,eY] at hE
 refine dI Tryz.func70 ?_
 have ekA:True:=trivial
 have ekB:True:=trivial
 have ekC:True:=trivial
 have ekD:True:=trivial
 refine iJ ?_
 refine dJ 15 rfl (fun h15r h15=>?_) (fun h15r h15=>?_)
 ·have hz:a*b=0:=by rw [xY (q:=a) (by omega),Rat.zero_mul]
  refine mY ?_
  rw [hz,eW]
  exact dQ [] rfl rfl rfl rfl rfl cX (.pure rfl)
 ·refine dL ?_
  refine aK rfl (fun h20r h20=>?_) (fun h20r h20=>?_)
  ·have hz:a*b=0:=by rw [xY (q:=b) (by omega),Rat.mul_zero]
   refine eC ?_
   rw [hz,eW]
   exact dQ [] rfl rfl rfl rfl rfl cX (.pure rfl)
  ·refine dB ?_
   refine cp dC (mO _) ?_
   refine gC ?_
   refine eB (fun L=>∃  (L1:St),(True)∧L=((((St.mk L1.slot (hp [(2,⟨3,[ratL a],true⟩),(3,⟨3,[ratL b],true⟩),(4,⟨3,[.agg [.v (.bool false),.list 1 [],.list 1 []]],true⟩)])).put (some 2) (.eptr 2 3 0 0)).put (some 3) (.eptr 3 3 0 0)).put (some 4) (.eptr 4 3 0 0))) ?_ ?_
   ·refine aK rfl (fun h28r h28=>?_) (fun h28r h28=>?_)
    ·obtain⟨ekA,ekB,k3,k4⟩:=tW h28r
     refine cP ?_
     refine cp dC (mO _) ?_
     refine gC ?_
     refine aK rfl (fun h35r h35=>?_) (fun h35r h35=>?_)
     ·obtain⟨ekC,ekD,k7,k8⟩:=tW h35r
      have n1:=oN k3 k7
      have n2:=oN k4 k8
      have np:=Nat.mul_pos a0 c0
      refine dU ?_
      refine aB rfl (.bin rfl rfl (wP (by first | omega | (simp only [ekA,ekB,ekC,ekD];omega)))) ?_
      refine cY ?_
      refine aB rfl (.bin rfl rfl (wP (by first | omega | (simp only [ekA,ekB,ekC,ekD];omega)))) ?_
      refine cp pS (p5 _ _ _ (by first | omega | (simp only [ekA,ekB,ekC,ekD];omega)) (by first | exact np | (simp only [ekA,ekB,ekC,ekD];exact np)) (by first | omega | (simp only [ekA,ekB,ekC,ekD];omega))) ?_
      refine dB ?_
      rw [hE]
      exact dQ [] rfl rfl rfl (aD.csize _) (aJ _) cX (.pure (aD.pure _))
     ·refine cY ?_
      exact⟨_,trivial,((aA (aA (aA (bC cl) cl) cl) cl)).symm⟩
    ·refine cY ?_
     exact⟨_,trivial,((aA (aA (aA (bC cl) cl) cl) cl)).symm⟩
   ·rintro _ ⟨LC28,-,rfl⟩
    refine cY ?_
    refine aP 16 (by decide +kernel) ?_
    refine dU ?_
    refine cp b9 (n5 _ _ (aX _) (aX _) (by omega) (by omega)) ?_
    refine bE ?_
    refine cp dC (pR _) ?_
    refine bE ?_
    refine cp dC (pR _) ?_
    refine cp b9 (n5 _ _ (aX _) (aX _) (by omega) (by omega)) ?_
    refine cp pS (l9 _ _ _ (aX _) (aX _) (by first | omega | (simp only [aV];omega)) (by first | omega | (simp only [aV];omega))) ?_
    refine cO ?_
    rw [hE]
    exact dQ [] rfl rfl rfl (aD.csize _) (aJ _) cX (.pure (aD.pure _))
namespace Zq100
theorem dG {p q:Prop} (k:q) (e:p=q:=by simp only [e1,e2,e3,e4,p1,p2,p3,q1,q2,q3,l1,t0,t1,r1,r2,r3,r4,Nat.zero_add,Nat.reduceMul,Nat.reduceAdd,b1,b2,b3,b4,b5,b6,i1,i2,i3,i4,i5,i6,Nat.reduceBEq,aV,ekA,ekB,ekC,ekD];exact rfl):p:=e.mpr k
end Zq100
open Zq100 in
theorem aAi (a b:Rat) (h:rl a+rl b≤1099511627776):aM Tryz.prog 68 [ratL a,ratL b] (.tup [ratL (a/b),iL (if b=0 then 3 else 0)]):=by
 have a1:=fO a
 have a2:=f5 a
 have a3:=eO a
 have c1:=fO b
 have c2:=f5 b
 have c3:=eO b
 have a0:=a.den_pos
 have c0:=b.den_pos
 have m1:=cE a1 c2
 have m2:=cE c1 a2
 have m3:=cE a2 c2
 have m4:=cE a1 c1
 have m5:=cE a2 c1
 have m6:=cE c2 a2
 have hE:=aAo (decide (a<0)) (decide (b<0)) a.num.natAbs a.den b.num.natAbs b.den
 rw [eY,eY] at hE
 refine dI Tryz.func68 ?_
 have ekA:True:=trivial
 have ekB:True:=trivial
 have ekC:True:=trivial
 have ekD:True:=trivial
 refine cW ?_
 refine cp dC (vC _ (by omega)) ?_
 refine cP ?_
 refine aK rfl (fun h14r h14=>?_) (fun h14r h14=>?_)
 ·have hz:b=0:=by
   unfold mE at h14;split at h14
   ·assumption
   ·split at h14<;>omega
  refine dU ?_
  subst hz
  rw [show a/0=0 by rw [Rat.div_def];simp,eW]
  exact kG [] rfl rfl rfl rfl rfl cX (.pure rfl) rfl (.pure rfl)
 ·have hz:b≠0:=by rintro rfl;exact h14 rfl
  have hbn:0<b.num.natAbs:=Nat.pos_of_ne_zero (fun h=>hz (Rat.num_eq_zero.1 (by omega)))
  refine dB ?_
  refine cp dC (mO _) ?_
  refine gC ?_
  refine eB (fun L=>∃  (L1:St),(True)∧L=(((((St.mk L1.slot (hp [(2,⟨3,[ratL a],true⟩),(3,⟨3,[ratL b],true⟩),(4,⟨3,[.agg [.v (.bool false),.list 1 [],.list 1 []]],true⟩)])).put (some 2) (.eptr 2 3 0 0)).put (some 3) (.eptr 3 3 0 0)).put (some 4) (.eptr 4 3 0 0)).put (some 5) (iL 0))) ?_ ?_
  ·refine aK rfl (fun h22r h22=>?_) (fun h22r h22=>?_)
   ·obtain⟨ekA,ekB,k3,k4⟩:=tW h22r
    refine cP ?_
    refine cp dC (mO _) ?_
    refine gC ?_
    refine aK rfl (fun h29r h29=>?_) (fun h29r h29=>?_)
    ·obtain⟨ekC,ekD,k7,k8⟩:=tW h29r
     have n1:=oN k3 k8
     have n2:=oN k4 k7
     have np:=Nat.mul_pos a0 hbn
     refine dU ?_
     refine aB rfl (.bin rfl rfl (wP (by first | omega | (simp only [ekA,ekB,ekC,ekD];omega)))) ?_
     refine cY ?_
     refine aB rfl (.bin rfl rfl (wP (by first | omega | (simp only [ekA,ekB,ekC,ekD];omega)))) ?_
     refine cp pS (p5 _ _ _ (by first | omega | (simp only [ekA,ekB,ekC,ekD];omega)) (by first | exact np | (simp only [ekA,ekB,ekC,ekD];exact np)) (by first | omega | (simp only [ekA,ekB,ekC,ekD];omega))) ?_
     refine dL ?_
     rw [hE,if_neg hz]
     exact kG [] rfl rfl rfl (aD.csize _) (aJ _) cX (.pure (aD.pure _)) rfl (.pure rfl)
    ·refine cY ?_
     exact⟨_,trivial,((aA (aA (aA (aA (bC cl) cl) cl) cl) cl)).symm⟩
   ·refine cY ?_
    exact⟨_,trivial,((aA (aA (aA (aA (bC cl) cl) cl) cl) cl)).symm⟩
  ·rintro _ ⟨LC22,-,rfl⟩
   refine cY ?_
   refine aP 16 (by decide +kernel) ?_
   refine eC ?_
   refine cp dC (pR _) ?_
   refine cp b9 (n5 _ _ (aX _) (aX _) (by omega) (by omega)) ?_
   refine bE ?_
   refine cp dC (pR _) ?_
   refine cY ?_
   refine cp b9 (n5 _ _ (aX _) (aX _) (by omega) (by omega)) ?_
   refine cp pS (l9 _ _ _ (aX _) (aX _) (by first | omega | (simp only [aV];omega)) (by first | omega | (simp only [aV];omega))) ?_
   refine dR ?_
   rw [hE,if_neg hz]
   exact kG [] rfl rfl rfl (aD.csize _) (aJ _) cX (.pure (aD.pure _)) rfl (.pure rfl)
theorem lV {p s:Bool} (h:(p==s)=false):p≠s:=by simpa using h
namespace Zq137
theorem dG {p q:Prop} (k:q) (e:p=q:=by simp only [e1,e2,e3,e4,p1,p2,p3,q1,q2,q3,l1,t0,t1,r1,r2,r3,r4,Nat.zero_add,Nat.reduceMul,Nat.reduceAdd,b1,b2,b3,b4,b5,b6,i1,i2,i3,i4,i5,i6,Nat.reduceBEq,aV,Nat.one_mul,Nat.mul_one,eS,eK,eSb,eSc,ekA,ekB,ekC,ekD];exact rfl):p:=e.mpr k
end Zq137
open Zq137 in
theorem aGa (a b:Rat) (s:Bool) (h:rl a+rl b≤549755813888):aM Tryz.prog 151 [ratL a,ratL b,bL s] (ratL (a+sgR s b)):=by
 have a1:=fO a
 have a2:=f5 a
 have a3:=eO a
 have c1:=fO b
 have c2:=f5 b
 have c3:=eO b
 have a0:=a.den_pos
 have c0:=b.den_pos
 have m1:=cE a1 c2
 have m2:=cE c1 a2
 have m3:=cE a2 c2
 have m4:=cE a1 c1
 have m5:=cE a2 c1
 have m6:=cE c2 a2
 have mm:=aAg (k:=rl a+rl b) m1 (by omega)
 refine dI Tryz.func151 ?_
 have eS:True:=trivial
 have eK:True:=trivial
 have eSb:True:=trivial
 have eSc:True:=trivial
 have ekA:True:=trivial
 have ekB:True:=trivial
 have ekC:True:=trivial
 have ekD:True:=trivial
 refine cV ?_
 refine cp dC (mO _) ?_
 refine gC ?_
 refine eB (fun L=>∃  (L1:St),(True)∧L=(((((St.mk L1.slot (hp [(3,⟨3,[ratL a],true⟩),(4,⟨3,[ratL b],true⟩),(6,⟨3,[.agg [.v (.bool false),.list 1 [],.list 1 []]],true⟩)])).put (some 2) (bL s)).put (some 3) (.eptr 3 3 0 0)).put (some 4) (.eptr 4 3 0 0)).put (some 6) (.eptr 6 3 0 0))) ?_ ?_
 ·refine aK rfl (fun h28r h28=>?_) (fun h28r h28=>?_)
  ·obtain⟨ekA,ekB,k3,k4⟩:=tW h28r
   refine cP ?_
   refine cp dC (mO _) ?_
   refine gC ?_
   refine aK rfl (fun h35r h35=>?_) (fun h35r h35=>?_)
   ·obtain⟨ekC,ekD,k7,k8⟩:=tW h35r
    have n1:=oN k3 k8
    have n2:=oN k7 k4
    have n3:=oN k4 k8
    have np:=Nat.mul_pos a0 c0
    refine cO ?_
    refine aB rfl (.bin rfl rfl (wP (by first | omega | (simp only [ekA,ekB,ekC,ekD];omega)))) ?_
    refine cY ?_
    refine aB rfl (.bin rfl rfl (wP (by first | omega | (simp only [ekA,ekB,ekC,ekD];omega)))) ?_
    refine dR ?_
    have eS:(((a.num.natAbs*b.den:Nat):Int)+((b.num.natAbs*a.den:Nat):Int)+0) % 18446744073709551616=(((a.num.natAbs*b.den+b.num.natAbs*a.den) % 18446744073709551616:Nat):Int):=by omega
    have eK:(((a.num.natAbs*b.den:Nat):Int)+((b.num.natAbs*a.den:Nat):Int)+0)/18446744073709551616=(((a.num.natAbs*b.den+b.num.natAbs*a.den)/18446744073709551616:Nat):Int):=by omega
    refine cP ?_
    refine aB rfl (.ext2 Tryz.func216 rfl rfl rfl rfl (vs:=[.int .u64 ((a.num.natAbs*b.den:Nat):Int),.int .u64 ((b.num.natAbs*a.den:Nat):Int),.int .u64 0]) rfl (fun w=>run_add64 _ _ _ (by omega) (by omega) (by omega) (by omega) w) rfl rfl) ?_
    refine iJ ?_
    refine dJ 53 rfl (fun h53r h53=>?_) (fun h53r h53=>?_)
    ·refine dB ?_
     refine aK rfl (fun h48r h48=>?_) (fun h48r h48=>?_)
     ·refine dL ?_
      refine cp pS (p5 s ((a.num.natAbs*b.den+b.num.natAbs*a.den) % 18446744073709551616) (a.den*b.den) (by omega) np (by omega)) ?_
      refine dL ?_
      have hc0:a.num.natAbs*b.den+b.num.natAbs*a.den<18446744073709551616:=by omega
      rw [w5 (k:=1) (x:=a.num.natAbs*b.den) (y:=b.num.natAbs*a.den) (d:=a.den*b.den) (by omega) (Nat.mul_one _) (Nat.mul_one _) (Nat.mul_one _) (eq_of_beq h53r),show qv s (a.num.natAbs*b.den+b.num.natAbs*a.den) (a.den*b.den)=qv s ((a.num.natAbs*b.den+b.num.natAbs*a.den) % 18446744073709551616) (a.den*b.den) by rw [Nat.mod_eq_of_lt hc0]]
      exact dQ [] rfl rfl rfl (aD.csize _) (aJ _) cX (.pure (aD.pure _))
     ·refine dL ?_
      refine kZ (aL (v:=false) rfl rfl ((by rw [h53r];rfl)) rfl) ?_
      refine kZ (aL (v:=false) rfl rfl ((by rw [h53r];rfl)) rfl) ?_
      refine kZ (aL (v:=false) rfl rfl ((by rw [h53r];rfl)) rfl) ?_
      refine aB rfl (.pickF rfl ((by rw [h53r];rfl))) ?_
      refine eA ?_
      refine bX (b:=_) rfl (by rw [h53r];rfl) ?_
      refine cP ?_
      exact⟨_,trivial,((aA (aA (aA (aA (bC cl) cl) cl) cl) cl)).symm⟩
    ·refine gC ?_
     refine aB (aL (v:=true) rfl rfl ((by rw [h53r];rfl)) rfl) (.move _) ?_
     refine aB (aL (v:=true) rfl rfl ((by rw [h53r];rfl)) rfl) (.move _) ?_
     refine aB (aL (v:=true) rfl rfl ((by rw [h53r];rfl)) rfl) (.bin rfl rfl rfl) ?_
     refine aB rfl (.pickT rfl ((by rw [h53r];rfl))) ?_
     refine cP ?_
     refine aK rfl (fun h63r h63=>?_) (fun h63r h63=>?_)
     ·refine cN ?_
      refine cp pS (p5 _ _ _ (by first | omega | (simp only [ekA,ekB,ekC,ekD];omega)) (by first | exact np | (simp only [ekA,ekB,ekC,ekD];exact np)) (by first | omega | (simp only [ekA,ekB,ekC,ekD];omega))) ?_
      refine dL ?_
      rw [aCq (k:=1) (x:=a.num.natAbs*b.den) (y:=b.num.natAbs*a.den) (d:=a.den*b.den) (by omega) (Nat.mul_one _) (Nat.mul_one _) (Nat.mul_one _) (lV h53r) (by omega)]
      exact dQ [] rfl rfl rfl (aD.csize _) (aJ _) cX (.pure (aD.pure _))
     ·refine dU ?_
      refine bK (b:=_) rfl (by rw [h53r];rfl) ?_
      refine dU ?_
      refine cp pS (p5 _ _ _ (by first | omega | (simp only [ekA,ekB,ekC,ekD];omega)) (by first | exact np | (simp only [ekA,ekB,ekC,ekD];exact np)) (by first | omega | (simp only [ekA,ekB,ekC,ekD];omega))) ?_
      refine dL ?_
      rw [aCk (k:=1) (x:=a.num.natAbs*b.den) (y:=b.num.natAbs*a.den) (d:=a.den*b.den) (by omega) (Nat.mul_one _) (Nat.mul_one _) (Nat.mul_one _) (lV h53r) (by omega)]
      exact dQ [] rfl rfl rfl (aD.csize _) (aJ _) cX (.pure (aD.pure _))
   ·refine cY ?_
    exact⟨_,trivial,((aA (aA (aA (aA (bC cl) cl) cl) cl) cl)).symm⟩
  ·refine cY ?_
   exact⟨_,trivial,((aA (aA (aA (aA (bC cl) cl) cl) cl) cl)).symm⟩
 ·rintro _ ⟨LC28,-,rfl⟩
  refine cY ?_
  refine aP 9 (by decide +kernel) ?_
  refine dR ?_
  refine cp dC (pR _) ?_
  refine cW ?_
  refine cp b9 (u5 _ _ (by omega) (by omega)) ?_
  refine cP ?_
  refine eB (fun L=>∃ (x:Nat) (y:Nat) (d:Nat) (L1:St),(∃ k,0<k∧x*k=a.num.natAbs*b.den∧y*k=b.num.natAbs*a.den∧d*k=a.den*b.den∧0<d∧(a7 x).length≤rl a+rl b∧(a7 y).length≤rl a+rl b∧(a7 d).length≤rl a+rl b)∧L=((((((((St.mk L1.slot (hp [(3,⟨3,[ratL a],true⟩),(4,⟨3,[ratL b],true⟩),(6,⟨3,[.agg [.v (.bool false),.list 1 [],.list 1 []]],true⟩)])).put (some 2) (bL s)).put (some 3) (.eptr 3 3 0 0)).put (some 4) (.eptr 4 3 0 0)).put (some 6) (.eptr 6 3 0 0)).put (some 15) (bW x)).put (some 16) (bW y)).put (some 17) (bW d))) ?_ ?_
  ·refine aK rfl (fun h106r h106=>?_) (fun h106r h106=>?_)
   ·refine aP 15 (by decide +kernel) ?_
    refine cY ?_
    refine cp dC (pR _) ?_
    refine cp b9 (n5 _ _ (aX _) (aX _) (by omega) (by omega)) ?_
    refine cY ?_
    refine cp dC (pR _) ?_
    refine cp b9 (n5 _ _ (aX _) (aX _) (by omega) (by omega)) ?_
    refine cY ?_
    refine cp dC (pR _) ?_
    refine cp b9 (n5 _ _ (aX _) (aX _) (by omega) (by omega)) ?_
    refine dR ?_
    exact⟨a.num.natAbs*b.den,b.num.natAbs*a.den,a.den*b.den,_,⟨1,by omega,Nat.mul_one _,Nat.mul_one _,Nat.mul_one _,Nat.mul_pos a0 c0,m1,by omega,m3⟩,((aA (aA (aA (aA (aA (aA (aA (bC cl) cl) cl) cl) cl) cl) cl) cl)).symm⟩
   ·have hde:=vI h106
    refine cY ?_
    exact⟨a.num.natAbs,b.num.natAbs,a.den,_,⟨a.den,a0,by rw [hde],rfl,by rw [hde],a0,by omega,by omega,by omega⟩,((aA (aA (aA (aA (aA (aA (aA (bC cl) cl) cl) cl) cl) cl) cl) cl)).symm⟩
  ·rintro _ ⟨x,y,d,LC106,⟨k,hk,hx,hy,hd,hd0,lx,ly,ld⟩,rfl⟩
   have lxy:=aAg lx ly
   have lxs:(a7 (x-y)).length≤rl a+rl b:=Nat.le_trans (dE (Nat.sub_le _ _)) lx
   have lys:(a7 (y-x)).length≤rl a+rl b:=Nat.le_trans (dE (Nat.sub_le _ _)) ly
   refine cN ?_
   refine aK rfl (fun h122r h122=>?_) (fun h122r h122=>?_)
   ·refine dR ?_
    refine cp b9 (aFO _ _ (aX _) (aX _) (by omega) (by omega)) ?_
    refine bE ?_
    refine cp pS (l9 _ _ _ (aX _) (aX _) (by first | omega | (simp only [aV];omega)) (by first | omega | (simp only [aV];omega))) ?_
    refine dR ?_
    rw [w5 hk hx hy hd (eq_of_beq h122r)]
    exact dQ [] rfl rfl rfl (aD.csize _) (aJ _) cX (.pure (aD.pure _))
   ·refine dL ?_
    refine cp b9 (y6 _ _ (by omega) (by omega)) ?_
    refine eA ?_
    refine aK rfl (fun h136r h136=>?_) (fun h136r h136=>?_)
    ·have hle:=aCd.1 (show aCL x y=0 by omega)
     have eSb:=rY hle
     refine dB ?_
     refine cp pS (l9 _ _ _ (by rw [eSb];exact aX _) (aX _) (by rw [eSb];omega) (by omega)) ?_
     refine dR ?_
     rw [aCq hk hx hy hd (lV h122r) hle]
     exact dQ [] rfl rfl rfl (aD.csize _) (aJ _) cX (.pure (aD.pure _))
    ·have hle:x≤y:=by
      rcases Nat.le_total x y with h | h
      ·exact h
      ·have:=aCd.2 h;omega
     have eSc:=rY hle
     refine dB ?_
     refine cp b9 (y6 _ _ (by omega) (by omega)) ?_
     refine cW ?_
     refine cp pS (l9 _ _ _ (aX _) (aX _) (by omega) (by omega)) ?_
     refine cO ?_
     rw [aCk hk hx hy hd (lV h122r) hle]
     exact dQ [] rfl rfl rfl (aD.csize _) (aJ _) cX (.pure (aD.pure _))
theorem rR {a b:Rat}:mD b a<0↔b<a:=by unfold mD;split<;>(try split)<;>grind
theorem sN {a b:Rat}:mD b a > 0↔a<b:=by unfold mD;split<;>(try split)<;>grind
open H0 in
theorem lH (a b:Rat) (h:rl a+rl b≤549755813888):aM Tryz.prog 147 [ratL a,ratL b] (ratL (a+b)):=by
 refine dI Tryz.func147 ?_
 refine eA ?_
 refine cp pS (aGa _ _ _ (by omega)) ?_
 refine cO ?_
 exact dQ [] rfl rfl rfl (aD.csize _) (aJ _) cX (by rw [rS];exact .pure (aD.pure _))
open H0 in
theorem lK (a b:Rat) (h:rl a+rl b≤549755813888):aM Tryz.prog 82 [ratL a,ratL b] (ratL (a-b)):=by
 refine dI Tryz.func82 ?_
 refine gC ?_
 refine cp pS (aGa _ _ _ (by omega)) ?_
 refine cO ?_
 rw [Rat.sub_eq_add_neg]
 exact dQ [] rfl rfl rfl (aD.csize _) (aJ _) cX (by rw [aIC];exact .pure (aD.pure _))
open H0 in
theorem aHk (a b:Rat) (h:rl a+rl b≤549755813888):aM Tryz.prog 235 [ratL a,ratL b] (ratL (if b<a then b else a)):=by
 refine dI Tryz.func235 ?_
 refine cW ?_
 refine cp b9 (w7 _ _ (by omega)) ?_
 refine cP ?_
 refine eB (fun L=>∃ (q:Rat) (L1:St),(q=(if b<a then b else a)∧rl q≤549755813888)∧L=(((St.mk L1.slot (hp [(2,⟨3,[ratL q],true⟩),(3,⟨3,[ratL b],true⟩),(4,⟨3,[.agg [.v (.bool false),.list 1 [],.list 1 []]],true⟩)])).put (some 2) (.eptr 2 3 0 0)).put (some 4) (.eptr 4 3 0 0))) ?_ ?_
 ·refine aK rfl (fun h8r h8=>?_) (fun h8r h8=>?_)
  ·refine dR ?_
   exact⟨b,_,⟨by rw [if_pos (rR.1 h8)],by omega⟩,((aA (aA (bC cl) cl) cl)).symm⟩
  ·refine cY ?_
   exact⟨a,_,⟨by rw [if_neg (fun h=>h8 (rR.2 h))],by omega⟩,((aA (aA (bC cl) cl) cl)).symm⟩
 ·rintro _ ⟨q,LC8,⟨hq,hql⟩,rfl⟩
  refine cO ?_
  refine cp dC (aB1 _ (by omega)) ?_
  refine cO ?_
  rw [←hq]
  exact dQ [] rfl rfl rfl (aD.csize _) (aJ _) cX (.pure (aD.pure _))
open H0 in
theorem aCv (a b:Rat) (h:rl a+rl b≤549755813888):aM Tryz.prog 84 [ratL a,ratL b] (ratL (if a<b then b else a)):=by
 refine dI Tryz.func84 ?_
 refine cW ?_
 refine cp b9 (w7 _ _ (by omega)) ?_
 refine cP ?_
 refine eB (fun L=>∃ (q:Rat) (L1:St),(q=(if a<b then b else a)∧rl q≤549755813888)∧L=(((St.mk L1.slot (hp [(2,⟨3,[ratL q],true⟩),(3,⟨3,[ratL b],true⟩),(4,⟨3,[.agg [.v (.bool false),.list 1 [],.list 1 []]],true⟩)])).put (some 2) (.eptr 2 3 0 0)).put (some 4) (.eptr 4 3 0 0))) ?_ ?_
 ·refine aK rfl (fun h8r h8=>?_) (fun h8r h8=>?_)
  ·refine dR ?_
   exact⟨b,_,⟨by rw [if_pos (sN.1 h8)],by omega⟩,((aA (aA (bC cl) cl) cl)).symm⟩
  ·refine cY ?_
   exact⟨a,_,⟨by rw [if_neg (fun h=>h8 (sN.2 h))],by omega⟩,((aA (aA (bC cl) cl) cl)).symm⟩
 ·rintro _ ⟨q,LC8,⟨hq,hql⟩,rfl⟩
  refine cO ?_
  refine cp dC (aB1 _ (by omega)) ?_
  refine cO ?_
  rw [←hq]
  exact dQ [] rfl rfl rfl (aD.csize _) (aJ _) cX (.pure (aD.pure _))
theorem aFG {o:List Nat} {N:Nat} (hL:fT o) (hv:val o=N) (h:o.length=0∨4294967296 ^ (o.length-1)≤N):o=a7 N:=by
 have h1:(a7 N).length≤o.length:=by rw [←hv];exact t6 hL
 have h2:o.length≤(a7 N).length:=by
  rcases h with h | h
  ·omega
  ·rcases Nat.lt_or_ge (a7 N).length o.length with hlt | hge
   ·have:=dP (n:=N) (k:=o.length-1) (by omega)
    omega
   ·exact hge
 have e1:=u9 hL rfl
 have e2:=u9 (aX N) rfl
 rw [e1,e2,aV,hv]
 congr 1;omega
theorem aIx {m:Nat} (h:(a7 m).length=2):m=(a7 m).getD 1 0*4294967296+(a7 m).getD 0 0:=by
 have e:=aV m
 generalize a7 m=l at h e
 match l,h with
 | [x,y],_=>rw [aAH] at e;simp;omega
theorem orC {a b:Nat} (hb:b<4294967296) (hx:a<4294967296):dW .or .u64 (b:Nat) ((a*4294967296:Nat):Int)=some (.int .u64 ((a*4294967296+b:Nat):Int)):=orV (s:=32) hb (by omega)
theorem tz0:(0:Int).toNat=0:=rfl
theorem tz1:(1:Int).toNat=1:=rfl
theorem bJ {α β:Type} (f:α→β) (o:List α):(o.map f).take o.length=o.map f:=by rw [List.take_of_length_le (by simp)]
theorem cI {α β:Type} (f:α→β) (o:List α) (x:α):o.map f++[f x]=(o++[x]).map f:=by simp
theorem bQ {α:Type} (o:List α) (x:α):(o++[x]).length=o.length+1:=by simp
theorem wL (o:List Nat) (x:Nat):val (o++[x])=val o+4294967296 ^ o.length*x:=by rw [mA];simp [val]
theorem xO {o:List Nat} (h:fT o) {x:Nat} (hx:x<4294967296):fT (o++[x]):=v8 h (fun y hy=>by simp at hy;omega)
section
variable {m n c s:Nat} {o:List Nat}
theorem aFE (hv:val o+4294967296 ^ o.length*c=val ((a7 m).take o.length)+val ((a7 n).take o.length)) (hs:s=c+(a7 m).getD o.length 0+(a7 n).getD o.length 0) :
  val (o++[s % 4294967296])+4294967296 ^ (o.length+1)*(s/4294967296)=val ((a7 m).take (o.length+1))+val ((a7 n).take (o.length+1)):=by
 rw [wL,cU,cU,Nat.pow_succ]
 have h1:=jT (4294967296 ^ o.length) s
 have h2:4294967296 ^ o.length*s=4294967296 ^ o.length*c+4294967296 ^ o.length*(a7 m).getD o.length 0+4294967296 ^ o.length*(a7 n).getD o.length 0:=by rw [hs,Nat.mul_add,Nat.mul_add]
 omega
theorem pI {m k:Nat} (h:(a7 m).length≤k):val ((a7 m).take k)=m:=by rw [List.take_of_length_le h,aV]
theorem aIK (hv:val o+4294967296 ^ o.length*c=val ((a7 m).take o.length)+val ((a7 n).take o.length)) (hol:o.length≤max (a7 m).length (a7 n).length∨(o.length=max (a7 m).length (a7 n).length+1∧c=0))
  (hg:o.length<max (a7 m).length (a7 n).length∨c≠0):o.length+1=max (a7 m).length (a7 n).length+1→4294967296 ^ (o.length+1-1)≤m+n:=by
 intro h
 rw [pI (by omega),pI (by omega)] at hv
 have:4294967296 ^ o.length*1≤4294967296 ^ o.length*c:=Nat.mul_le_mul_left _ (by omega)
 rw [Nat.add_sub_cancel];omega
theorem u6 {m:Nat} (h:0<(a7 m).length):4294967296 ^ ((a7 m).length-1)≤m:=by
 rcases Nat.lt_or_ge m (4294967296 ^ ((a7 m).length-1)) with h1 | h1
 ·have:=fD h1;omega
 ·exact h1
theorem aGQ (hc:c≤1) (hol:o.length≤max (a7 m).length (a7 n).length∨(o.length=max (a7 m).length (a7 n).length+1∧c=0)) (hg:o.length<max (a7 m).length (a7 n).length∨c≠0)
  (hs:s=c+(a7 m).getD o.length 0+(a7 n).getD o.length 0):o.length+1≤max (a7 m).length (a7 n).length∨(o.length+1=max (a7 m).length (a7 n).length+1∧s/4294967296=0):=by
 by_cases h:o.length<max (a7 m).length (a7 n).length
 ·exact .inl h
 ·rw [jL (a7 m) _ (by omega),jL (a7 n) _ (by omega)] at hs
  exact .inr ⟨by omega,by omega⟩
theorem aFz (hc:c≤1) (hlo:fT o) (hol:o.length≤max (a7 m).length (a7 n).length∨(o.length=max (a7 m).length (a7 n).length+1∧c=0)) (hv:val o+4294967296 ^ o.length*c=val ((a7 m).take o.length)+val ((a7 n).take o.length))
  (hge:o.length=max (a7 m).length (a7 n).length+1→4294967296 ^ (o.length-1)≤m+n) (hg:¬ (o.length<max (a7 m).length (a7 n).length∨c≠0)):a7 (m+n)=o:=by
 rw [pI (by omega),pI (by omega),show c=0 by omega] at hv
 refine(aFG hlo (by omega) ?_).symm
 by_cases h0:o.length=0
 ·exact .inl h0
 refine .inr ?_
 rcases hol with h | h
 ·rcases Nat.le_total (a7 m).length (a7 n).length with hh | hh
  ·have:=u6 (m:=n) (by omega)
   rw [show o.length=(a7 n).length by omega];omega
  ·have:=u6 (m:=m) (by omega)
   rw [show o.length=(a7 m).length by omega];omega
 ·exact hge h.1
end
theorem aFT {k br y2 br2 x:Nat} {a b o:List Nat} (hol:k<o.length) (hlo:fT o) (hbr:br≤1) (hxl:a.getD k 0<4294967296) (hyl:b.getD k 0<4294967296) (hv:val (o.take k)+val (b.take k)=val (a.take k)+4294967296 ^ k*br) (hx:x=br+b.getD k 0)
  (h:(a.getD k 0<x∧y2=a.getD k 0+4294967296∧br2=1)∨(x≤a.getD k 0∧y2=a.getD k 0∧br2=0)) :
  x≤y2∧br2≤1∧fT (o.set k ((y2-x) % 4294967296))∧val ((o.set k ((y2-x) % 4294967296)).take (k+1))+val (b.take (k+1))=val (a.take (k+1))+4294967296 ^ (k+1)*br2:=by
 rcases h with⟨h1,rfl,rfl⟩ | ⟨h1,rfl,rfl⟩
 ·refine⟨by omega,by omega,eX hlo _ _ (by omega),?_⟩
  rw [show (a.getD k 0+4294967296-x) % 4294967296=4294967296+a.getD k 0-x by omega]
  exact aBu hol hv hx h1 (by omega)
 ·refine⟨by omega,by omega,eX hlo _ _ (by omega),?_⟩
  rw [Nat.mod_eq_of_lt (by omega:a.getD k 0-x<4294967296)]
  exact aA9 hol hv hx h1
namespace Zq45
theorem dG {p q:Prop} (k:q) (e:p=q:=by simp only [e1,e2,e3,e4,p1,p2,p3,q1,q2,q3,l1,t0,t1,r1,r2,r3,r4,Nat.zero_add,Nat.reduceMul,Nat.reduceAdd,b1,b2,b3,b4,b5,b6,i1,i2,i3,i4,i5,i6,Nat.reduceBEq,ej,ek,fC,List.take_zero,List.take_nil,List.nil_append,aC cT,LV.kill];exact rfl):p:=e.mpr k
end Zq45
open Zq45 in
theorem jR (l:List Nat) (h:fT l) (hl:l.length≤4398046511104):aM Tryz.prog 192 [fV l] (bW (val l)):=by
 unfold fV bW
 rw [←gJ h]
 unfold qO
 refine dI Tryz.func192 ?_
 have ej:True:=trivial
 have ek:True:=trivial
 refine gC ?_
 refine lX (fun(k:Nat) L=>(((St.mk L.slot (hp [])).put (some 0) (.list 1 (l.map cB))).put (some 3) (aE k))) (fun k=>k≤l.length∧fZ l.length l=fZ k l) (fun k=>k) l.length ⟨Nat.le_refl _,rfl⟩ ?_
 rintro k L1 ⟨hk,hkt⟩
 refine dB ?_
 refine dJ 8 rfl (fun h8r h8=>?_) (fun h8r h8=>?_)
 ·obtain⟨j,rfl⟩:∃ j,k=j+1:=⟨k-1,by omega⟩
  have ej:(((j+1:Nat):Int)-1).toNat=j:=by omega
  have ek:(((j+1:Nat):Int)-1)=j:=by omega
  refine dU ?_
  refine aK rfl (fun h15r h15=>?_) (fun h15r h15=>?_)
  ·refine cN ?_
   exact kE j ⟨by omega,hkt.trans (by simp only [fZ];rw [if_pos (by simpa using h15)])⟩
  ·refine cN ?_
   refine aB rfl (by first | exact .sliceLh (h:=_) cT rfl Tryz.underlying27 lD rfl om | exact .sliceRh rfl Tryz.underlying27 lD rfl om om) ?_
   refine bD rfl (.app rfl rfl rfl rfl rfl (Nat.zero_le _) (.inr rfl) (by decide) Tryz.underlying27 Tryz.underlying27 zU lD rfl aBV (.inr (.inl rfl)) (by first | (simp;done) | (simp;omega)) (by first | (simp;done) | (simp;omega)) (by decide)) ?_
   refine cO ?_
   rw [hkt,fZ,if_neg (show ¬ l.getD j 0=0 by omega)]
   exact kP [22] rfl rfl (cA cT rfl rfl rfl)
 ·have hk0:k=0:=by omega
  subst hk0
  refine mV ?_
  refine aB rfl (by first | exact .sliceLh (h:=_) cT rfl Tryz.underlying27 lD rfl om | exact .sliceRh rfl Tryz.underlying27 lD rfl om om) ?_
  refine bD rfl (.app rfl rfl rfl rfl rfl (Nat.zero_le _) (.inr rfl) (by decide) Tryz.underlying27 Tryz.underlying27 zU lD rfl aBV (.inr (.inl rfl)) (by first | (simp;done) | (simp;omega)) (by first | (simp;done) | (simp;omega)) (by decide)) ?_
  refine cO ?_
  rw [hkt,show fZ 0 l=0 from rfl]
  exact kP [22] rfl rfl (cA cT rfl rfl rfl)
open H0 in
theorem wC (n:Nat) (hn:n<18446744073709551616):aM Tryz.prog 197 [dV n] (bW n):=by
 have hL:fT [n % 4294967296,n/4294967296 % 4294967296]:=by
  intro x hx;simp at hx;omega
 have hV:val [n % 4294967296,n/4294967296 % 4294967296]=n:=by rw [aAH];omega
 refine dI Tryz.func197 ?_
 refine eA ?_
 refine cpf [8] fm1 (jR _ (by first | assumption | exact aX _) (by first | omega | (simp;done) | (simp;omega))) ?_
 refine cO ?_
 exact bM rfl (by rw [hV];exact .pure (aO _))
namespace Zq58
theorem dG {p q:Prop} (k:q) (e:p=q:=by simp only [e1,e2,e3,e4,p1,p2,p3,q1,q2,q3,l1,t0,t1,r1,r2,r3,r4,Nat.zero_add,Nat.reduceMul,Nat.reduceAdd,b1,b2,b3,b4,b5,b6,i1,i2,i3,i4,i5,i6,Nat.reduceBEq,fC,tz0,tz1];exact rfl):p:=e.mpr k
end Zq58
open Zq58 in
theorem rL (m:Nat) (hl:(a7 m).length≤1099511627776):aM Tryz.prog 251 [bW m] (.tup [dV (if m<18446744073709551616 then m else 0),bL (decide (m<18446744073709551616))]):=by
 have hd0:=bT m 0
 have hd1:=bT m 1
 refine dI Tryz.func251 ?_
 refine mV ?_
 refine aK rfl (fun h6r h6=>?_) (fun h6r h6=>?_)
 ·have hm:m=0:=eR.1 (List.eq_nil_of_length_eq_zero (by omega))
  refine dU ?_
  subst hm
  exact tE rfl (.pure rfl) rfl (.pure rfl)
 ·refine dB ?_
  refine aK rfl (fun h8r h8=>?_) (fun h8r h8=>?_)
  ·have hm:=lR (n:=m) (by omega)
   have hm2:=eT.1 (show (a7 m).length≤1 by omega)
   refine eA ?_
   rw [if_pos (by omega),decide_eq_true (by omega)]
   refine tE (x:=dV ((a7 m).getD 0 0)) rfl ?_ rfl (.pure rfl)
   rw [hm.1]
   exact .pure rfl
  ·refine dB ?_
   refine aK rfl (fun h14r h14=>?_) (fun h14r h14=>?_)
   ·have h2v:m=(a7 m).getD 1 0*4294967296+(a7 m).getD 0 0:=aIx (by omega)
    have hm2:=gU.1 (show (a7 m).length≤2 by omega)
    refine bE ?_
    refine aP 12 (by decide +kernel) ?_
    refine eC ?_
    refine aB rfl (.sh rfl rfl (aBk (by simp only [fC,tz0,tz1];omega))) ?_
    refine aB rfl (.bin rfl rfl (orC (by simp only [fC,tz0,tz1];omega) (by simp only [fC,tz0,tz1];omega))) ?_
    refine dL ?_
    rw [if_pos hm2,decide_eq_true hm2]
    refine tE (x:=dV ((a7 m).getD 1 0*4294967296+(a7 m).getD 0 0)) rfl ?_ rfl (.pure rfl)
    rw [←h2v]
    exact .pure rfl
   ·have hm2:¬ m<18446744073709551616:=fun h=>by have:=gU.2 h;omega
    refine cN ?_
    rw [if_neg hm2,decide_eq_false hm2]
    exact tE rfl (.pure rfl) rfl (.pure rfl)
namespace Zq19
theorem dG {p q:Prop} (k:q) (e:p=q:=by simp only [e1,e2,e3,e4,p1,p2,p3,q1,q2,q3,l1,t0,t1,r1,r2,r3,r4,Nat.zero_add,Nat.reduceMul,Nat.reduceAdd,b1,b2,b3,b4,b5,b6,i1,i2,i3,i4,i5,i6,Nat.reduceBEq,fC,ej,ek];exact rfl):p:=e.mpr k
end Zq19
open Zq19 in
theorem qY (m n:Nat) (hla:(a7 m).length≤1099511627776) (hlb:(a7 n).length≤1099511627776):aM Tryz.prog 90 [bW m,bW n] (iL (kD m n)):=by
 refine dI Tryz.func90 ?_
 have ej:True:=trivial
 have ek:True:=trivial
 refine iJ ?_
 refine aK rfl (fun h10r h10=>?_) (fun h10r h10=>?_)
 ·refine cN ?_
  refine aK rfl (fun h15r h15=>?_) (fun h15r h15=>?_)
  ·have hE:=qB (m:=m) (n:=n) (by omega)
   refine eC ?_
   first | (rw [hY hE];exact bM rfl (.pure rfl)) | (rw [iZ hE];exact bM rfl (.pure rfl)) | (rw [jN hE];exact bM rfl (.pure rfl))
  ·have hE:=qB (m:=n) (n:=m) (by omega)
   refine dU ?_
   first | (rw [hY hE];exact bM rfl (.pure rfl)) | (rw [iZ hE];exact bM rfl (.pure rfl)) | (rw [jN hE];exact bM rfl (.pure rfl))
 ·have hlen:(a7 m).length=(a7 n).length:=by omega
  clear h10 h10r
  refine cW ?_
  refine lX (fun(k:Nat) L=>((((St.mk L.slot (hp [])).put (some 0) (bW m)).put (some 1) (bW n)).put (some 5) (iL ((k:Int)-1)))) (fun k=>k≤(a7 m).length∧(a7 m).drop k=(a7 n).drop k) (fun k=>k) ((a7 m).length) ⟨Nat.le_refl _,by rw [List.drop_length,List.drop_of_length_le (by omega)]⟩ ?_
  rintro k L1 ⟨hk,hd⟩
  refine dL ?_
  refine aK rfl (fun h20r h20=>?_) (fun h20r h20=>?_)
  ·obtain⟨j,rfl⟩:∃ j,k=j+1:=⟨k-1,by omega⟩
   have ej:(((j+1:Nat):Int)-1).toNat=j:=by omega
   have ek:(((j+1:Nat):Int)-1)=j:=by omega
   refine dB ?_
   refine aP 9 (by decide +kernel) ?_
   refine cV ?_
   refine aK rfl (fun h31r h31=>?_) (fun h31r h31=>?_)
   ·have hE:=kN (aX m) (k:=j) (by omega) (by omega) hd (by omega)
    rw [aV,aV] at hE
    refine cW ?_
    first | (rw [hY hE];exact bM rfl (.pure rfl)) | (rw [iZ hE];exact bM rfl (.pure rfl)) | (rw [jN hE];exact bM rfl (.pure rfl))
   ·refine cP ?_
    refine aP 9 (by decide +kernel) ?_
    refine cV ?_
    refine aK rfl (fun h40r h40=>?_) (fun h40r h40=>?_)
    ·have hE:=kN (aX n) (k:=j) (by omega) (by omega) hd.symm (by omega)
     rw [aV,aV] at hE
     refine cV ?_
     first | (rw [hY hE];exact bM rfl (.pure rfl)) | (rw [iZ hE];exact bM rfl (.pure rfl)) | (rw [jN hE];exact bM rfl (.pure rfl))
    ·refine dU ?_
     exact kE j ⟨by omega,wV (by omega) (by omega) hd (by omega)⟩
  ·obtain rfl:k=0:=by omega
   rw [List.drop_zero,List.drop_zero] at hd
   have hE:m=n:=by have:=congrArg val hd;rwa [aV,aV] at this
   refine cV ?_
   first | (rw [hY hE];exact bM rfl (.pure rfl)) | (rw [iZ hE];exact bM rfl (.pure rfl)) | (rw [jN hE];exact bM rfl (.pure rfl))
namespace Zq15
theorem dG {p q:Prop} (k:q) (e:p=q:=by simp only [e1,e2,e3,e4,p1,p2,p3,q1,q2,q3,l1,t0,t1,r1,r2,r3,r4,Nat.zero_add,Nat.reduceMul,Nat.reduceAdd,b1,b2,b3,b4,b5,b6,i1,i2,i3,i4,i5,i6,Nat.reduceBEq,fC,List.take_zero,List.take_nil,List.nil_append,aC cT,LV.kill,bJ,cI,bQ,List.length_cons,List.length_nil];exact rfl):p:=e.mpr k
end Zq15
open Zq15 in
theorem aLv (m n:Nat) (hla:(a7 m).length≤1099511627776) (hlb:(a7 n).length≤1099511627776):aM Tryz.prog 125 [bW m,bW n] (bW (m+n)):=by
 refine dI Tryz.func125 ?_
 refine aCu ?_
 refine eZ (bI.own (t:=5) 50 1 rfl rfl) ?_
 refine nD (fun(o:List Nat) (c:Nat) L=>((((((St.mk L.slot (hp [(50,⟨1,o.map cB,true⟩)])).put (some 0) (bW m)).put (some 1) (bW n)).put (some 5) (.ref 50 1 0 o.length)).put (some 6) (dV c)).put (some 7) (aE o.length))) (fun o c=>c≤1∧fT o∧(o.length≤max (a7 m).length (a7 n).length∨(o.length=max (a7 m).length (a7 n).length+1∧c=0))∧val o+4294967296 ^ o.length*c=val ((a7 m).take o.length)+val ((a7 n).take o.length)∧(o.length=max (a7 m).length (a7 n).length+1→4294967296 ^ (o.length-1)≤m+n)) (fun o c=>max (a7 m).length (a7 n).length+2-o.length) ([]) 0 ⟨by omega,(by intro x hx;cases hx),.inl (Nat.zero_le _),by simp [val],by simp⟩ ?_
 rintro o c L1 ⟨hc,hlo,hol,hv,hge⟩
 have hxk:=bT m o.length
 have hyk:=bT n o.length
 refine cY ?_
 refine eB (fun L=>∃ (t:Bool) (L1:St),(t=decide (o.length<max (a7 m).length (a7 n).length∨c≠0))∧L=(((((((St.mk L1.slot (hp [(50,⟨1,o.map cB,true⟩)])).put (some 0) (bW m)).put (some 1) (bW n)).put (some 5) (.ref 50 1 0 o.length)).put (some 6) (dV c)).put (some 7) (aE o.length)).put (some 21) (bL t))) ?_ ?_
 ·refine dB ?_
  refine dJ 12 rfl (fun h12r h12=>?_) (fun h12r h12=>?_)
  ·refine cV ?_
   exact⟨true,_,by symm;rw [decide_eq_true_iff];omega,((aA (aA (aA (aA (aA (aA (bC cl) cl) cl) cl) cl) cl) cl)).symm⟩
  ·refine dB ?_
   refine dJ 18 rfl (fun h18r h18=>?_) (fun h18r h18=>?_)
   ·refine dR ?_
    exact⟨true,_,by symm;rw [decide_eq_true_iff];omega,((aA (aA (aA (aA (aA (aA (bC cl) cl) cl) cl) cl) cl) cl)).symm⟩
   ·refine dR ?_
    exact⟨((c:Int) != 0),_,by rw [Bool.eq_iff_iff,bne_iff_ne,decide_eq_true_iff];omega,((aA (aA (aA (aA (aA (aA (bC cl) cl) cl) cl) cl) cl) cl)).symm⟩
 ·rintro _ ⟨t,LR4,ht,rfl⟩
  refine bE ?_
  refine aK rfl (fun h21r h21=>?_) (fun h21r h21=>?_)
  ·rw [ht,decide_eq_true_iff] at h21r
   have hg:=h21r
   refine eA ?_
   refine eB (fun L=>∃ (s1:Nat) (L1:St),(s1=c+(a7 m).getD o.length 0)∧L=((((((St.mk L1.slot (hp [(50,⟨1,o.map cB,true⟩)])).put (some 0) (bW m)).put (some 1) (bW n)).put (some 5) (.ref 50 1 0 o.length)).put (some 6) (dV s1)).put (some 7) (aE o.length))) ?_ ?_
   ·refine aK rfl (fun h27r h27=>?_) (fun h27r h27=>?_)
    ·refine cV ?_
     exact⟨c+(a7 m).getD o.length 0,_,rfl,((aA (aA (aA (aA (aA (bC cl) cl) cl) cl) cl) cl)).symm⟩
    ·refine cY ?_
     exact⟨c,_,by rw [jL (a7 m) o.length (by omega)];rfl,((aA (aA (aA (aA (aA (bC cl) cl) cl) cl) cl) cl)).symm⟩
   ·rintro _ ⟨s1,LC27,hs1,rfl⟩
    refine cN ?_
    refine eB (fun L=>∃ (s:Nat) (L1:St),(s=c+(a7 m).getD o.length 0+(a7 n).getD o.length 0)∧L=((((((St.mk L1.slot (hp [(50,⟨1,o.map cB,true⟩)])).put (some 0) (bW m)).put (some 1) (bW n)).put (some 5) (.ref 50 1 0 o.length)).put (some 6) (dV s)).put (some 7) (aE o.length))) ?_ ?_
    ·refine aK rfl (fun h38r h38=>?_) (fun h38r h38=>?_)
     ·refine cV ?_
      exact⟨s1+(a7 n).getD o.length 0,_,by rw [hs1],((aA (aA (aA (aA (aA (bC cl) cl) cl) cl) cl) cl)).symm⟩
     ·refine cY ?_
      exact⟨s1,_,by rw [hs1,jL (a7 n) o.length (by omega)];rfl,((aA (aA (aA (aA (aA (bC cl) cl) cl) cl) cl) cl)).symm⟩
    ·rintro _ ⟨s,LC38,hs,rfl⟩
     refine dL ?_
     refine bD rfl (.app (news:=[cB (s % 4294967296)]) rfl rfl rfl rfl rfl (by simp) (.inl rfl) (by decide) Tryz.underlying27 Tryz.underlying27 zU lD rfl aBV (.inl ⟨49,0,_,rfl,by decide,rfl,rfl,by simp,rfl,rfl⟩) (by simp;omega) (by simp;omega) (by decide)) ?_
     refine cP ?_
     refine bR (bI.kill _ 49) ?_
     refine cW ?_
     exact lI (o++[s % 4294967296]) (s/4294967296) ⟨by omega,xO hlo (by omega),by rw [bQ];exact aGQ hc hol hg hs,by rw [bQ];exact aFE hv hs,by rw [bQ];exact aIK hv hol hg⟩ (hm:=by rw [bQ];omega)
  ·rw [ht,decide_eq_false_iff_not] at h21r
   have hN:=aFz hc hlo hol hv hge h21r
   refine cW ?_
   skip
   exact kP [50] rfl rfl (by rw [show bW (m+n)=.list 1 (o.map cB) by rw [←hN];rfl];exact cA cT rfl rfl rfl)
namespace Zq54
theorem dG {p q:Prop} (k:q) (e:p=q:=by simp only [e1,e2,e3,e4,p1,p2,p3,q1,q2,q3,l1,t0,t1,r1,r2,r3,r4,Nat.zero_add,Nat.reduceMul,Nat.reduceAdd,b1,b2,b3,b4,b5,b6,i1,i2,i3,i4,i5,i6,Nat.reduceBEq,fC];exact rfl):p:=e.mpr k
end Zq54
open Zq54 in
theorem vL (m n:Nat) (hla:(a7 m).length≤1099511627776) (hlb:(a7 n).length≤1099511627776) (hle:n≤m):aM Tryz.prog 196 [bW m,bW n] (bW (m-n)):=by
 have hbl:=dE hle
 refine dI Tryz.func196 ?_
 refine dU ?_
 refine dD rfl rfl (.mkE (n:=(a7 m).length) (m:=(a7 m).length) ml ml om om om) ?_
 refine iJ ?_
 refine lp3 (fun(k:Nat) (o:List Nat) (br:Nat) L=>((((((St.mk L.slot (hp [(12,⟨1,o.map cB,true⟩)])).put (some 0) (bW m)).put (some 1) (bW n)).put (some 5) (.ref 12 1 0 (a7 m).length)).put (some 6) (dV br)).put (some 7) (aE k))) (fun k o br=>k≤(a7 m).length∧o.length=(a7 m).length∧br≤1∧fT o∧val (o.take k)+val ((a7 n).take k)=val ((a7 m).take k)+4294967296 ^ k*br) (fun k o br=>(a7 m).length-k) 0 (List.replicate (a7 m).length 0) 0 ⟨Nat.zero_le _,by simp,by omega,gQ _,by simp [val]⟩ ?_
 rintro k o br L1 ⟨hk,hol,hbr,hlo,hv⟩
 have hxk:=bT m k
 have hyk:=bT n k
 refine dU ?_
 refine aK rfl (fun h16r h16=>?_) (fun h16r h16=>?_)
 ·refine mZ ?_
  refine eB (fun L=>∃ (x:Nat) (L1:St),(x=br+(a7 n).getD k 0)∧L=(((((((St.mk L1.slot (hp [(12,⟨1,o.map cB,true⟩)])).put (some 0) (bW m)).put (some 1) (bW n)).put (some 5) (.ref 12 1 0 (a7 m).length)).put (some 6) (dV br)).put (some 7) (aE k)).put (some 8) (dV x))) ?_ ?_
  ·refine aK rfl (fun h23r h23=>?_) (fun h23r h23=>?_)
   ·refine cV ?_
    exact⟨br+(a7 n).getD k 0,_,rfl,((aA (aA (aA (aA (aA (aA (bC cl) cl) cl) cl) cl) cl) cl)).symm⟩
   ·refine cY ?_
    exact⟨br,_,by rw [jL _ k (by omega)];rfl,((aA (aA (aA (aA (aA (aA (bC cl) cl) cl) cl) cl) cl) cl)).symm⟩
  ·rintro _ ⟨x,LC23,hx,rfl⟩
   refine aCj ?_
   refine eB (fun L=>∃ (y2:Nat) (br2:Nat) (L1:St),(((a7 m).getD k 0<x∧y2=(a7 m).getD k 0+4294967296∧br2=1)∨(x≤(a7 m).getD k 0∧y2=(a7 m).getD k 0∧br2=0))∧L=((((((((St.mk L1.slot (hp [(12,⟨1,o.map cB,true⟩)])).put (some 0) (bW m)).put (some 1) (bW n)).put (some 5) (.ref 12 1 0 (a7 m).length)).put (some 6) (dV br2)).put (some 7) (aE k)).put (some 8) (dV x)).put (some 9) (dV y2))) ?_ ?_
   ·refine aK rfl (fun h38r h38=>?_) (fun h38r h38=>?_)
    ·refine cV ?_
     exact⟨(a7 m).getD k 0+4294967296,1,_,.inl ⟨by omega,rfl,rfl⟩,((aA (aA (aA (aA (aA (aA (aA (bC cl) cl) cl) cl) cl) cl) cl) cl)).symm⟩
    ·refine cY ?_
     exact⟨(a7 m).getD k 0,0,_,.inr ⟨by omega,rfl,rfl⟩,((aA (aA (aA (aA (aA (aA (aA (bC cl) cl) cl) cl) cl) cl) cl) cl)).symm⟩
   ·rintro _ ⟨y2,br2,LC38,hf,rfl⟩
    obtain⟨hf1,hf2,hf3,hf4⟩:=aFT (by omega) hlo hbr hxk hyk hv hx hf
    refine mZ ?_
    exact nx3 (k+1) (o.set k ((y2-x) % 4294967296)) br2 ⟨by omega,by simp [hol],hf2,hf3,hf4⟩
 ·obtain rfl:k=(a7 m).length:=by omega
  refine eC ?_
  refine cpf [12] fm1 (jR _ (by first | assumption | exact aX _) (by first | omega | (simp;done) | (simp;omega))) ?_
  refine cO ?_
  have e:=aEg (aX m) hlo hol hbl (by rw [aV,aV];exact hle) hv
  rw [gJ hlo,aV,aV] at e
  have e2:=congrArg val e
  rw [aV,aV] at e2
  rw [←e2]
  exact bM rfl (by first | exact .pure rfl | exact .pure (bA _) | exact .pure (aO _) | exact .pure (aD.pure _) | exact .pure (aG cT _ _) | exact .pure (aG aD _ _))
open H0 in
theorem aGr (m n:Nat) (hla:(a7 m).length≤1099511627776) (hlb:(a7 n).length≤1099511627776):aM Tryz.prog 126 [bW m,bW n] (.tup [fV (aEA m n),iL (aCL m n)]):=by
 refine dI Tryz.func126 ?_
 refine cV ?_
 refine cp b9 (qY _ _ (by omega) (by omega)) ?_
 refine cP ?_
 refine aK rfl (fun h9r h9=>?_) (fun h9r h9=>?_)
 ·have hlt:m<n:=by unfold kD at h9;split at h9;assumption;split at h9<;>omega
  refine eC ?_
  rw [aEA,if_pos hlt,aCL,if_pos hlt]
  exact tE rfl (.nil 1) rfl (.pure rfl)
 ·have hle:n≤m:=by
   rcases Nat.lt_or_ge m n with h | h
   ·rw [hY h] at h9;omega
   ·exact h
  refine dB ?_
  refine cp b9 (vL _ _ (by omega) (by omega) (by omega)) ?_
  refine dR ?_
  rw [rY hle,aCd.2 hle]
  exact tE rfl (.pure (aO _)) rfl (.pure rfl)
theorem aFc {x:Nat} (h:0<x):eG x=eG (x/2 ^ 1)+1:=by
 have:=rM (n:=x) (k:=1)
 rcases Nat.lt_or_ge x 2 with h1 | h1
 ·obtain rfl:x=1:=by omega
  rfl
 ·rw [this (by omega)];omega
namespace Zq24
theorem dG {p q:Prop} (k:q) (e:p=q:=by simp only [e1,e2,e3,e4,p1,p2,p3,q1,q2,q3,l1,t0,t1,r1,r2,r3,r4,Nat.zero_add,Nat.reduceMul,Nat.reduceAdd,b1,b2,b3,b4,b5,b6,i1,i2,i3,i4,i5,i6,Nat.reduceBEq,fC,eij];exact rfl):p:=e.mpr k
end Zq24
open Zq24 in
theorem m9 (m n:Nat) (hla:(a7 m).length≤1099511627776) (hlb:(a7 n).length≤1099511627776):aM Tryz.prog 120 [bW m,bW n] (bW (m*n)):=by
 refine dI Tryz.func120 ?_
 have eij:True:=trivial
 refine cW ?_
 refine dD rfl rfl (.mkE (n:=(a7 m).length+(a7 n).length) (m:=(a7 m).length+(a7 n).length) ml ml om om om) ?_
 refine cN ?_
 refine nD (fun(i:Nat) (o:List Nat) L=>(((((St.mk L.slot (hp [(14,⟨1,o.map cB,true⟩)])).put (some 0) (bW m)).put (some 1) (bW n)).put (some 5) (.ref 14 1 0 ((a7 m).length+(a7 n).length))).put (some 6) (aE i))) (fun i o=>i≤(a7 m).length∧o.length=(a7 m).length+(a7 n).length∧fT o∧val o=val ((a7 m).take i)*val (a7 n)∧∀ p,i+(a7 n).length≤p→o.getD p 0=0) (fun i o=>(a7 m).length-i) 0 (List.replicate ((a7 m).length+(a7 n).length) 0) ⟨Nat.zero_le _,by simp,gQ _,by simp [val,pZ],fun p _=>wF _ _⟩ ?_
 rintro i o L1 ⟨hi,hol,hlo,hv,hz⟩
 have hxi:=bT m i
 refine dU ?_
 refine aK rfl (fun h18r h18=>?_) (fun h18r h18=>?_)
 ·refine mY ?_
  refine lp3 (fun(j:Nat) (o:List Nat) (c:Nat) L=>(((((((St.mk L.slot (hp [(14,⟨1,o.map cB,true⟩)])).put (some 0) (bW m)).put (some 1) (bW n)).put (some 5) (.ref 14 1 0 ((a7 m).length+(a7 n).length))).put (some 6) (aE i)).put (some 7) (dV c)).put (some 8) (aE j))) (fun j o c=>j≤(a7 n).length∧o.length=(a7 m).length+(a7 n).length∧fT o∧c<4294967296∧val o+4294967296 ^ (i+j)*c=val ((a7 m).take i)*val (a7 n)+4294967296 ^ i*((a7 m).getD i 0*val ((a7 n).take j))∧∀ p,i+(a7 n).length≤p→o.getD p 0=0) (fun j o c=>(a7 n).length-j) 0 o 0 ⟨Nat.zero_le _,hol,hlo,by omega,by rw [hv];simp [val],hz⟩ ?_
  rintro j o c L2 ⟨hj,hol,hlo,hc,hv,hz⟩
  have hyj:=bT n j
  have hzj:=cZ hlo (i+j)
  have hs:=aBQ hc hxi hyj hzj
  have eij:((i:Int)+(j:Int)).toNat=i+j:=by omega
  refine dU ?_
  refine aK rfl (fun h24r h24=>?_) (fun h24r h24=>?_)
  ·refine dR ?_
   refine aP 22 (by decide +kernel) ?_
   refine aOr ?_
   exact nx3 (j+1) (o.set (i+j) ((c+((a7 m).getD i 0*(a7 n).getD j 0+o.getD (i+j) 0)) % 4294967296)) ((c+((a7 m).getD i 0*(a7 n).getD j 0+o.getD (i+j) 0))/4294967296) ⟨by omega,by simp [hol],eX hlo _ _ (Nat.mod_lt _ (by omega)),by omega,aDH (by omega) hv rfl,y8 (by omega) hz⟩
  ·obtain rfl:j=(a7 n).length:=by omega
   have eij2:((i:Int)+((a7 n).length:Int)).toNat=i+(a7 n).length:=by omega
   refine aCj ?_
   exact lI (i+1) (o.set (i+(a7 n).length) (c % 4294967296)) ⟨by omega,by simp [hol],eX hlo _ _ (Nat.mod_lt _ (by omega)),by rw [Nat.mod_eq_of_lt hc];exact aDn (by omega) (by omega) (hz _ (Nat.le_refl _)) rfl rfl hv,y5 hz⟩
 ·obtain rfl:i=(a7 m).length:=by omega
  refine eC ?_
  refine cpf [14] fm1 (jR _ (by first | assumption | exact aX _) (by first | omega | (simp;done) | (simp;omega))) ?_
  refine cO ?_
  rw [List.take_length,aV,aV] at hv
  rw [←hv]
  exact bM rfl (by first | exact .pure rfl | exact .pure (bA _) | exact .pure (aO _) | exact .pure (aD.pure _) | exact .pure (aG cT _ _) | exact .pure (aG aD _ _))
open H0 in
theorem aFu (m d:Nat) (hla:(a7 m).length≤549755813888) (hd:d<4294967296):aM Tryz.prog 255 [bW m,oG d] (bW (m*d)):=by
 have hld:(a7 d).length≤1:=eT.2 hd
 refine dI Tryz.func255 ?_
 refine cN ?_
 refine cp dC (wC _ (by omega)) ?_
 refine cp b9 (m9 _ _ (by omega) (by omega)) ?_
 refine cO ?_
 exact bM rfl (by first | exact .pure rfl | exact .pure (bA _) | exact .pure (aO _) | exact .pure (aD.pure _) | exact .pure (aG cT _ _) | exact .pure (aG aD _ _))
namespace Zq52
theorem dG {p q:Prop} (k:q) (e:p=q:=by simp only [e1,e2,e3,e4,p1,p2,p3,q1,q2,q3,l1,t0,t1,r1,r2,r3,r4,Nat.zero_add,Nat.reduceMul,Nat.reduceAdd,b1,b2,b3,b4,b5,b6,i1,i2,i3,i4,i5,i6,Nat.reduceBEq,fC,ej,ek];exact rfl):p:=e.mpr k
end Zq52
open Zq52 in
theorem y9 (m d:Nat) (hla:(a7 m).length≤1099511627776) (hd0:0<d) (hd:d<4294967296):aM Tryz.prog 195 [bW m,oG d] (.tup [bW (m/d),oG (m % d)]):=by
 refine dI Tryz.func195 ?_
 have ej:True:=trivial
 have ek:True:=trivial
 refine cN ?_
 refine dD rfl rfl (.mkE (n:=(a7 m).length) (m:=(a7 m).length) ml ml om om om) ?_
 refine pP ?_
 refine lp3 (fun(k:Nat) (q:List Nat) (r:Nat) L=>((((((St.mk L.slot (hp [(11,⟨1,q.map cB,true⟩)])).put (some 0) (bW m)).put (some 1) (oG d)).put (some 6) (.ref 11 1 0 (a7 m).length)).put (some 7) (dV r)).put (some 8) (iL ((k:Int)-1)))) (fun k q r=>k≤(a7 m).length∧q.length=(a7 m).length∧fT q∧r<d∧val (q.drop k)*d+r=val ((a7 m).drop k)) (fun k q r=>k) ((a7 m).length) (List.replicate (a7 m).length 0) 0 ⟨Nat.le_refl _,by simp,gQ _,hd0,by simp [val]⟩ ?_
 rintro k q r L1 ⟨hk,hql,hlq,hr,hv⟩
 refine dL ?_
 refine aK rfl (fun h16r h16=>?_) (fun h16r h16=>?_)
 ·obtain⟨j,rfl⟩:∃ j,k=j+1:=⟨k-1,by omega⟩
  have ej:(((j+1:Nat):Int)-1).toNat=j:=by omega
  have ek:(((j+1:Nat):Int)-1)=j:=by omega
  have hxj:=bT m j
  refine aCj ?_
  refine aB rfl (.bin rfl rfl (aBp (by omega) (by omega))) ?_
  refine mV ?_
  exact nx3 j (q.set j ((r*4294967296+(a7 m).getD j 0)/d % 4294967296)) ((r*4294967296+(a7 m).getD j 0) % d) ⟨by omega,by simp [hql],eX hlq _ _ (Nat.mod_lt _ (by omega)),Nat.mod_lt _ hd0,by rw [Nat.mod_eq_of_lt (aBi hr hxj)];exact yJ (by omega) hql hv rfl⟩
 ·obtain rfl:k=0:=by omega
  refine eC ?_
  refine cpf [11] fm1 (jR _ (by first | assumption | exact aX _) (by first | omega | (simp;done) | (simp;omega))) ?_
  refine dL ?_
  obtain⟨E1,E2⟩:=yP hd0 hr hlq hv
  rw [gJ hlq] at E1
  have E3:=congrArg val E1
  rw [aV,aV,aV] at E3
  rw [aV] at E2
  rw [←E3,←E2]
  have E4:r % 4294967296=r:=Nat.mod_eq_of_lt (by omega)
  refine tE rfl (.pure (aO _)) rfl ?_
  show Imm _ (oG (r % 4294967296)) (oG r)
  rw [E4]
  exact .pure rfl
namespace Zq50
theorem dG {p q:Prop} (k:q) (e:p=q:=by simp only [e1,e2,e3,e4,p1,p2,p3,q1,q2,q3,l1,t0,t1,r1,r2,r3,r4,Nat.zero_add,Nat.reduceMul,Nat.reduceAdd,b1,b2,b3,b4,b5,b6,i1,i2,i3,i4,i5,i6,Nat.reduceBEq,fC,ej];exact rfl):p:=e.mpr k
end Zq50
open Zq50 in
theorem aG5 (a:List Nat) (hl:a.length≤4611686018427387904):aM Tryz.prog 231 [fV a] (bL (decide (a.length=0∨a.getD (a.length-1) 0≠0))):=by
 unfold fV
 refine dI Tryz.func231 ?_
 have ej:True:=trivial
 refine cV ?_
 refine dJ 6 rfl (fun h6r h6=>?_) (fun h6r h6=>?_)
 ·refine cW ?_
  refine bM ?_ (.pure rfl)
  simp only [e1,e2,e3,e4,p1,p2,p3,q1,q2,q3,Nat.reduceBEq]
  congr 2
  first | (symm;rw [decide_eq_true_iff];omega) | (rw [Bool.eq_iff_iff,bne_iff_ne,decide_eq_true_iff];omega)
 ·have ej:((a.length:Int)-1).toNat=a.length-1:=by omega
  refine cW ?_
  refine bM ?_ (.pure rfl)
  simp only [e1,e2,e3,e4,p1,p2,p3,q1,q2,q3,Nat.reduceBEq]
  congr 2
  first | (symm;rw [decide_eq_true_iff];omega) | (rw [Bool.eq_iff_iff,bne_iff_ne,decide_eq_true_iff];omega)
namespace Zq16
theorem dG {p q:Prop} (k:q) (e:p=q:=by simp only [e1,e2,e3,e4,p1,p2,p3,q1,q2,q3,l1,t0,t1,r1,r2,r3,r4,Nat.zero_add,Nat.reduceMul,Nat.reduceAdd,b1,b2,b3,b4,b5,b6,i1,i2,i3,i4,i5,i6,Nat.reduceBEq,fC,ej];exact rfl):p:=e.mpr k
end Zq16
open Zq16 in
theorem zJ (m:Nat) (hla:(a7 m).length≤1099511627776):aM Tryz.prog 252 [bW m] (iL (eG m)):=by
 refine dI Tryz.func252 ?_
 have ej:True:=trivial
 refine eA ?_
 refine aK rfl (fun h7r h7=>?_) (fun h7r h7=>?_)
 ·have hz:m=0:=eR.1 (List.eq_nil_of_length_eq_zero (by omega))
  subst hz
  refine dL ?_
  exact bM rfl (by first | exact .pure rfl | exact .pure (bA _) | exact .pure (aO _) | exact .pure (aD.pure _) | exact .pure (aG cT _ _) | exact .pure (aG aD _ _))
 ·have hpos:0<(a7 m).length:=by omega
  have ej:(((a7 m).length:Int)-1).toNat=(a7 m).length-1:=by omega
  have hz:=aBx hpos
  have hlim:=bT m ((a7 m).length-1)
  have hb32:eG ((a7 m).getD ((a7 m).length-1) 0)≤32:=iY.2 hlim
  refine aCj ?_
  refine nD (fun(x q:Nat) L=>(((St.mk L.slot (hp [])).put (some 3) (aE q)).put (some 4) (oG x))) (fun x q=>q+eG x=eG m∧x<4294967296∧eG m≤35184372088832) (fun x q=>x) ((a7 m).getD ((a7 m).length-1) 0) (32*((a7 m).length-1)) ⟨hz,hlim,by omega⟩ ?_
  rintro x q L1 ⟨hq,hx,hbm⟩
  refine dL ?_
  refine aK rfl (fun h19r h19=>?_) (fun h19r h19=>?_)
  ·have hx0:0<x:=by omega
   refine eA ?_
   refine aB rfl (.sh rfl rfl (aGX (m:=1) (by decide))) ?_
   refine cP ?_
   exact lI (x/2 ^ 1) (q+1) ⟨by have:=aFc hx0;omega,by omega,hbm⟩
  ·obtain rfl:x=0:=by omega
   have hb0:eG 0=0:=rfl
   obtain rfl:q=eG m:=by omega
   refine cW ?_
   exact bM rfl (by first | exact .pure rfl | exact .pure (bA _) | exact .pure (aO _) | exact .pure (aD.pure _) | exact .pure (aG cT _ _) | exact .pure (aG aD _ _))
end Go.Proofs.YtfpdccbgngdhkaaGreat
namespace Go.Lg
open Go.Proofs.YtfpdccbgngdhkaaGreat in
theorem bI.mv {L:St} {t b sz off len:Nat} {blk:Blk} (d:Nat) (hb0:b≠0) (hd0:d≠0) (hbd:b≠d) (h:L.slot t=.ref b sz off len) (hb:L.heap b=some blk) (hd:L.heap d=none) :
  bI L (((L.kill b).setB d (some ⟨blk.sz,bB b blk.vals,blk.mt⟩)).put (some t) (.ref d sz off len)):=by
 rintro n W X Z0 a w ⟨hdf,hsz,μ,Z,hc,hr⟩
 have hμd:=iX hc hd
 have hk:=hc.kill b hb0
 have hkr:=nF b hr
 let μ':Nat→Option Nat:=fun c=>if c=d then μ b else iI μ b c
 have hm:∀ c id,iI μ b c=some id→μ' c=some id:=fun c id hh=>by
  have:c≠d:=by
   rintro rfl
   unfold iI at hh;split at hh
   ·cases hh
   ·rw [hμd] at hh;cases hh
  simp only [μ',if_neg this];exact hh
 have hinv:∀ c id,μ' c=some id→(c=d∧μ b=some id)∨(c≠d∧iI μ b c=some id):=fun c id hh=>by
  simp only [μ'] at hh;split at hh
  ·rename_i e;exact .inl ⟨e,hh⟩
  ·rename_i e;exact .inr ⟨e,hh⟩
 have hdr:∀ c id,iI μ b c=some id→c≠b∧μ c=some id:=fun c id h=>by
  unfold iI at h;split at h
  ·cases h
  ·exact⟨by assumption,h⟩
 have hbb:∀ id,iI μ b b=some id→False:=fun id hh=>(hdr b id hh).1 rfl
 have hmono:∀ {bk:Blk} {id:Nat},kI Z (iI μ b) w bk id→kI Z μ' w bk id:=fun hh=>kI.mono (fun _ h=>h) hm (Frame.refl _ _ _) rfl hh
 refine⟨hdf,hsz,μ',Z,?_,fun s=>?_⟩
 ·rw [eE]
  refine⟨hc.keep,hc.zone,hc.zsup,hc.zsub,?_,?_,?_,hc.xlt,?_,?_,?_,?_⟩
  ·intro c c' id h1 h2
   rcases hinv c id h1 with⟨e1,g1⟩ | ⟨e1,g1⟩<;>rcases hinv c' id h2 with⟨e2,g2⟩ | ⟨e2,g2⟩
   ·rw [e1,e2]
   ·have:=hdr c' id g2;exact absurd (hc.inj _ _ id this.2 g1) this.1
   ·have:=hdr c id g1;exact absurd (hc.inj _ _ id this.2 g2) this.1
   ·exact hc.inj c c' id (hdr c id g1).2 (hdr c' id g2).2
  ·intro c id h1
   rcases hinv c id h1 with⟨e1,g1⟩ | ⟨e1,g1⟩
   ·exact hc.own b id g1
   ·exact hc.own c id (hdr c id g1).2
  ·intro c id h1 hx
   rcases hinv c id h1 with⟨e1,g1⟩ | ⟨e1,g1⟩
   ·exact absurd (hc.x0 b id g1 hx) hb0
   ·exact hc.x0 c id (hdr c id g1).2 hx
  ·intro id hx
   have h0:=hk.x1 id hx
   exact hm 0 id h0
  ·intro c id bk h1 hbk hmt
   rcases hinv c id h1 with⟨e1,g1⟩ | ⟨e1,g1⟩
   ·subst e1
    simp only [St.setB,if_true,Option.some.injEq] at hbk
    subst hbk
    exact hc.mutz b id blk g1 hb hmt
   ·simp only [St.setB,if_neg e1] at hbk
    exact hk.mutz c id bk g1 hbk hmt
  ·intro c id bk h1 hbk hmt
   rcases hinv c id h1 with⟨e1,g1⟩ | ⟨e1,g1⟩
   ·subst e1
    simp only [St.setB,if_true,Option.some.injEq] at hbk
    subst hbk
    exact hc.frz b id blk g1 hb hmt
   ·simp only [St.setB,if_neg e1] at hbk
    exact hk.frz c id bk g1 hbk hmt
  ·intro c id h1
   rcases hinv c id h1 with⟨e1,g1⟩ | ⟨e1,g1⟩
   ·subst e1
    obtain⟨bk,q1,cc,T,part,rest,q2,q3,q4⟩:=hc.heap b id g1
    rw [hb] at q1;cases q1
    refine⟨⟨blk.sz,bB b blk.vals,blk.mt⟩,by simp [St.setB],hmono ⟨cc,T,part,rest,q2,q3,?_⟩⟩
    exact aQ.kill (fun _ h=>h) (fun k id hk h=>by simp [iI,hk,h]) (Frame.refl _ _ _) _ _ q4
   ·obtain⟨bk,q1,q2⟩:=hk.heap c id g1
    exact⟨bk,by simp only [St.setB,if_neg e1];exact q1,hmono q2⟩
 ·rw [cQ]
  split
  ·rename_i hst
   subst hst
   have e:=hr s
   rw [h] at e
   refine⟨by simp [LV.isAgg],fun hh=>?_⟩
   have e2:=e.2 rfl
   simp only [cL] at e2 ⊢
   rcases e2 with e2 | ⟨id,cap,c,T,fz,q1,q2,q3⟩
   ·exact .inl e2
   ·exact .inr ⟨id,cap,c,T,fz,q1,by simp only [μ',if_true];exact q2,q3⟩
  ·exact bZ.mono (fun _ h=>h) hm (Frame.refl _ _ _) (hkr s)
end Go.Lg
namespace Go.Proofs.YtfpdccbgngdhkaaGreat
open Go.Lg
theorem aH4 {s:Nat} (h:s<32):dW .quo .i64 (s:Nat) 32=some (.int .i64 0):=by
 have:((s:Int)).tdiv 32=0:=by rw [Int.tdiv_eq_ediv_of_nonneg (by omega)];omega
 simp [dW,this,IntWalk.i64_in]
theorem aJN {s:Nat} (h:s<32):dW .rem .i64 (s:Nat) 32=some (.int .i64 (s:Nat)):=by
 have:((s:Int)).tmod 32=s:=by rw [Int.tmod_eq_emod_of_nonneg (by omega)];omega
 simp [dW,this]
theorem aLC {m s c x:Nat} {o:List Nat} (hv:val o+4294967296 ^ o.length*c=val ((a7 m).take o.length)*2 ^ s) (hx:x=(a7 m).getD o.length 0*2 ^ s+c) :
  val (o++[x % 4294967296])+4294967296 ^ (o.length+1)*(x/4294967296)=val ((a7 m).take (o.length+1))*2 ^ s:=by
 rw [wL,cU,Nat.pow_succ,Nat.add_mul,Nat.mul_assoc (4294967296 ^ o.length) ((a7 m).getD o.length 0)]
 have h1:=jT (4294967296 ^ o.length) x
 have h2:4294967296 ^ o.length*x=4294967296 ^ o.length*((a7 m).getD o.length 0*2 ^ s)+4294967296 ^ o.length*c:=by rw [hx,Nat.mul_add]
 omega
theorem aLl {m s c:Nat} {o:List Nat} (hv:val o+4294967296 ^ o.length*c=val ((a7 m).take o.length)*2 ^ s) (ho:o.length=(a7 m).length) (hc:c<4294967296):val (o++[c % 4294967296])=m*2 ^ s:=by
 rw [wL,Nat.mod_eq_of_lt hc,hv,pI (by omega)]
theorem aNh {s x y:Nat} (hs:s<32) (hx:x<4294967296):(y*4294967296+x)/2 ^ s % 4294967296=x/2 ^ s+y % 2 ^ s*2 ^ (32-s):=by
 have hd:4294967296=2 ^ (32-s)*2 ^ s:=by rw [←Nat.pow_add,show 32-s+s=32 by omega]
 have hp:0<2 ^ s:=Nat.pow_pos (by omega)
 obtain⟨_,h2⟩:=aAI (z:=y) (show s≤32 by omega) hx
 have e1:(y*4294967296+x)/2 ^ s=y*2 ^ (32-s)+x/2 ^ s:=by
  rw [show y*4294967296+x=x+(y*2 ^ (32-s))*2 ^ s by rw [Nat.mul_assoc,←hd];omega,Nat.add_mul_div_right _ _ hp];omega
 have e2:y*2 ^ (32-s)=y % 2 ^ s*2 ^ (32-s)+4294967296*(y/2 ^ s):=by
  have e3:y*2 ^ (32-s)=(2 ^ s*(y/2 ^ s)+y % 2 ^ s)*2 ^ (32-s):=by rw [Nat.div_add_mod]
  rw [e3,Nat.add_mul,hd,Nat.mul_right_comm,Nat.mul_comm (2 ^ s) (2 ^ (32-s))];omega
 rw [e1,e2,show y % 2 ^ s*2 ^ (32-s)+4294967296*(y/2 ^ s)+x/2 ^ s=(y % 2 ^ s*2 ^ (32-s)+x/2 ^ s)+4294967296*(y/2 ^ s) by omega,Nat.add_mul_mod_self_left,Nat.mod_eq_of_lt h2]
 omega
theorem aLB {i s:Nat} {w o:List Nat} (hi:i<w.length) (hs:s<32) (hv:2 ^ s*val (w.take i)=val (o.take i)+4294967296 ^ i*(o.getD i 0 % 2 ^ s)) :
  2 ^ s*val ((w.set i (o.getD i 0/2 ^ s+o.getD (i+1) 0 % 2 ^ s*2 ^ (32-s))).take (i+1))=val (o.take (i+1))+4294967296 ^ (i+1)*(o.getD (i+1) 0 % 2 ^ s):=by
 have hd:4294967296=2 ^ s*2 ^ (32-s):=by rw [←Nat.pow_add,show s+(32-s)=32 by omega]
 rw [gS _ _ _ hi,Nat.mul_add,hv,cU,Nat.pow_succ]
 have h1:=Nat.div_add_mod (o.getD i 0) (2 ^ s)
 generalize o.getD i 0/2 ^ s=q at *
 generalize o.getD i 0 % 2 ^ s=t at *
 generalize o.getD (i+1) 0 % 2 ^ s=u at *
 generalize 4294967296 ^ i=p at *
 rw [←h1]
 have e1:2 ^ s*(p*(q+u*2 ^ (32-s)))=p*(2 ^ s*q)+p*4294967296*u:=by
  rw [hd,Nat.mul_add,Nat.mul_add]
  simp only [Nat.mul_assoc,Nat.mul_left_comm,Nat.mul_comm]
 rw [e1,Nat.mul_add]
 omega
theorem aK9 {r s:Nat} {o:List Nat} (hol:o.length=(a7 (r*2 ^ s)).length) (hv:2 ^ s*val (o.take (a7 (r*2 ^ s)).length)=val ((a7 (r*2 ^ s)).take (a7 (r*2 ^ s)).length)+4294967296 ^ (a7 (r*2 ^ s)).length*((a7 (r*2 ^ s)).getD (a7 (r*2 ^ s)).length 0 % 2 ^ s)):val o=r:=by
 rw [jL _ _ (Nat.le_refl _),Nat.zero_mod,Nat.mul_zero,Nat.add_zero,List.take_length,←hol,List.take_length,aV,Nat.mul_comm r] at hv
 exact Nat.eq_of_mul_eq_mul_left (Nat.pow_pos (by omega)) hv
theorem aGu (k:Nat):((List.replicate k 0).map cB).take k=(List.replicate k 0).map cB:=by rw [List.take_of_length_le (by simp)]
theorem aE2 {m:Nat} (k:Nat) (h:0<(a7 m).length):a7 (m*4294967296 ^ k)=List.replicate k 0++a7 m:=by
 have hv:val (List.replicate k 0++a7 m)=m*4294967296 ^ k:=by rw [mA,pZ,aV];simp [Nat.mul_comm]
 refine(aFG (v8 (gQ k) (aX m)) hv (.inr ?_)).symm
 have:=u6 h
 simp only [List.length_append,List.length_replicate]
 rw [show k+(a7 m).length-1=(a7 m).length-1+k by omega,Nat.pow_add]
 exact Nat.mul_le_mul_right _ this
namespace Zq59
theorem dG {p q:Prop} (k:q) (e:p=q:=by simp only [e1,e2,e3,e4,p1,p2,p3,q1,q2,q3,l1,t0,t1,r1,r2,r3,r4,Nat.zero_add,Nat.reduceMul,Nat.reduceAdd,b1,b2,b3,b4,b5,b6,i1,i2,i3,i4,i5,i6,Nat.reduceBEq,fC,List.take_zero,List.take_nil,List.nil_append,aC cT,LV.kill,bJ,cI,bQ,List.length_cons,List.length_nil];exact rfl):p:=e.mpr k
end Zq59
open Zq59 in
theorem aJ9 (m s:Nat) (hla:(a7 m).length≤549755813888) (hs:s<32):aM Tryz.prog 253 [bW m,aE s] (bW (m*2 ^ s)):=by
 obtain⟨hp1,hp2⟩:=aAY hs
 refine dI Tryz.func253 ?_
 refine eC ?_
 refine aB rfl (.bin rfl rfl (aH4 hs)) ?_
 refine dD rfl rfl (.mkE (n:=0) (m:=0) ml ml om om om) ?_
 refine iJ ?_
 refine eZ (bI.mv (t:=5) (b:=10) 31 (by decide) (by decide) (by decide) rfl rfl rfl) ?_
 refine nD (fun(o:List Nat) (c:Nat) L=>((((((St.mk L.slot (hp [(31,⟨1,o.map cB,true⟩)])).put (some 0) (bW m)).put (some 1) (aE s)).put (some 5) (.ref 31 1 0 o.length)).put (some 6) (dV c)).put (some 7) (aE o.length))) (fun o c=>o.length≤(a7 m).length∧c<2 ^ s∧fT o∧val o+4294967296 ^ o.length*c=val ((a7 m).take o.length)*2 ^ s) (fun o c=>(a7 m).length-o.length) ([]) 0 ⟨Nat.zero_le _,hp2,(by intro x hx;cases hx),by simp [val]⟩ ?_
 rintro o c L1 ⟨hol,hc,hlo,hv⟩
 have hxk:=bT m o.length
 have hsx:=aGj hxk hp1
 refine dU ?_
 refine aK rfl (fun h14r h14=>?_) (fun h14r h14=>?_)
 ·refine eA ?_
  refine aB rfl (.bin rfl rfl (aJN hs)) ?_
  refine aB rfl (.sh rfl rfl (aM9 (by omega) (by(try simp only [t1,fC]);omega))) ?_
  refine aB rfl (.bin rfl rfl (orV hc (by(try simp only [t1,fC]);omega))) ?_
  refine dU ?_
  refine bD rfl (.app (news:=[cB (((a7 m).getD o.length 0*2 ^ s+c) % 4294967296)]) rfl rfl rfl rfl rfl (by simp) (.inl rfl) (by decide) Tryz.underlying27 Tryz.underlying27 zU lD rfl aBV (.inl ⟨30,0,_,rfl,by decide,rfl,rfl,by simp,rfl,rfl⟩) (by simp;omega) (by simp;omega) (by decide)) ?_
  refine cP ?_
  refine bR (bI.kill _ 30) ?_
  refine cW ?_
  exact lI (o++[((a7 m).getD o.length 0*2 ^ s+c) % 4294967296]) (((a7 m).getD o.length 0*2 ^ s+c)/4294967296) ⟨by rw [bQ];omega,aAV hxk hc,xO hlo (by omega),by rw [bQ];exact aLC hv rfl⟩ (hm:=by rw [bQ];omega)
 ·have hoe:o.length=(a7 m).length:=by omega
  have hV:=aLl hv hoe (show c<4294967296 by omega)
  refine cV ?_
  refine bD rfl (.app (news:=[cB (c % 4294967296)]) rfl rfl rfl rfl rfl (by simp) (.inr rfl) (by decide) Tryz.underlying27 Tryz.underlying27 zU lD rfl aBV (.inl ⟨37,0,_,rfl,by decide,rfl,rfl,by simp,rfl,rfl⟩) (by simp;omega) (by simp;omega) (by decide)) ?_
  simp only [aC cT,bJ,cI,bQ,List.length_cons,List.length_nil]
  refine cpf [38] fm1 (jR (o++[c % 4294967296]) (xO hlo (by omega)) (by rw [bQ];omega)) ?_
  refine cO ?_
  rw [←hV]
  exact bM rfl (by first | exact .pure rfl | exact .pure (bA _) | exact .pure (aO _) | exact .pure (aD.pure _) | exact .pure (aG cT _ _) | exact .pure (aG aD _ _))
namespace Zq53
theorem dG {p q:Prop} (k:q) (e:p=q:=by simp only [e1,e2,e3,e4,p1,p2,p3,q1,q2,q3,l1,t0,t1,r1,r2,r3,r4,Nat.zero_add,Nat.reduceMul,Nat.reduceAdd,b1,b2,b3,b4,b5,b6,i1,i2,i3,i4,i5,i6,Nat.reduceBEq,fC,List.drop_zero,ei1,eyy];exact rfl):p:=e.mpr k
end Zq53
open Zq53 in
theorem aIj (r s:Nat) (hla:(a7 (r*2 ^ s)).length≤549755813888) (hs:s<32):aM Tryz.prog 256 [bW (r*2 ^ s),aE s] (bW r):=by
 obtain⟨hp1,hp2⟩:=aAY hs
 have hlow:=aBh (l:=a7 (r*2 ^ s)) (r:=r) (show s≤32 by omega) (aV _)
 refine dI Tryz.func256 ?_
 have ei1:True:=trivial
 have eyy:True:=trivial
 refine dU ?_
 refine aB rfl (.bin rfl rfl (aH4 hs)) ?_
 refine dR ?_
 refine aK rfl (fun h12r h12=>?_) (fun h12r h12=>?_)
 ·have hm:r*2 ^ s=0:=eR.1 (List.eq_nil_of_length_eq_zero (by omega))
  have hr0:r=0:=by rcases Nat.mul_eq_zero.1 hm with h | h<;>omega
  subst hr0
  refine dL ?_
  exact bM rfl (.nil 1)
 ·refine dB ?_
  refine aB rfl (.bin rfl rfl (aH4 hs)) ?_
  refine aB rfl (.sliceLl (a:=0) cT rfl Tryz.underlying27 lD rfl om) ?_
  refine dL ?_
  refine dD rfl rfl (.mkE (n:=(a7 (r*2 ^ s)).length) (m:=(a7 (r*2 ^ s)).length) ml ml om om om) ?_
  refine cN ?_
  refine nD (fun(i:Nat) (o:List Nat) L=>(((((St.mk L.slot (hp [(19,⟨1,o.map cB,true⟩)])).put (some 0) (bW (r*2 ^ s))).put (some 1) (aE s)).put (some 5) (.ref 19 1 0 (a7 (r*2 ^ s)).length)).put (some 6) (aE i))) (fun i o=>i≤(a7 (r*2 ^ s)).length∧o.length=(a7 (r*2 ^ s)).length∧fT o∧2 ^ s*val (o.take i)=val ((a7 (r*2 ^ s)).take i)+4294967296 ^ i*((a7 (r*2 ^ s)).getD i 0 % 2 ^ s)) (fun i o=>(a7 (r*2 ^ s)).length-i) 0 (List.replicate (a7 (r*2 ^ s)).length 0) ⟨Nat.zero_le _,by simp,gQ _,by rw [hlow];simp [val]⟩ ?_
  rintro i o L1 ⟨hi,hol,hlo,hv⟩
  have ei1:((i:Int)+1).toNat=i+1:=by omega
  have hxi:=bT (r*2 ^ s) i
  have hyi:=bT (r*2 ^ s) (i+1)
  obtain⟨hh1,hh2⟩:=aAI (z:=(a7 (r*2 ^ s)).getD (i+1) 0) (show s≤32 by omega) hxi
  refine dU ?_
  refine aK rfl (fun h23r h23=>?_) (fun h23r h23=>?_)
  ·refine aCj ?_
   refine eB (fun L=>∃ (y:Nat) (L1:St),(y=(a7 (r*2 ^ s)).getD (i+1) 0*4294967296+(a7 (r*2 ^ s)).getD i 0)∧L=((((((St.mk L1.slot (hp [(19,⟨1,o.map cB,true⟩)])).put (some 0) (bW (r*2 ^ s))).put (some 1) (aE s)).put (some 5) (.ref 19 1 0 (a7 (r*2 ^ s)).length)).put (some 6) (aE i)).put (some 7) (dV y))) ?_ ?_
   ·refine aK rfl (fun h35r h35=>?_) (fun h35r h35=>?_)
    ·refine eC ?_
     refine aB rfl (.sh rfl rfl (aBk (by(try simp only [t1,fC,ei1]);omega))) ?_
     refine aB rfl (.bin rfl rfl (orC (by(try simp only [t1,fC]);omega) (by(try simp only [t1,fC,ei1]);omega))) ?_
     refine cP ?_
     exact⟨(a7 (r*2 ^ s)).getD (i+1) 0*4294967296+(a7 (r*2 ^ s)).getD i 0,_,rfl,((aA (aA (aA (aA (aA (bC cl) cl) cl) cl) cl) cl)).symm⟩
    ·refine cY ?_
     exact⟨(a7 (r*2 ^ s)).getD i 0,_,by rw [jL _ (i+1) (by omega),Nat.zero_mul,Nat.zero_add],((aA (aA (aA (aA (aA (bC cl) cl) cl) cl) cl) cl)).symm⟩
   ·rintro _ ⟨y,LC35,hy,rfl⟩
    have eyy:y/2 ^ s % 4294967296=((a7 (r*2 ^ s)).getD i 0/2 ^ s+(a7 (r*2 ^ s)).getD (i+1) 0 % 2 ^ s*2 ^ (32-s)):=by rw [hy];exact aNh hs hxi
    refine dB ?_
    refine aB rfl (.bin rfl rfl (aJN hs)) ?_
    refine aB rfl (.sh rfl rfl (aGX (m:=s) (by show s≤64;omega))) ?_
    refine cW ?_
    exact lI (i+1) (o.set i ((a7 (r*2 ^ s)).getD i 0/2 ^ s+(a7 (r*2 ^ s)).getD (i+1) 0 % 2 ^ s*2 ^ (32-s))) ⟨by omega,by simp [hol],eX hlo _ _ (by omega),aLB (by omega) hs hv⟩
  ·obtain rfl:i=(a7 (r*2 ^ s)).length:=by omega
   refine eC ?_
   refine cpf [19] fm1 (jR _ (by first | assumption | exact aX _) (by first | omega | (simp;done) | (simp;omega))) ?_
   refine cO ?_
   have hV:=aK9 hol hv
   rw [←hV]
   exact bM rfl (by first | exact .pure rfl | exact .pure (bA _) | exact .pure (aO _) | exact .pure (aD.pure _) | exact .pure (aG cT _ _) | exact .pure (aG aD _ _))
namespace Zq57
theorem dG {p q:Prop} (k:q) (e:p=q:=by simp only [e1,e2,e3,e4,p1,p2,p3,q1,q2,q3,l1,t0,t1,r1,r2,r3,r4,Nat.zero_add,Nat.reduceMul,Nat.reduceAdd,b1,b2,b3,b4,b5,b6,i1,i2,i3,i4,i5,i6,Nat.reduceBEq,List.take_zero,List.take_nil,List.nil_append,aC cT,LV.kill,bJ,cI,bQ,List.length_cons,List.length_nil,aGu,←List.map_append];exact rfl):p:=e.mpr k
end Zq57
open Zq57 in
theorem v9 (m k:Nat) (hla:(a7 m).length≤1099511627776) (hk:k≤1099511627776):aM Tryz.prog 254 [bW m,aE k] (bW (m*4294967296 ^ k)):=by
 refine dI Tryz.func254 ?_
 refine eA ?_
 refine aK rfl (fun h7r h7=>?_) (fun h7r h7=>?_)
 ·have hm:m=0:=eR.1 (List.eq_nil_of_length_eq_zero (by omega))
  subst hm
  refine dL ?_
  rw [Nat.zero_mul]
  exact bM rfl (.nil 1)
 ·have hE:=aE2 k (show 0<(a7 m).length by omega)
  refine dR ?_
  refine dD rfl rfl (.mkE (n:=k) (m:=k) ml ml om om om) ?_
  refine bE ?_
  refine bD rfl (.app (news:=(a7 m).map cB) rfl rfl rfl rfl rfl (by simp) (.inr rfl) (by decide) Tryz.underlying27 Tryz.underlying27 zU lD rfl aBV (.inr (.inl rfl)) (by simp;omega) (by simp;omega) (by decide)) ?_
  refine cO ?_
  rw [show bW (m*4294967296 ^ k)=.list 1 ((List.replicate k 0++a7 m).map cB) by rw [←hE];rfl]
  exact kP [11] rfl rfl (cA cT rfl rfl (by simp))
theorem xX (l:List Nat) (k:Nat):val l=val (l.take k)+4294967296 ^ k*val (l.drop k):=by
 rcases Nat.le_total k l.length with h | h
 ·exact f9 l k h
 ·rw [List.take_of_length_le h,List.drop_of_length_le h];simp [val]
theorem sO (l:List Nat) (k:Nat):val (l.drop k)=l.getD k 0+4294967296*val (l.drop (k+1)):=by
 rcases Nat.lt_or_ge k l.length with h | h
 ·exact fQ h
 ·rw [List.drop_of_length_le h,List.drop_of_length_le (by omega),jL _ _ h];rfl
theorem iG {a:Nat} (h:1≤a) (h2:a≤9223372036854775807):dW .sub .i64 (a:Nat) 1=some (.int .i64 ((a-1:Nat):Int)):=by
 rw [iK (by omega) (by omega)];congr 2;omega
theorem aEz {n:Nat} (h:0<(a7 n).length):(a7 n).drop ((a7 n).length-1)=a7 ((a7 n).getD ((a7 n).length-1) 0):=by
 have h1:=kB (qG n) h
 have h2:=bT n ((a7 n).length-1)
 rw [kA (by omega) h2]
 rw [List.drop_eq_getElem_cons (by omega),List.drop_of_length_le (by omega),List.getD_eq_getElem?_getD,List.getElem?_eq_getElem (by omega)]
 rfl
theorem aKO {R V n j:Nat} (hn:(a7 V).length=n+1) (hlt:R<V*4294967296 ^ (j+1)) (hv:0<(a7 V).getD n 0) :
  R/4294967296 ^ j/V≤min (((a7 R).getD (j+(n+1)) 0*4294967296+(a7 R).getD (j+n) 0)/(a7 V).getD n 0) 4294967295:=by
 have hV0:0<V:=Nat.pos_of_ne_zero (fun h=>by rw [h,i9] at hn;cases hn)
 have hVn:V<4294967296 ^ (n+1):=dP (by omega)
 have hz:=uI (ul:=a7 R) (n:=n+1) (j:=j) hVn (by rw [aV];exact hlt)
 have hq2:R/4294967296 ^ j/V<4294967296:=by
  rw [Nat.div_lt_iff_lt_mul hV0,Nat.div_lt_iff_lt_mul (kW j),Nat.mul_comm 4294967296,Nat.mul_assoc,←Nat.pow_succ']
  exact hlt
 refine Nat.le_min.2 ⟨?_,by omega⟩
 rw [Nat.le_div_iff_mul_le hv]
 have hVs:=f9 (a7 V) n (by omega)
 have hVd:val ((a7 V).drop n)=(a7 V).getD n 0:=by
  rw [fQ (by omega),List.drop_of_length_le (by omega)];simp [val]
 rw [hVd,aV] at hVs
 have hR:R/4294967296 ^ (j+n)=(a7 R).getD (j+(n+1)) 0*4294967296+(a7 R).getD (j+n) 0:=by
  have e:=xX (a7 R) (j+n)
  rw [aV] at e
  have hl:val ((a7 R).take (j+n))<4294967296 ^ (j+n):=fR (i8 (aX R) _) (by simp;omega)
  have hd:val ((a7 R).drop (j+n))=(a7 R).getD (j+(n+1)) 0*4294967296+(a7 R).getD (j+n) 0:=by
   have z:val ((a7 R).drop (j+n+2))=0:=kH (fun p=>by rw [nL];exact hz _ (by omega))
   rw [sO,sO,z,show j+n+1=j+(n+1) by omega];omega
  rw [←hd]
  conv=>lhs;rw [e]
  rw [Nat.add_mul_div_left _ _ (kW _),Nat.div_eq_of_lt hl,Nat.zero_add]
 rw [←hR,Nat.pow_add,←Nat.div_div_eq_div_mul,Nat.le_div_iff_mul_le (kW n),Nat.mul_assoc]
 refine Nat.le_trans (Nat.mul_le_mul_left _ ?_) (Nat.div_mul_le_self (R/4294967296 ^ j) V)
 rw [Nat.mul_comm]
 omega
theorem aNC {R V j d:Nat} (hV:0<V) (h:R<V*d*4294967296 ^ j):R/4294967296 ^ j/V<d:=by
 rw [Nat.div_lt_iff_lt_mul hV,Nat.div_lt_iff_lt_mul (kW j),Nat.mul_comm d V];exact h
theorem aMP {R V j d:Nat} (hV:0<V) (h:V*d*4294967296 ^ j≤R):d≤R/4294967296 ^ j/V:=by
 rw [Nat.le_div_iff_mul_le hV,Nat.le_div_iff_mul_le (kW j),Nat.mul_comm d V];exact h
theorem aJu {R V j d A:Nat} {ql:List Nat} (hV:0<V) (hd:d=R/4294967296 ^ j/V) (hp:V*d*4294967296 ^ j≤R) (hj:j<ql.length) (hv:R+V*4294967296 ^ (j+1)*val (ql.drop (j+1))=A) :
  R-V*d*4294967296 ^ j+V*4294967296 ^ j*val ((ql.set j d).drop j)=A∧R-V*d*4294967296 ^ j<V*4294967296 ^ j:=by
 have:=aDr (ul:=a7 (R-V*d*4294967296 ^ j)) (ul0:=a7 R) (ql:=ql) (x:=d) (j:=j) (U0:=A) hV (by rw [aV];exact hd) (by rw [aV,aV,Nat.mul_comm d V,Nat.mul_comm (4294967296 ^ j)];omega) hj (by rw [aV];exact hv)
 rw [aV] at this
 exact this
theorem aGA {m n L K s:Nat} (hL:(a7 (n*2 ^ s)).length=L) (h0:0<L) (hK:K+L=(a7 (m*2 ^ s)).length+1):m*2 ^ s<n*2 ^ s*4294967296 ^ K:=by
 have h1:m*2 ^ s<4294967296 ^ (a7 (m*2 ^ s)).length:=dP (Nat.le_refl _)
 have h2:=u6 (m:=n*2 ^ s) (by omega)
 refine Nat.lt_of_lt_of_le h1 ?_
 rw [show (a7 (m*2 ^ s)).length=(L-1)+K by omega,Nat.pow_add,←hL]
 exact Nat.mul_le_mul_right _ h2
theorem aII {m s k:Nat} (h:(a7 m).length≤k) (hs:s<32):(a7 (m*2 ^ s)).length≤k+1 :=
 cE h (eT.2 (by have:=aAY hs;omega))
theorem aA0 (k:Nat):(a7 (4294967296 ^ k)).length≤k+1:=fD (Nat.pow_lt_pow_right (by omega) (by omega))
theorem aKF {V j d:Nat} (h:1≤d):V*d*4294967296 ^ j-V*4294967296 ^ j=V*(d-1)*4294967296 ^ j:=by
 obtain⟨e,rfl⟩:∃ e,d=e+1:=⟨d-1,by omega⟩
 rw [Nat.add_sub_cancel,Nat.mul_add,Nat.mul_one,Nat.add_mul];omega
theorem aKP {V j d:Nat} (h:1≤d):V*4294967296 ^ j≤V*d*4294967296 ^ j:=by
 refine Nat.mul_le_mul_right _ ?_
 have:=Nat.mul_le_mul_left V h
 omega
namespace Zq21
theorem dG {p q:Prop} (k:q) (e:p=q:=by simp only [e1,e2,e3,e4,p1,p2,p3,q1,q2,q3,l1,t0,t1,r1,r2,r3,r4,Nat.zero_add,Nat.reduceMul,Nat.reduceAdd,b1,b2,b3,b4,b5,b6,i1,i2,i3,i4,i5,i6,Nat.reduceBEq,fC,aV,eln,edz,esm,esn,eLn,edm,ek,ej1,ej2,eL1,ed,tz0,edd,es];exact rfl):p:=e.mpr k
end Zq21
open Zq21 in
theorem aCn (m n:Nat) (hla:(a7 m).length≤68719476736) (hlb:(a7 n).length≤68719476736) (hn0:0<n):aM Tryz.prog 194 [bW m,bW n] (.tup [bW (m/n),bW (m % n),iL 0]):=by
 refine dI Tryz.func194 ?_
 have eln:True:=trivial
 have edz:True:=trivial
 have esm:True:=trivial
 have esn:True:=trivial
 have eLn:True:=trivial
 have edm:True:=trivial
 have ek:True:=trivial
 have ej1:True:=trivial
 have ej2:True:=trivial
 have eL1:True:=trivial
 have ed:True:=trivial
 have edd:True:=trivial
 have es:True:=trivial
 refine iJ ?_
 refine aK rfl (fun h21r h21=>?_) (fun h21r h21=>?_)
 ·have hnz:=eR.1 (List.eq_nil_of_length_eq_zero (show (a7 n).length=0 by omega))
  omega
 ·refine dL ?_
  refine cp b9 (qY _ _ (by omega) (by omega)) ?_
  refine cP ?_
  refine aK rfl (fun h25r h25=>?_) (fun h25r h25=>?_)
  ·have hlt:m<n:=by unfold kD at h25;split at h25;assumption;split at h25<;>omega
   refine cP ?_
   refine cp dC (jR _ (by first | assumption | exact aX _) (by omega)) ?_
   refine dL ?_
   rw [Nat.div_eq_of_lt hlt,Nat.mod_eq_of_lt hlt]
   exact qR [] rfl rfl (.nil 1) rfl (.pure (aO _)) rfl (.pure rfl)
  ·have hge:n≤m:=by
    rcases Nat.lt_or_ge m n with h | h
    ·rw [hY h] at h25;omega
    ·exact h
   have hmono:=dE hge
   refine dB ?_
   refine cp dC (rL _ (by omega)) ?_
   refine cW ?_
   refine aK rfl (fun h33r h33=>?_) (fun h33r h33=>?_)
   ·have hm64:m<18446744073709551616:=by simpa using h33r
    have esm:(if m<18446744073709551616 then m else 0)=m:=if_pos hm64
    have esn:(if n<18446744073709551616 then n else 0)=n:=if_pos (by omega)
    have hq64:m/n≤m:=Nat.div_le_self _ _
    have hr64:=Nat.mod_lt m hn0
    refine cP ?_
    refine cp dC (rL _ (by omega)) ?_
    refine eC ?_
    refine aP 11 (by decide +kernel) ?_
    refine cY ?_
    refine aB rfl (.bin rfl rfl (aBp (by omega) (by omega))) ?_
    refine cp dC (wC _ (by omega)) ?_
    refine cY ?_
    refine aB rfl (.bin rfl rfl (aKN (by omega))) ?_
    refine cp dC (wC _ (by omega)) ?_
    refine dL ?_
    exact qR [] rfl rfl (.pure (aO _)) rfl (.pure (aO _)) rfl (.pure rfl)
   ·refine cN ?_
    refine aK rfl (fun h49r h49=>?_) (fun h49r h49=>?_)
    ·have hn1:=lR (n:=n) (by omega)
     have eLn:=hn1.1
     have hn2:=eT.1 (show (a7 n).length≤1 by omega)
     have hr1:=Nat.mod_lt m hn0
     refine dB ?_
     simp only [tz0,fC,eLn]
     refine cp b9 (y9 m n (by omega) hn0 hn2) ?_
     refine cW ?_
     refine cp dC (wC _ (by omega)) ?_
     refine dL ?_
     exact qR [] rfl rfl (.pure (aO _)) rfl (.pure (aO _)) rfl (.pure rfl)
    ·obtain⟨ln,hL⟩:∃ ln,(a7 n).length=ln+1:=⟨(a7 n).length-1,by omega⟩
     have eL1:(a7 n).length-1=ln:=by omega
     have hdl:=aEz (n:=n) (by omega)
     rw [eL1] at hdl
     have htop:=kB (qG n) (show 0<(a7 n).length by omega)
     rw [eL1] at htop
     have htl:=bT n ln
     have htb:eG ((a7 n).getD ln 0)≤32:=iY.2 htl
     have htbl:(a7 ((a7 n).getD ln 0)).length≤1:=eT.2 htl
     obtain⟨s,hs⟩:∃ s,s=32-eG ((a7 n).getD ln 0):=⟨_,rfl⟩
     have es:(32:Int)-((eG ((a7 n).getD ln 0):Nat):Int)=((s:Nat):Int):=by rw [aNp htb,hs]
     obtain⟨hs32,enV,hVge,hVlt⟩:=aEi (n:=ln) hL hs
     have hV0:0<n*2 ^ s:=Nat.mul_pos hn0 (Nat.pow_pos (by omega))
     have hvt:0<(a7 (n*2 ^ s)).getD ln 0:=by have:=aKw enV hVge;omega
     have hUl:=aII hla hs32
     have hUV:(a7 (n*2 ^ s)).length≤(a7 (m*2 ^ s)).length:=dE (Nat.mul_le_mul_right _ hge)
     obtain⟨K,hK⟩:∃ K,K+ln=(a7 (m*2 ^ s)).length:=⟨(a7 (m*2 ^ s)).length-ln,by omega⟩
     have hst:=aGA (m:=m) (n:=n) (s:=s) (K:=K) enV (by omega) (by omega)
     refine dL ?_
     refine aB rfl (.bin rfl rfl (iG (by omega) (by omega))) ?_
     refine aB rfl (.sliceLl (a:=(a7 n).length-1) cT rfl Tryz.underlying27 lD rfl om) ?_
     rw [eL1,hdl]
     refine cp dC (zJ _ (by omega)) ?_
     refine eC ?_
     refine cp b9 (aJ9 _ _ (by omega) hs32) ?_
     refine cY ?_
     refine cp b9 (aJ9 _ _ (by omega) hs32) ?_
     refine pP ?_
     refine dD rfl rfl (.mkE (n:=K) (m:=K) ml ml om om om) ?_
     refine gC ?_
     refine lp3 (fun(k R:Nat) (ql:List Nat) L=>(((((((St.mk L.slot (hp [(82,⟨1,ql.map cB,true⟩)])).put (some 1) (bW (n*2 ^ s))).put (some 4) (.ref 82 1 0 K)).put (some 13) (aE s)).put (some 14) (aE (ln+1))).put (some 5) (bW R)).put (some 15) (iL ((k:Int)-1)))) (fun k R ql=>k≤K∧ql.length=K∧fT ql∧R≤m*2 ^ s∧R+(n*2 ^ s)*4294967296 ^ k*val (ql.drop k)=m*2 ^ s∧R<(n*2 ^ s)*4294967296 ^ k) (fun k R ql=>k) K (m*2 ^ s) (List.replicate K 0) ⟨Nat.le_refl _,by simp,gQ _,Nat.le_refl _,by rw [List.drop_of_length_le (by simp)];simp [val],hst⟩ ?_
     rintro k R ql L1 ⟨hk,hql,hlq,hRU,hv,hlt⟩
     refine dL ?_
     refine aK rfl (fun h88r h88=>?_) (fun h88r h88=>?_)
     ·obtain⟨j,rfl⟩:∃ j,k=j+1:=⟨k-1,by omega⟩
      have ek:(((j+1:Nat):Int)-1)=(j:Int):=by omega
      have ej1:((j:Int)+((ln+1:Nat):Int)).toNat=j+(ln+1):=by omega
      have ej2:((j:Int)+((ln+1:Nat):Int)-1).toNat=j+ln:=by omega
      have hRl:=dE hRU
      have eln:(((ln+1:Nat):Int)-1).toNat=ln:=by omega
      have hr1:=bT R (j+(ln+1))
      have hr2:=bT R (j+ln)
      have hest:=aKO (R:=R) (n:=ln) (j:=j) enV hlt hvt
      have hvl:=bT (n*2 ^ s) ln
      refine mV ?_
      refine eB (fun L=>∃ (hi:Nat) (L1:St),(hi=(a7 R).getD (j+(ln+1)) 0)∧L=((((((((St.mk L1.slot (hp [(82,⟨1,ql.map cB,true⟩)])).put (some 1) (bW (n*2 ^ s))).put (some 4) (.ref 82 1 0 K)).put (some 13) (aE s)).put (some 14) (aE (ln+1))).put (some 5) (bW R)).put (some 15) (iL (((j+1:Nat):Int)-1))).put (some 16) (dV hi))) ?_ ?_
      ·refine aK rfl (fun h96r h96=>?_) (fun h96r h96=>?_)
       ·refine cV ?_
        exact⟨(a7 R).getD (j+(ln+1)) 0,_,rfl,((aA (aA (aA (aA (aA (aA (aA (bC cl) cl) cl) cl) cl) cl) cl) cl)).symm⟩
       ·refine cY ?_
        exact⟨0,_,(jL _ _ (by omega)).symm,((aA (aA (aA (aA (aA (aA (aA (bC cl) cl) cl) cl) cl) cl) cl) cl)).symm⟩
      ·rintro _ ⟨hi,LC96,hhi,rfl⟩
       refine eA ?_
       refine eB (fun L=>∃ (top:Nat) (L1:St),(top=((a7 R).getD (j+(ln+1)) 0*4294967296+(a7 R).getD (j+ln) 0))∧L=((((((((St.mk L1.slot (hp [(82,⟨1,ql.map cB,true⟩)])).put (some 1) (bW (n*2 ^ s))).put (some 4) (.ref 82 1 0 K)).put (some 13) (aE s)).put (some 14) (aE (ln+1))).put (some 5) (bW R)).put (some 15) (iL (((j+1:Nat):Int)-1))).put (some 16) (dV top))) ?_ ?_
       ·refine aK rfl (fun h110r h110=>?_) (fun h110r h110=>?_)
        ·refine cY ?_
         refine aB rfl (.sh rfl rfl (aBk (by omega))) ?_
         refine eC ?_
         refine aB rfl (.bin rfl rfl (orU (by simp only [t1,fC,ej2];omega) (by omega))) ?_
         refine cP ?_
         exact⟨hi*4294967296+(a7 R).getD (j+ln) 0,_,by rw [hhi],((aA (aA (aA (aA (aA (aA (aA (bC cl) cl) cl) cl) cl) cl) cl) cl)).symm⟩
        ·refine cY ?_
         refine aB rfl (.sh rfl rfl (aBk (by omega))) ?_
         refine cP ?_
         exact⟨hi*4294967296,_,by rw [hhi,jL (a7 R) (j+ln) (by omega)];exact(Nat.add_zero _).symm,((aA (aA (aA (aA (aA (aA (aA (bC cl) cl) cl) cl) cl) cl) cl) cl)).symm⟩
       ·rintro _ ⟨top,LC110,htp,rfl⟩
        have hdle:top/(a7 (n*2 ^ s)).getD ln 0≤top:=Nat.div_le_self _ _
        have edm:(if (4294967295:Int)<((top/(a7 (n*2 ^ s)).getD ln 0:Nat):Int) then(4294967295:Int) else((top/(a7 (n*2 ^ s)).getD ln 0:Nat):Int))=((min (top/(a7 (n*2 ^ s)).getD ln 0) 4294967295:Nat):Int):=by split<;>omega
        subst htp
        obtain⟨d0,hd0⟩:∃ d0,d0=min (((a7 R).getD (j+(ln+1)) 0*4294967296+(a7 R).getD (j+ln) 0)/(a7 (n*2 ^ s)).getD ln 0) 4294967295:=⟨_,rfl⟩
        rw [←hd0] at hest edm
        have hdz:d0<4294967296:=by rw [hd0];exact Nat.lt_of_le_of_lt (Nat.min_le_right _ _) (by decide)
        clear hd0
        have edz:d0 % 4294967296=d0:=Nat.mod_eq_of_lt hdz
        have hlz:=cE (Nat.le_of_eq enV) (eT.2 hdz)
        refine cN ?_
        refine aB rfl (.bin rfl rfl (aBp (by simp only [t1,fC,eln];omega) (by omega))) ?_
        refine dU ?_
        refine cp b9 (aFu _ _ (by omega) (by omega)) ?_
        refine bE ?_
        refine cp b9 (v9 _ _ (by rw [edz];omega) (by omega)) ?_
        refine dR ?_
        refine lX (fun(d:Nat) L=>(((((((((St.mk L.slot (hp [(82,⟨1,ql.map cB,true⟩)])).put (some 1) (bW (n*2 ^ s))).put (some 4) (.ref 82 1 0 K)).put (some 13) (aE s)).put (some 14) (aE (ln+1))).put (some 5) (bW R)).put (some 15) (iL (((j+1:Nat):Int)-1))).put (some 17) (dV d)).put (some 18) (bW ((n*2 ^ s)*d*4294967296 ^ j)))) (fun d=>R/4294967296 ^ j/(n*2 ^ s)≤d∧d<4294967296) (fun d=>d) d0 ⟨hest,hdz⟩ ?_
        rintro d L2 ⟨hdq,hdB⟩
        have hl1:=cE (Nat.le_of_eq enV) (eT.2 hdB)
        have hl2:=cE hl1 (aA0 j)
        have hl3:=cE (Nat.le_of_eq enV) (aA0 j)
        refine dR ?_
        refine cp b9 (qY _ _ (by omega) (by omega)) ?_
        refine cP ?_
        refine aK rfl (fun h142r h142=>?_) (fun h142r h142=>?_)
        ·have hgt:R<n*2 ^ s*d*4294967296 ^ j:=by unfold kD at h142;split at h142;omega;split at h142;assumption;omega
         have hdq:=aNC hV0 hgt
         have hd0:1≤d:=Nat.lt_of_le_of_lt (Nat.zero_le _) hdq
         have hle3:=aKP (V:=n*2 ^ s) (j:=j) hd0
         have edd:=aKF (V:=n*2 ^ s) (j:=j) hd0
         refine gC ?_
         refine cp b9 (v9 _ _ (by omega) (by omega)) ?_
         refine cp b9 (vL _ _ (by omega) (by omega) hle3) ?_
         refine cO ?_
         exact kE (d-1) ⟨by omega,by omega⟩
        ·have hpl:n*2 ^ s*d*4294967296 ^ j≤R:=by
          rcases Nat.lt_or_ge R (n*2 ^ s*d*4294967296 ^ j) with h | h
          ·rw [iZ h] at h142;omega
          ·exact h
         have hdE:=Nat.le_antisymm (aMP hV0 hpl) hdq
         obtain⟨hn1,hn2⟩:=aJu hV0 hdE hpl (show j<ql.length by omega) hv
         have ed:d % 4294967296=d:=Nat.mod_eq_of_lt hdB
         refine pP ?_
         refine cp b9 (vL _ _ (by omega) (by omega) hpl) ?_
         refine cN ?_
         exact nx3 j (R-(n*2 ^ s)*d*4294967296 ^ j) (ql.set j d) ⟨by omega,by simp [hql],eX hlq _ _ hdB,Nat.le_trans (Nat.sub_le _ _) hRU,hn1,hn2⟩
     ·obtain rfl:k=0:=by omega
      rw [List.drop_zero,Nat.pow_zero,Nat.mul_one] at hv
      rw [Nat.pow_zero,Nat.mul_one] at hlt
      have hRl:=dE hRU
      obtain⟨hqf,hRf⟩:=aGz (ul:=a7 R) (ql:=ql) (A:=m) (s:=s) hn0 (by rw [aV];exact hv) (by rw [aV];exact hlt)
      rw [aV] at hRf
      refine eC ?_
      refine cpf [82] fm1 (jR _ (by first | assumption | exact aX _) (by omega)) ?_
      refine cY ?_
      rw [hRf]
      refine cp b9 (aIj (m % n) s (by rw [←hRf];omega) hs32) ?_
      refine dB ?_
      rw [←hqf]
      exact qR [] rfl rfl (.pure (aO _)) rfl (.pure (aO _)) rfl (.pure rfl)
namespace Zq22
theorem dG {p q:Prop} (k:q) (e:p=q:=by simp only [e1,e2,e3,e4,p1,p2,p3,q1,q2,q3,l1,t0,t1,r1,r2,r3,r4,Nat.zero_add,Nat.reduceMul,Nat.reduceAdd,b1,b2,b3,b4,b5,b6,i1,i2,i3,i4,i5,i6,Nat.reduceBEq,fC,aV,esm,esn];exact rfl):p:=e.mpr k
end Zq22
open Zq22 in
theorem aGd (m n:Nat) (hla:(a7 m).length≤68719476736) (hlb:(a7 n).length≤68719476736):aM Tryz.prog 193 [bW m,bW n] (bW (Nat.gcd m n)):=by
 refine dI Tryz.func193 ?_
 have esm:True:=trivial
 have esn:True:=trivial
 refine eC ?_
 refine cp dC (jR _ (aX _) (by omega)) ?_
 refine bE ?_
 refine cp dC (jR _ (aX _) (by omega)) ?_
 refine dB ?_
 refine nD (fun(x y:Nat) L=>(((St.mk L.slot (hp [])).put (some 0) (bW x)).put (some 1) (bW y))) (fun x y=>Nat.gcd x y=Nat.gcd m n∧(a7 x).length≤68719476736∧(a7 y).length≤68719476736) (fun x y=>y) m n ⟨rfl,hla,hlb⟩ ?_
 rintro x y L1 ⟨hg,hx,hy⟩
 refine eC ?_
 refine aK rfl (fun h18r h18=>?_) (fun h18r h18=>?_)
 ·have hy0:0<y:=Nat.pos_of_ne_zero (fun h=>by rw [h,i9] at h18;simp at h18)
  refine dB ?_
  refine cp dC (rL _ (by omega)) ?_
  refine cN ?_
  refine cp dC (rL _ (by omega)) ?_
  refine dU ?_
  refine eB (fun L=>∃ (t:Bool) (L1:St),(t=decide (x<18446744073709551616∧y<18446744073709551616))∧L=((((((St.mk L1.slot (hp [])).put (some 0) (bW x)).put (some 1) (bW y)).put (some 5) (dV (if x<18446744073709551616 then x else 0))).put (some 7) (dV (if y<18446744073709551616 then y else 0))).put (some 32) (bL t))) ?_ ?_
  ·refine cP ?_
   refine dJ 30 rfl (fun h30r h30=>?_) (fun h30r h30=>?_)
   ·refine cO ?_
    exact⟨decide (y<18446744073709551616),_,by rw [decide_eq_decide];omega,((aA (aA (aA (aA (aA (bC cl) cl) cl) cl) cl) cl)).symm⟩
   ·refine cO ?_
    exact⟨false,_,by symm;rw [decide_eq_false_iff_not];omega,((aA (aA (aA (aA (aA (bC cl) cl) cl) cl) cl) cl)).symm⟩
  ·rintro _ ⟨t,LR5,ht,rfl⟩
   refine bE ?_
   refine aK rfl (fun h32r h32=>?_) (fun h32r h32=>?_)
   ·rw [ht,decide_eq_true_iff] at h32r
    obtain⟨hx64,hy64⟩:=h32r
    have esm:(if x<18446744073709551616 then x else 0)=x:=if_pos hx64
    have esn:(if y<18446744073709551616 then y else 0)=y:=if_pos hy64
    refine cY ?_
    refine nD (fun(p q:Nat) L=>(((St.mk L.slot (hp [])).put (some 5) (dV p)).put (some 7) (dV q))) (fun p q=>Nat.gcd p q=Nat.gcd m n∧p<18446744073709551616∧q<18446744073709551616) (fun p q=>q) x y ⟨hg,hx64,hy64⟩ ?_
    rintro p q L2 ⟨hg3,hm,hn⟩
    refine dL ?_
    refine aK rfl (fun h34r h34=>?_) (fun h34r h34=>?_)
    ·refine cP ?_
     refine aP 6 (by decide +kernel) ?_
     refine dU ?_
     exact lI q (p % q) ⟨by rw [Nat.gcd_comm,←Nat.gcd_rec,Nat.gcd_comm];exact hg3,hn,by have:=Nat.mod_lt p (show q > 0 by omega);omega⟩ (hm:=Nat.mod_lt _ (by omega))
    ·obtain rfl:q=0:=by omega
     refine eC ?_
     refine cp dC (wC _ (by omega)) ?_
     refine dU ?_
     rw [←hg3,Nat.gcd_zero_right]
     exact bM rfl (by first | exact .pure rfl | exact .pure (bA _) | exact .pure (aO _) | exact .pure (aD.pure _) | exact .pure (aG cT _ _) | exact .pure (aG aD _ _))
   ·refine dB ?_
    refine cp b9 (aCn _ _ (by omega) (by omega) (by first | assumption | omega)) ?_
    refine nY ?_
    exact lI y (x % y) ⟨by rw [Nat.gcd_comm,←Nat.gcd_rec,Nat.gcd_comm];exact hg,hy,Nat.le_trans (dE (Nat.le_of_lt (Nat.mod_lt x hy0))) hy⟩ (hm:=Nat.mod_lt _ hy0)
 ·have hy0:y=0:=eR.1 (List.eq_nil_of_length_eq_zero (by omega))
  refine cW ?_
  subst hy0
  rw [←hg,Nat.gcd_zero_right]
  exact bM rfl (by first | exact .pure rfl | exact .pure (bA _) | exact .pure (aO _) | exact .pure (aD.pure _) | exact .pure (aG cT _ _) | exact .pure (aG aD _ _))
end Go.Proofs.YtfpdccbgngdhkaaGreat
end
