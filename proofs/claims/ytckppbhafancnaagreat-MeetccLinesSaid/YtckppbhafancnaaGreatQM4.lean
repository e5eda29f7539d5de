/- Texts LgTy, N1, N2, N3, N4, N5, N6, N7, N8, N9, N10, N11, R1, R2, R3, R4 of this proof, joined. -/
import Derived.Test.YtckppbhafancnaaGreatQM3
import Derived.Test.YtckppbhafancnaaGreatChecked
set_option linter.unusedVariables false
set_option linter.unusedSimpArgs false
section
set_option linter.unusedVariables false
set_option linter.unusedSimpArgs false
set_option maxHeartbeats 8000000
set_option maxRecDepth 100000
namespace Go.Proofs.YtckppbhafancnaaGreat
open Go.Lg
theorem fol:Tryz.prog.follows .mixedOrders=true:=by kernel_rfl
instance:UN Tryz.prog 2 (.int .i64):=⟨Tryz.underlying2⟩
theorem T2:bT Tryz.prog 2 1 false:=⟨by kernel_rfl,_,Tryz.underlying2,rfl⟩
theorem B2:bJ Tryz.prog 2 8:=⟨Tryz.t2,by kernel_rfl,rfl⟩
theorem Z2:bA Tryz.prog 2 (.v (.int .i64 0)):=⟨Tryz.t2,_,by kernel_rfl,rfl,rfl,fun _ _ _=>cF rfl⟩
instance:TI Tryz.prog 2 1 false:=⟨T2⟩
instance:BI Tryz.prog 2 8:=⟨B2⟩
instance:ZI Tryz.prog 2 (.v (.int .i64 0)):=⟨Z2⟩
instance:UN Tryz.prog 3 (.int .i64):=⟨Tryz.underlying3⟩
theorem T3:bT Tryz.prog 3 1 false:=⟨by kernel_rfl,_,Tryz.underlying3,rfl⟩
theorem B3:bJ Tryz.prog 3 8:=⟨Tryz.t3,by kernel_rfl,rfl⟩
theorem Z3:bA Tryz.prog 3 (.v (.int .i64 0)):=⟨Tryz.t3,_,by kernel_rfl,rfl,rfl,fun _ _ _=>cF rfl⟩
instance:TI Tryz.prog 3 1 false:=⟨T3⟩
instance:BI Tryz.prog 3 8:=⟨B3⟩
instance:ZI Tryz.prog 3 (.v (.int .i64 0)):=⟨Z3⟩
instance:UN Tryz.prog 4 .bool:=⟨Tryz.underlying4⟩
theorem T4:bT Tryz.prog 4 1 false:=⟨by kernel_rfl,_,Tryz.underlying4,rfl⟩
theorem B4:bJ Tryz.prog 4 1:=⟨Tryz.t4,by kernel_rfl,rfl⟩
theorem Z4:bA Tryz.prog 4 (.v (.bool false)):=⟨Tryz.t4,_,by kernel_rfl,rfl,rfl,fun _ _ _=>cF rfl⟩
instance:TI Tryz.prog 4 1 false:=⟨T4⟩
instance:BI Tryz.prog 4 1:=⟨B4⟩
instance:ZI Tryz.prog 4 (.v (.bool false)):=⟨Z4⟩
instance:UN Tryz.prog 5 (.int .u8):=⟨Tryz.underlying5⟩
theorem T5:bT Tryz.prog 5 1 false:=⟨by kernel_rfl,_,Tryz.underlying5,rfl⟩
theorem B5:bJ Tryz.prog 5 1:=⟨Tryz.t5,by kernel_rfl,rfl⟩
theorem Z5:bA Tryz.prog 5 (.v (.int .u8 0)):=⟨Tryz.t5,_,by kernel_rfl,rfl,rfl,fun _ _ _=>cF rfl⟩
instance:TI Tryz.prog 5 1 false:=⟨T5⟩
instance:BI Tryz.prog 5 1:=⟨B5⟩
instance:ZI Tryz.prog 5 (.v (.int .u8 0)):=⟨Z5⟩
instance:UN Tryz.prog 9 .string:=⟨Tryz.underlying9⟩
theorem T9:bT Tryz.prog 9 1 false:=⟨by kernel_rfl,_,Tryz.underlying9,rfl⟩
theorem B9:bJ Tryz.prog 9 16:=⟨Tryz.t9,by kernel_rfl,rfl⟩
theorem Z9:bA Tryz.prog 9 (.v (.string ⟨#[]⟩)):=⟨Tryz.t9,_,by kernel_rfl,rfl,rfl,fun _ _ _=>cF rfl⟩
instance:TI Tryz.prog 9 1 false:=⟨T9⟩
instance:BI Tryz.prog 9 16:=⟨B9⟩
instance:ZI Tryz.prog 9 (.v (.string ⟨#[]⟩)):=⟨Z9⟩
instance:UN Tryz.prog 12 (.int .u64):=⟨Tryz.underlying12⟩
theorem T12:bT Tryz.prog 12 1 false:=⟨by kernel_rfl,_,Tryz.underlying12,rfl⟩
theorem B12:bJ Tryz.prog 12 8:=⟨Tryz.t12,by kernel_rfl,rfl⟩
theorem Z12:bA Tryz.prog 12 (.v (.int .u64 0)):=⟨Tryz.t12,_,by kernel_rfl,rfl,rfl,fun _ _ _=>cF rfl⟩
instance:TI Tryz.prog 12 1 false:=⟨T12⟩
instance:BI Tryz.prog 12 8:=⟨B12⟩
instance:ZI Tryz.prog 12 (.v (.int .u64 0)):=⟨Z12⟩
theorem T15:bT Tryz.prog 15 1 false:=⟨by kernel_rfl,_,Tryz.underlying15,rfl⟩
theorem B15:bJ Tryz.prog 15 8:=⟨Tryz.t15,by kernel_rfl,rfl⟩
theorem Z15:bA Tryz.prog 15 (.v (.pointer none)):=⟨Tryz.t15,_,by kernel_rfl,rfl,rfl,fun _ _ _=>cF rfl⟩
instance:TI Tryz.prog 15 1 false:=⟨T15⟩
instance:BI Tryz.prog 15 8:=⟨B15⟩
instance:ZI Tryz.prog 15 (.v (.pointer none)):=⟨Z15⟩
theorem T16:bT Tryz.prog 16 1 false:=⟨by kernel_rfl,_,Tryz.underlying16,rfl⟩
theorem B16:bJ Tryz.prog 16 8:=⟨Tryz.t16,by kernel_rfl,rfl⟩
theorem Z16:bA Tryz.prog 16 (.v (.pointer none)):=⟨Tryz.t16,_,by kernel_rfl,rfl,rfl,fun _ _ _=>cF rfl⟩
instance:TI Tryz.prog 16 1 false:=⟨T16⟩
instance:BI Tryz.prog 16 8:=⟨B16⟩
instance:ZI Tryz.prog 16 (.v (.pointer none)):=⟨Z16⟩
theorem T17:bT Tryz.prog 17 1 false:=⟨by kernel_rfl,_,Tryz.underlying17,rfl⟩
theorem B17:bJ Tryz.prog 17 8:=⟨Tryz.t17,by kernel_rfl,rfl⟩
theorem Z17:bA Tryz.prog 17 (.v (.pointer none)):=⟨Tryz.t17,_,by kernel_rfl,rfl,rfl,fun _ _ _=>cF rfl⟩
instance:TI Tryz.prog 17 1 false:=⟨T17⟩
instance:BI Tryz.prog 17 8:=⟨B17⟩
instance:ZI Tryz.prog 17 (.v (.pointer none)):=⟨Z17⟩
theorem T19:bT Tryz.prog 19 1 true:=⟨by kernel_rfl,_,Tryz.underlying19,rfl⟩
theorem B19:bJ Tryz.prog 19 8:=⟨Tryz.t19,by kernel_rfl,rfl⟩
theorem Z19:bA Tryz.prog 19 (.agg [.v (.pointer none)]):=⟨Tryz.t19,_,by kernel_rfl,rfl,rfl,fun _ _ _=>bN (aS (c1:=[.pointer none]) rfl (cF rfl) (cA))⟩
instance:TI Tryz.prog 19 1 true:=⟨T19⟩
instance:BI Tryz.prog 19 8:=⟨B19⟩
instance:ZI Tryz.prog 19 (.agg [.v (.pointer none)]):=⟨Z19⟩
theorem aNi:cT Tryz.prog 19 [(1,false)]:=⟨_,Tryz.underlying19,⟨rfl,T17,trivial⟩,by decide⟩
instance:SI Tryz.prog 19 [(1,false)]:=⟨aNi⟩
instance:UN Tryz.prog 21 (.int .i32):=⟨Tryz.underlying21⟩
theorem T21:bT Tryz.prog 21 1 false:=⟨by kernel_rfl,_,Tryz.underlying21,rfl⟩
theorem B21:bJ Tryz.prog 21 4:=⟨Tryz.t21,by kernel_rfl,rfl⟩
theorem Z21:bA Tryz.prog 21 (.v (.int .i32 0)):=⟨Tryz.t21,_,by kernel_rfl,rfl,rfl,fun _ _ _=>cF rfl⟩
instance:TI Tryz.prog 21 1 false:=⟨T21⟩
instance:BI Tryz.prog 21 4:=⟨B21⟩
instance:ZI Tryz.prog 21 (.v (.int .i32 0)):=⟨Z21⟩
instance:UN Tryz.prog 22 (.slice 3):=⟨Tryz.underlying22⟩
theorem T22:bT Tryz.prog 22 1 false:=⟨by kernel_rfl,_,Tryz.underlying22,rfl⟩
theorem B22:bJ Tryz.prog 22 24:=⟨Tryz.t22,by kernel_rfl,rfl⟩
theorem Z22:bA Tryz.prog 22 (.v (.slice none 0 0)):=⟨Tryz.t22,_,by kernel_rfl,rfl,rfl,fun _ _ _=>cF rfl⟩
instance:TI Tryz.prog 22 1 false:=⟨T22⟩
instance:BI Tryz.prog 22 24:=⟨B22⟩
instance:ZI Tryz.prog 22 (.v (.slice none 0 0)):=⟨Z22⟩
instance:UN Tryz.prog 25 (.slice 31):=⟨Tryz.underlying25⟩
theorem T25:bT Tryz.prog 25 1 false:=⟨by kernel_rfl,_,Tryz.underlying25,rfl⟩
theorem B25:bJ Tryz.prog 25 24:=⟨Tryz.t25,by kernel_rfl,rfl⟩
theorem Z25:bA Tryz.prog 25 (.v (.slice none 0 0)):=⟨Tryz.t25,_,by kernel_rfl,rfl,rfl,fun _ _ _=>cF rfl⟩
instance:TI Tryz.prog 25 1 false:=⟨T25⟩
instance:BI Tryz.prog 25 24:=⟨B25⟩
instance:ZI Tryz.prog 25 (.v (.slice none 0 0)):=⟨Z25⟩
instance:UN Tryz.prog 26 (.slice 42):=⟨Tryz.underlying26⟩
theorem T26:bT Tryz.prog 26 1 false:=⟨by kernel_rfl,_,Tryz.underlying26,rfl⟩
theorem B26:bJ Tryz.prog 26 24:=⟨Tryz.t26,by kernel_rfl,rfl⟩
theorem Z26:bA Tryz.prog 26 (.v (.slice none 0 0)):=⟨Tryz.t26,_,by kernel_rfl,rfl,rfl,fun _ _ _=>cF rfl⟩
instance:TI Tryz.prog 26 1 false:=⟨T26⟩
instance:BI Tryz.prog 26 24:=⟨B26⟩
instance:ZI Tryz.prog 26 (.v (.slice none 0 0)):=⟨Z26⟩
theorem T28:bT Tryz.prog 28 3 true:=⟨by kernel_rfl,_,Tryz.underlying28,rfl⟩
theorem B28:bJ Tryz.prog 28 56:=⟨Tryz.t28,by kernel_rfl,rfl⟩
theorem Z28:bA Tryz.prog 28 (.agg [.v (.int .i64 0),.v (.slice none 0 0),.v (.slice none 0 0)]):=⟨Tryz.t28,_,by kernel_rfl,rfl,rfl,fun _ _ _=>bN (aS (c1:=[.int .i64 0]) rfl (cF rfl) (aS (c1:=[.slice none 0 0]) rfl (cF rfl) (aS (c1:=[.slice none 0 0]) rfl (cF rfl) (cA))))⟩
instance:TI Tryz.prog 28 3 true:=⟨T28⟩
instance:BI Tryz.prog 28 56:=⟨B28⟩
instance:ZI Tryz.prog 28 (.agg [.v (.int .i64 0),.v (.slice none 0 0),.v (.slice none 0 0)]):=⟨Z28⟩
theorem aMK:cT Tryz.prog 28 [(1,false),(1,false),(1,false)]:=⟨_,Tryz.underlying28,⟨rfl,T3,⟨rfl,T25,⟨rfl,T26,trivial⟩⟩⟩,by decide⟩
instance:SI Tryz.prog 28 [(1,false),(1,false),(1,false)]:=⟨aMK⟩
instance:UN Tryz.prog 29 (.slice 202):=⟨Tryz.underlying29⟩
theorem T29:bT Tryz.prog 29 1 false:=⟨by kernel_rfl,_,Tryz.underlying29,rfl⟩
theorem B29:bJ Tryz.prog 29 24:=⟨Tryz.t29,by kernel_rfl,rfl⟩
theorem Z29:bA Tryz.prog 29 (.list 1 []):=⟨Tryz.t29,_,by kernel_rfl,rfl,rfl,fun _ _ _=>nA 1⟩
instance:TI Tryz.prog 29 1 false:=⟨T29⟩
instance:BI Tryz.prog 29 24:=⟨B29⟩
instance:ZI Tryz.prog 29 (.list 1 []):=⟨Z29⟩
theorem dD:bT Tryz.prog 31 3 true:=⟨by kernel_rfl,_,Tryz.underlying31,rfl⟩
theorem B31:bJ Tryz.prog 31 56:=⟨Tryz.t31,by kernel_rfl,rfl⟩
theorem Z31:bA Tryz.prog 31 (ratL 0):=⟨Tryz.t31,_,by kernel_rfl,rfl,aD.pure 0,fun _ _ _=>bE⟩
theorem i9:bA Tryz.prog 31 (.agg [.v (.bool false),.list 1 [],.list 1 []]):=fD ▸ Z31
instance:TI Tryz.prog 31 3 true:=⟨dD⟩
instance:BI Tryz.prog 31 56:=⟨B31⟩
instance:ZI Tryz.prog 31 (.agg [.v (.bool false),.list 1 [],.list 1 []]):=⟨i9⟩
theorem sP:cT Tryz.prog 31 [(1,false),(1,false),(1,false)]:=⟨_,Tryz.underlying31,⟨rfl,T4,⟨rfl,T29,⟨rfl,T29,trivial⟩⟩⟩,by decide⟩
instance:SI Tryz.prog 31 [(1,false),(1,false),(1,false)]:=⟨sP⟩
theorem T35:bT Tryz.prog 35 5 true:=⟨by kernel_rfl,_,Tryz.underlying35,rfl⟩
theorem B35:bJ Tryz.prog 35 72:=⟨Tryz.t35,by kernel_rfl,rfl⟩
theorem Z35:bA Tryz.prog 35 (.agg [.v (.int .i64 0),.v (.int .i64 0),ratL 0]):=⟨Tryz.t35,_,by kernel_rfl,rfl,by simp [LV.pure,aV,aD.pure],fun _ _ _=>bN (aS (c1:=[.int .i64 0]) rfl (cF rfl) (aS (c1:=[.int .i64 0]) rfl (cF rfl) (aS (c1:=[.bool false,.slice none 0 0,.slice none 0 0]) (by simp [LV.csize,aL,aD.csize]) (bE) (cA))))⟩
instance:TI Tryz.prog 35 5 true:=⟨T35⟩
instance:BI Tryz.prog 35 72:=⟨B35⟩
instance:ZI Tryz.prog 35 (.agg [.v (.int .i64 0),.v (.int .i64 0),ratL 0]):=⟨Z35⟩
theorem aIS:cT Tryz.prog 35 [(1,false),(1,false),(3,true)]:=⟨_,Tryz.underlying35,⟨rfl,T3,⟨rfl,T3,⟨rfl,dD,trivial⟩⟩⟩,by decide⟩
instance:SI Tryz.prog 35 [(1,false),(1,false),(3,true)]:=⟨aIS⟩
instance:UN Tryz.prog 39 (.array 3 31):=⟨Tryz.underlying39⟩
theorem T39:bT Tryz.prog 39 9 true:=⟨by kernel_rfl,_,Tryz.underlying39,rfl⟩
theorem B39:bJ Tryz.prog 39 168:=⟨Tryz.t39,by kernel_rfl,rfl⟩
theorem Z39:bA Tryz.prog 39 (.agg [ratL 0,ratL 0,ratL 0]):=⟨Tryz.t39,_,by kernel_rfl,rfl,by simp [LV.pure,aV,aD.pure],fun _ _ _=>bN (aS (c1:=[.bool false,.slice none 0 0,.slice none 0 0]) (by simp [LV.csize,aL,aD.csize]) (bE) (aS (c1:=[.bool false,.slice none 0 0,.slice none 0 0]) (by simp [LV.csize,aL,aD.csize]) (bE) (aS (c1:=[.bool false,.slice none 0 0,.slice none 0 0]) (by simp [LV.csize,aL,aD.csize]) (bE) (cA))))⟩
instance:TI Tryz.prog 39 9 true:=⟨T39⟩
instance:BI Tryz.prog 39 168:=⟨B39⟩
instance:ZI Tryz.prog 39 (.agg [ratL 0,ratL 0,ratL 0]):=⟨Z39⟩
instance:UN Tryz.prog 40 (.array 3 31):=⟨Tryz.underlying40⟩
theorem kS:bT Tryz.prog 40 9 true:=⟨by kernel_rfl,_,Tryz.underlying40,rfl⟩
theorem B40:bJ Tryz.prog 40 168:=⟨Tryz.t40,by kernel_rfl,rfl⟩
theorem Z40:bA Tryz.prog 40 (.agg [ratL 0,ratL 0,ratL 0]):=⟨Tryz.t40,_,by kernel_rfl,rfl,by simp [LV.pure,aV,aD.pure],fun _ _ _=>bN (aS (c1:=[.bool false,.slice none 0 0,.slice none 0 0]) (by simp [LV.csize,aL,aD.csize]) (bE) (aS (c1:=[.bool false,.slice none 0 0,.slice none 0 0]) (by simp [LV.csize,aL,aD.csize]) (bE) (aS (c1:=[.bool false,.slice none 0 0,.slice none 0 0]) (by simp [LV.csize,aL,aD.csize]) (bE) (cA))))⟩
instance:TI Tryz.prog 40 9 true:=⟨kS⟩
instance:BI Tryz.prog 40 168:=⟨B40⟩
instance:ZI Tryz.prog 40 (.agg [ratL 0,ratL 0,ratL 0]):=⟨Z40⟩
theorem tP:bT Tryz.prog 42 12 true:=⟨by kernel_rfl,_,Tryz.underlying42,rfl⟩
theorem B42:bJ Tryz.prog 42 224:=⟨Tryz.t42,by kernel_rfl,rfl⟩
theorem Z42:bA Tryz.prog 42 (.agg [.agg [ratL 0,ratL 0,ratL 0],ratL 0]):=⟨Tryz.t42,_,by kernel_rfl,rfl,by simp [LV.pure,aV,aD.pure],fun _ _ _=>bN (aS (c1:=[.bool false,.slice none 0 0,.slice none 0 0,.bool false,.slice none 0 0,.slice none 0 0,.bool false,.slice none 0 0,.slice none 0 0]) (by simp [LV.csize,aL,aD.csize]) (bN (aS (c1:=[.bool false,.slice none 0 0,.slice none 0 0]) (by simp [LV.csize,aL,aD.csize]) (bE) (aS (c1:=[.bool false,.slice none 0 0,.slice none 0 0]) (by simp [LV.csize,aL,aD.csize]) (bE) (aS (c1:=[.bool false,.slice none 0 0,.slice none 0 0]) (by simp [LV.csize,aL,aD.csize]) (bE) (cA))))) (aS (c1:=[.bool false,.slice none 0 0,.slice none 0 0]) (by simp [LV.csize,aL,aD.csize]) (bE) (cA)))⟩
instance:TI Tryz.prog 42 12 true:=⟨tP⟩
instance:BI Tryz.prog 42 224:=⟨B42⟩
instance:ZI Tryz.prog 42 (.agg [.agg [ratL 0,ratL 0,ratL 0],ratL 0]):=⟨Z42⟩
theorem aOj:cT Tryz.prog 42 [(9,true),(3,true)]:=⟨_,Tryz.underlying42,⟨rfl,kS,⟨rfl,dD,trivial⟩⟩,by decide⟩
instance:SI Tryz.prog 42 [(9,true),(3,true)]:=⟨aOj⟩
instance:UN Tryz.prog 43 (.slice 51):=⟨Tryz.underlying43⟩
theorem T43:bT Tryz.prog 43 1 false:=⟨by kernel_rfl,_,Tryz.underlying43,rfl⟩
theorem B43:bJ Tryz.prog 43 24:=⟨Tryz.t43,by kernel_rfl,rfl⟩
theorem Z43:bA Tryz.prog 43 (.v (.slice none 0 0)):=⟨Tryz.t43,_,by kernel_rfl,rfl,rfl,fun _ _ _=>cF rfl⟩
instance:TI Tryz.prog 43 1 false:=⟨T43⟩
instance:BI Tryz.prog 43 24:=⟨B43⟩
instance:ZI Tryz.prog 43 (.v (.slice none 0 0)):=⟨Z43⟩
instance:UN Tryz.prog 44 (.int .i64):=⟨Tryz.underlying44⟩
theorem T44:bT Tryz.prog 44 1 false:=⟨by kernel_rfl,_,Tryz.underlying44,rfl⟩
theorem B44:bJ Tryz.prog 44 8:=⟨Tryz.t44,by kernel_rfl,rfl⟩
theorem Z44:bA Tryz.prog 44 (.v (.int .i64 0)):=⟨Tryz.t44,_,by kernel_rfl,rfl,rfl,fun _ _ _=>cF rfl⟩
instance:TI Tryz.prog 44 1 false:=⟨T44⟩
instance:BI Tryz.prog 44 8:=⟨B44⟩
instance:ZI Tryz.prog 44 (.v (.int .i64 0)):=⟨Z44⟩
instance:UN Tryz.prog 49 (.slice 54):=⟨Tryz.underlying49⟩
theorem T49:bT Tryz.prog 49 1 false:=⟨by kernel_rfl,_,Tryz.underlying49,rfl⟩
theorem B49:bJ Tryz.prog 49 24:=⟨Tryz.t49,by kernel_rfl,rfl⟩
theorem Z49:bA Tryz.prog 49 (.v (.slice none 0 0)):=⟨Tryz.t49,_,by kernel_rfl,rfl,rfl,fun _ _ _=>cF rfl⟩
instance:TI Tryz.prog 49 1 false:=⟨T49⟩
instance:BI Tryz.prog 49 24:=⟨B49⟩
instance:ZI Tryz.prog 49 (.v (.slice none 0 0)):=⟨Z49⟩
theorem T51:bT Tryz.prog 51 4 true:=⟨by kernel_rfl,_,Tryz.underlying51,rfl⟩
theorem B51:bJ Tryz.prog 51 64:=⟨Tryz.t51,by kernel_rfl,rfl⟩
theorem Z51:bA Tryz.prog 51 (.agg [.v (.slice none 0 0),.v (.slice none 0 0),.v (.int .i64 0),.v (.int .i64 0)]):=⟨Tryz.t51,_,by kernel_rfl,rfl,rfl,fun _ _ _=>bN (aS (c1:=[.slice none 0 0]) rfl (cF rfl) (aS (c1:=[.slice none 0 0]) rfl (cF rfl) (aS (c1:=[.int .i64 0]) rfl (cF rfl) (aS (c1:=[.int .i64 0]) rfl (cF rfl) (cA)))))⟩
instance:TI Tryz.prog 51 4 true:=⟨T51⟩
instance:BI Tryz.prog 51 64:=⟨B51⟩
instance:ZI Tryz.prog 51 (.agg [.v (.slice none 0 0),.v (.slice none 0 0),.v (.int .i64 0),.v (.int .i64 0)]):=⟨Z51⟩
theorem aMU:cT Tryz.prog 51 [(1,false),(1,false),(1,false),(1,false)]:=⟨_,Tryz.underlying51,⟨rfl,T49,⟨rfl,T49,⟨rfl,T3,⟨rfl,T3,trivial⟩⟩⟩⟩,by decide⟩
instance:SI Tryz.prog 51 [(1,false),(1,false),(1,false),(1,false)]:=⟨aMU⟩
theorem mH:bT Tryz.prog 54 6 true:=⟨by kernel_rfl,_,Tryz.underlying54,rfl⟩
theorem B54:bJ Tryz.prog 54 112:=⟨Tryz.t54,by kernel_rfl,rfl⟩
theorem Z54:bA Tryz.prog 54 (.agg [ratL 0,ratL 0]):=⟨Tryz.t54,_,by kernel_rfl,rfl,by simp [LV.pure,aV,aD.pure],fun _ _ _=>bN (aS (c1:=[.bool false,.slice none 0 0,.slice none 0 0]) (by simp [LV.csize,aL,aD.csize]) (bE) (aS (c1:=[.bool false,.slice none 0 0,.slice none 0 0]) (by simp [LV.csize,aL,aD.csize]) (bE) (cA)))⟩
instance:TI Tryz.prog 54 6 true:=⟨mH⟩
instance:BI Tryz.prog 54 112:=⟨B54⟩
instance:ZI Tryz.prog 54 (.agg [ratL 0,ratL 0]):=⟨Z54⟩
theorem aK4:cT Tryz.prog 54 [(3,true),(3,true)]:=⟨_,Tryz.underlying54,⟨rfl,dD,⟨rfl,dD,trivial⟩⟩,by decide⟩
instance:SI Tryz.prog 54 [(3,true),(3,true)]:=⟨aK4⟩
theorem T60:bT Tryz.prog 60 1 false:=⟨by kernel_rfl,_,Tryz.underlying60,rfl⟩
theorem B60:bJ Tryz.prog 60 8:=⟨Tryz.t60,by kernel_rfl,rfl⟩
theorem Z60:bA Tryz.prog 60 (.v (.pointer none)):=⟨Tryz.t60,_,by kernel_rfl,rfl,rfl,fun _ _ _=>cF rfl⟩
instance:TI Tryz.prog 60 1 false:=⟨T60⟩
instance:BI Tryz.prog 60 8:=⟨B60⟩
instance:ZI Tryz.prog 60 (.v (.pointer none)):=⟨Z60⟩
instance:UN Tryz.prog 66 (.array 3 40):=⟨Tryz.underlying66⟩
theorem T66:bT Tryz.prog 66 27 true:=⟨by kernel_rfl,_,Tryz.underlying66,rfl⟩
theorem B66:bJ Tryz.prog 66 504:=⟨Tryz.t66,by kernel_rfl,rfl⟩
theorem Z66:bA Tryz.prog 66 (.agg [.agg [ratL 0,ratL 0,ratL 0],.agg [ratL 0,ratL 0,ratL 0],.agg [ratL 0,ratL 0,ratL 0]]):=⟨Tryz.t66,_,by kernel_rfl,rfl,by simp [LV.pure,aV,aD.pure],fun _ _ _=>bN (aS (c1:=[.bool false,.slice none 0 0,.slice none 0 0,.bool false,.slice none 0 0,.slice none 0 0,.bool false,.slice none 0 0,.slice none 0 0]) (by simp [LV.csize,aL,aD.csize]) (bN (aS (c1:=[.bool false,.slice none 0 0,.slice none 0 0]) (by simp [LV.csize,aL,aD.csize]) (bE) (aS (c1:=[.bool false,.slice none 0 0,.slice none 0 0]) (by simp [LV.csize,aL,aD.csize]) (bE) (aS (c1:=[.bool false,.slice none 0 0,.slice none 0 0]) (by simp [LV.csize,aL,aD.csize]) (bE) (cA))))) (aS (c1:=[.bool false,.slice none 0 0,.slice none 0 0,.bool false,.slice none 0 0,.slice none 0 0,.bool false,.slice none 0 0,.slice none 0 0]) (by simp [LV.csize,aL,aD.csize]) (bN (aS (c1:=[.bool false,.slice none 0 0,.slice none 0 0]) (by simp [LV.csize,aL,aD.csize]) (bE) (aS (c1:=[.bool false,.slice none 0 0,.slice none 0 0]) (by simp [LV.csize,aL,aD.csize]) (bE) (aS (c1:=[.bool false,.slice none 0 0,.slice none 0 0]) (by simp [LV.csize,aL,aD.csize]) (bE) (cA))))) (aS (c1:=[.bool false,.slice none 0 0,.slice none 0 0,.bool false,.slice none 0 0,.slice none 0 0,.bool false,.slice none 0 0,.slice none 0 0]) (by simp [LV.csize,aL,aD.csize]) (bN (aS (c1:=[.bool false,.slice none 0 0,.slice none 0 0]) (by simp [LV.csize,aL,aD.csize]) (bE) (aS (c1:=[.bool false,.slice none 0 0,.slice none 0 0]) (by simp [LV.csize,aL,aD.csize]) (bE) (aS (c1:=[.bool false,.slice none 0 0,.slice none 0 0]) (by simp [LV.csize,aL,aD.csize]) (bE) (cA))))) (cA))))⟩
instance:TI Tryz.prog 66 27 true:=⟨T66⟩
instance:BI Tryz.prog 66 504:=⟨B66⟩
instance:ZI Tryz.prog 66 (.agg [.agg [ratL 0,ratL 0,ratL 0],.agg [ratL 0,ratL 0,ratL 0],.agg [ratL 0,ratL 0,ratL 0]]):=⟨Z66⟩
theorem T68:bT Tryz.prog 68 36 true:=⟨by kernel_rfl,_,Tryz.underlying68,rfl⟩
theorem B68:bJ Tryz.prog 68 672:=⟨Tryz.t68,by kernel_rfl,rfl⟩
theorem Z68:bA Tryz.prog 68 (.agg [.agg [.agg [ratL 0,ratL 0,ratL 0],.agg [ratL 0,ratL 0,ratL 0],.agg [ratL 0,ratL 0,ratL 0]],.agg [ratL 0,ratL 0,ratL 0]]):=⟨Tryz.t68,_,by kernel_rfl,rfl,by simp [LV.pure,aV,aD.pure],fun _ _ _=>bN (aS (c1:=[.bool false,.slice none 0 0,.slice none 0 0,.bool false,.slice none 0 0,.slice none 0 0,.bool false,.slice none 0 0,.slice none 0 0,.bool false,.slice none 0 0,.slice none 0 0,.bool false,.slice none 0 0,.slice none 0 0,.bool false,.slice none 0 0,.slice none 0 0,.bool false,.slice none 0 0,.slice none 0 0,.bool false,.slice none 0 0,.slice none 0 0,.bool false,.slice none 0 0,.slice none 0 0]) (by simp [LV.csize,aL,aD.csize]) (bN (aS (c1:=[.bool false,.slice none 0 0,.slice none 0 0,.bool false,.slice none 0 0,.slice none 0 0,.bool false,.slice none 0 0,.slice none 0 0]) (by simp [LV.csize,aL,aD.csize]) (bN (aS (c1:=[.bool false,.slice none 0 0,.slice none 0 0]) (by simp [LV.csize,aL,aD.csize]) (bE) (aS (c1:=[.bool false,.slice none 0 0,.slice none 0 0]) (by simp [LV.csize,aL,aD.csize]) (bE) (aS (c1:=[.bool false,.slice none 0 0,.slice none 0 0]) (by simp [LV.csize,aL,aD.csize]) (bE) (cA))))) (aS (c1:=[.bool false,.slice none 0 0,.slice none 0 0,.bool false,.slice none 0 0,.slice none 0 0,.bool false,.slice none 0 0,.slice none 0 0]) (by simp [LV.csize,aL,aD.csize]) (bN (aS (c1:=[.bool false,.slice none 0 0,.slice none 0 0]) (by simp [LV.csize,aL,aD.csize]) (bE) (aS (c1:=[.bool false,.slice none 0 0,.slice none 0 0]) (by simp [LV.csize,aL,aD.csize]) (bE) (aS (c1:=[.bool false,.slice none 0 0,.slice none 0 0]) (by simp [LV.csize,aL,aD.csize]) (bE) (cA))))) (aS (c1:=[.bool false,.slice none 0 0,.slice none 0 0,.bool false,.slice none 0 0,.slice none 0 0,.bool false,.slice none 0 0,.slice none 0 0]) (by simp [LV.csize,aL,aD.csize]) (bN (aS (c1:=[.bool false,.slice none 0 0,.slice none 0 0]) (by simp [LV.csize,aL,aD.csize]) (bE) (aS (c1:=[.bool false,.slice none 0 0,.slice none 0 0]) (by simp [LV.csize,aL,aD.csize]) (bE) (aS (c1:=[.bool false,.slice none 0 0,.slice none 0 0]) (by simp [LV.csize,aL,aD.csize]) (bE) (cA))))) (cA))))) (aS (c1:=[.bool false,.slice none 0 0,.slice none 0 0,.bool false,.slice none 0 0,.slice none 0 0,.bool false,.slice none 0 0,.slice none 0 0]) (by simp [LV.csize,aL,aD.csize]) (bN (aS (c1:=[.bool false,.slice none 0 0,.slice none 0 0]) (by simp [LV.csize,aL,aD.csize]) (bE) (aS (c1:=[.bool false,.slice none 0 0,.slice none 0 0]) (by simp [LV.csize,aL,aD.csize]) (bE) (aS (c1:=[.bool false,.slice none 0 0,.slice none 0 0]) (by simp [LV.csize,aL,aD.csize]) (bE) (cA))))) (cA)))⟩
instance:TI Tryz.prog 68 36 true:=⟨T68⟩
instance:BI Tryz.prog 68 672:=⟨B68⟩
instance:ZI Tryz.prog 68 (.agg [.agg [.agg [ratL 0,ratL 0,ratL 0],.agg [ratL 0,ratL 0,ratL 0],.agg [ratL 0,ratL 0,ratL 0]],.agg [ratL 0,ratL 0,ratL 0]]):=⟨Z68⟩
theorem aN6:cT Tryz.prog 68 [(27,true),(9,true)]:=⟨_,Tryz.underlying68,⟨rfl,T66,⟨rfl,kS,trivial⟩⟩,by decide⟩
instance:SI Tryz.prog 68 [(27,true),(9,true)]:=⟨aN6⟩
instance:UN Tryz.prog 83 (.array 2 28):=⟨Tryz.underlying83⟩
theorem T83:bT Tryz.prog 83 6 true:=⟨by kernel_rfl,_,Tryz.underlying83,rfl⟩
theorem B83:bJ Tryz.prog 83 112:=⟨Tryz.t83,by kernel_rfl,rfl⟩
theorem Z83:bA Tryz.prog 83 (.agg [.agg [.v (.int .i64 0),.v (.slice none 0 0),.v (.slice none 0 0)],.agg [.v (.int .i64 0),.v (.slice none 0 0),.v (.slice none 0 0)]]):=⟨Tryz.t83,_,by kernel_rfl,rfl,rfl,fun _ _ _=>bN (aS (c1:=[.int .i64 0,.slice none 0 0,.slice none 0 0]) rfl (bN (aS (c1:=[.int .i64 0]) rfl (cF rfl) (aS (c1:=[.slice none 0 0]) rfl (cF rfl) (aS (c1:=[.slice none 0 0]) rfl (cF rfl) (cA))))) (aS (c1:=[.int .i64 0,.slice none 0 0,.slice none 0 0]) rfl (bN (aS (c1:=[.int .i64 0]) rfl (cF rfl) (aS (c1:=[.slice none 0 0]) rfl (cF rfl) (aS (c1:=[.slice none 0 0]) rfl (cF rfl) (cA))))) (cA)))⟩
instance:TI Tryz.prog 83 6 true:=⟨T83⟩
instance:BI Tryz.prog 83 112:=⟨B83⟩
instance:ZI Tryz.prog 83 (.agg [.agg [.v (.int .i64 0),.v (.slice none 0 0),.v (.slice none 0 0)],.agg [.v (.int .i64 0),.v (.slice none 0 0),.v (.slice none 0 0)]]):=⟨Z83⟩
theorem T85:bT Tryz.prog 85 1 false:=⟨by kernel_rfl,_,Tryz.underlying85,rfl⟩
theorem B85:bJ Tryz.prog 85 8:=⟨Tryz.t85,by kernel_rfl,rfl⟩
theorem Z85:bA Tryz.prog 85 (.v (.pointer none)):=⟨Tryz.t85,_,by kernel_rfl,rfl,rfl,fun _ _ _=>cF rfl⟩
instance:TI Tryz.prog 85 1 false:=⟨T85⟩
instance:BI Tryz.prog 85 8:=⟨B85⟩
instance:ZI Tryz.prog 85 (.v (.pointer none)):=⟨Z85⟩
theorem T87:bT Tryz.prog 87 7 true:=⟨by kernel_rfl,_,Tryz.underlying87,rfl⟩
theorem B87:bJ Tryz.prog 87 104:=⟨Tryz.t87,by kernel_rfl,rfl⟩
theorem Z87:bA Tryz.prog 87 (.agg [.agg [.v (.int .i64 0),.v (.int .i64 0),ratL 0],.v (.slice none 0 0),.v (.int .i64 0)]):=⟨Tryz.t87,_,by kernel_rfl,rfl,by simp [LV.pure,aV,aD.pure],fun _ _ _=>bN (aS (c1:=[.int .i64 0,.int .i64 0,.bool false,.slice none 0 0,.slice none 0 0]) (by simp [LV.csize,aL,aD.csize]) (bN (aS (c1:=[.int .i64 0]) rfl (cF rfl) (aS (c1:=[.int .i64 0]) rfl (cF rfl) (aS (c1:=[.bool false,.slice none 0 0,.slice none 0 0]) (by simp [LV.csize,aL,aD.csize]) (bE) (cA))))) (aS (c1:=[.slice none 0 0]) rfl (cF rfl) (aS (c1:=[.int .i64 0]) rfl (cF rfl) (cA))))⟩
instance:TI Tryz.prog 87 7 true:=⟨T87⟩
instance:BI Tryz.prog 87 104:=⟨B87⟩
instance:ZI Tryz.prog 87 (.agg [.agg [.v (.int .i64 0),.v (.int .i64 0),ratL 0],.v (.slice none 0 0),.v (.int .i64 0)]):=⟨Z87⟩
theorem aMa:cT Tryz.prog 87 [(5,true),(1,false),(1,false)]:=⟨_,Tryz.underlying87,⟨rfl,T35,⟨rfl,T43,⟨rfl,T3,trivial⟩⟩⟩,by decide⟩
instance:SI Tryz.prog 87 [(5,true),(1,false),(1,false)]:=⟨aMa⟩
instance:UN Tryz.prog 88 (.slice 28):=⟨Tryz.underlying88⟩
theorem T88:bT Tryz.prog 88 1 false:=⟨by kernel_rfl,_,Tryz.underlying88,rfl⟩
theorem B88:bJ Tryz.prog 88 24:=⟨Tryz.t88,by kernel_rfl,rfl⟩
theorem Z88:bA Tryz.prog 88 (.v (.slice none 0 0)):=⟨Tryz.t88,_,by kernel_rfl,rfl,rfl,fun _ _ _=>cF rfl⟩
instance:TI Tryz.prog 88 1 false:=⟨T88⟩
instance:BI Tryz.prog 88 24:=⟨B88⟩
instance:ZI Tryz.prog 88 (.v (.slice none 0 0)):=⟨Z88⟩
theorem T92:bT Tryz.prog 92 3 true:=⟨by kernel_rfl,_,Tryz.underlying92,rfl⟩
theorem B92:bJ Tryz.prog 92 24:=⟨Tryz.t92,by kernel_rfl,rfl⟩
theorem Z92:bA Tryz.prog 92 (.agg [.v (.bool false),.v (.int .i64 0),.v (.int .i64 0)]):=⟨Tryz.t92,_,by kernel_rfl,rfl,rfl,fun _ _ _=>bN (aS (c1:=[.bool false]) rfl (cF rfl) (aS (c1:=[.int .i64 0]) rfl (cF rfl) (aS (c1:=[.int .i64 0]) rfl (cF rfl) (cA))))⟩
instance:TI Tryz.prog 92 3 true:=⟨T92⟩
instance:BI Tryz.prog 92 24:=⟨B92⟩
instance:ZI Tryz.prog 92 (.agg [.v (.bool false),.v (.int .i64 0),.v (.int .i64 0)]):=⟨Z92⟩
theorem aOy:cT Tryz.prog 92 [(1,false),(1,false),(1,false)]:=⟨_,Tryz.underlying92,⟨rfl,T4,⟨rfl,T3,⟨rfl,T3,trivial⟩⟩⟩,by decide⟩
instance:SI Tryz.prog 92 [(1,false),(1,false),(1,false)]:=⟨aOy⟩
instance:UN Tryz.prog 96 (.array 3 54):=⟨Tryz.underlying96⟩
theorem T96:bT Tryz.prog 96 18 true:=⟨by kernel_rfl,_,Tryz.underlying96,rfl⟩
theorem B96:bJ Tryz.prog 96 336:=⟨Tryz.t96,by kernel_rfl,rfl⟩
theorem Z96:bA Tryz.prog 96 (.agg [.agg [ratL 0,ratL 0],.agg [ratL 0,ratL 0],.agg [ratL 0,ratL 0]]):=⟨Tryz.t96,_,by kernel_rfl,rfl,by simp [LV.pure,aV,aD.pure],fun _ _ _=>bN (aS (c1:=[.bool false,.slice none 0 0,.slice none 0 0,.bool false,.slice none 0 0,.slice none 0 0]) (by simp [LV.csize,aL,aD.csize]) (bN (aS (c1:=[.bool false,.slice none 0 0,.slice none 0 0]) (by simp [LV.csize,aL,aD.csize]) (bE) (aS (c1:=[.bool false,.slice none 0 0,.slice none 0 0]) (by simp [LV.csize,aL,aD.csize]) (bE) (cA)))) (aS (c1:=[.bool false,.slice none 0 0,.slice none 0 0,.bool false,.slice none 0 0,.slice none 0 0]) (by simp [LV.csize,aL,aD.csize]) (bN (aS (c1:=[.bool false,.slice none 0 0,.slice none 0 0]) (by simp [LV.csize,aL,aD.csize]) (bE) (aS (c1:=[.bool false,.slice none 0 0,.slice none 0 0]) (by simp [LV.csize,aL,aD.csize]) (bE) (cA)))) (aS (c1:=[.bool false,.slice none 0 0,.slice none 0 0,.bool false,.slice none 0 0,.slice none 0 0]) (by simp [LV.csize,aL,aD.csize]) (bN (aS (c1:=[.bool false,.slice none 0 0,.slice none 0 0]) (by simp [LV.csize,aL,aD.csize]) (bE) (aS (c1:=[.bool false,.slice none 0 0,.slice none 0 0]) (by simp [LV.csize,aL,aD.csize]) (bE) (cA)))) (cA))))⟩
instance:TI Tryz.prog 96 18 true:=⟨T96⟩
instance:BI Tryz.prog 96 336:=⟨B96⟩
instance:ZI Tryz.prog 96 (.agg [.agg [ratL 0,ratL 0],.agg [ratL 0,ratL 0],.agg [ratL 0,ratL 0]]):=⟨Z96⟩
instance:UN Tryz.prog 97 (.array 3 54):=⟨Tryz.underlying97⟩
theorem T97:bT Tryz.prog 97 18 true:=⟨by kernel_rfl,_,Tryz.underlying97,rfl⟩
theorem B97:bJ Tryz.prog 97 336:=⟨Tryz.t97,by kernel_rfl,rfl⟩
theorem Z97:bA Tryz.prog 97 (.agg [.agg [ratL 0,ratL 0],.agg [ratL 0,ratL 0],.agg [ratL 0,ratL 0]]):=⟨Tryz.t97,_,by kernel_rfl,rfl,by simp [LV.pure,aV,aD.pure],fun _ _ _=>bN (aS (c1:=[.bool false,.slice none 0 0,.slice none 0 0,.bool false,.slice none 0 0,.slice none 0 0]) (by simp [LV.csize,aL,aD.csize]) (bN (aS (c1:=[.bool false,.slice none 0 0,.slice none 0 0]) (by simp [LV.csize,aL,aD.csize]) (bE) (aS (c1:=[.bool false,.slice none 0 0,.slice none 0 0]) (by simp [LV.csize,aL,aD.csize]) (bE) (cA)))) (aS (c1:=[.bool false,.slice none 0 0,.slice none 0 0,.bool false,.slice none 0 0,.slice none 0 0]) (by simp [LV.csize,aL,aD.csize]) (bN (aS (c1:=[.bool false,.slice none 0 0,.slice none 0 0]) (by simp [LV.csize,aL,aD.csize]) (bE) (aS (c1:=[.bool false,.slice none 0 0,.slice none 0 0]) (by simp [LV.csize,aL,aD.csize]) (bE) (cA)))) (aS (c1:=[.bool false,.slice none 0 0,.slice none 0 0,.bool false,.slice none 0 0,.slice none 0 0]) (by simp [LV.csize,aL,aD.csize]) (bN (aS (c1:=[.bool false,.slice none 0 0,.slice none 0 0]) (by simp [LV.csize,aL,aD.csize]) (bE) (aS (c1:=[.bool false,.slice none 0 0,.slice none 0 0]) (by simp [LV.csize,aL,aD.csize]) (bE) (cA)))) (cA))))⟩
instance:TI Tryz.prog 97 18 true:=⟨T97⟩
instance:BI Tryz.prog 97 336:=⟨B97⟩
instance:ZI Tryz.prog 97 (.agg [.agg [ratL 0,ratL 0],.agg [ratL 0,ratL 0],.agg [ratL 0,ratL 0]]):=⟨Z97⟩
theorem aMS:bT Tryz.prog 103 4 true:=⟨by kernel_rfl,_,Tryz.underlying103,rfl⟩
theorem aN5:bJ Tryz.prog 103 80:=⟨Tryz.t103,by kernel_rfl,rfl⟩
theorem aNO:bA Tryz.prog 103 (.agg [.v (.slice none 0 0),.v (.slice none 0 0),.v (.int .i64 0),.v (.slice none 0 0)]):=⟨Tryz.t103,_,by kernel_rfl,rfl,rfl,fun _ _ _=>bN (aS (c1:=[.slice none 0 0]) rfl (cF rfl) (aS (c1:=[.slice none 0 0]) rfl (cF rfl) (aS (c1:=[.int .i64 0]) rfl (cF rfl) (aS (c1:=[.slice none 0 0]) rfl (cF rfl) (cA)))))⟩
instance:TI Tryz.prog 103 4 true:=⟨aMS⟩
instance:BI Tryz.prog 103 80:=⟨aN5⟩
instance:ZI Tryz.prog 103 (.agg [.v (.slice none 0 0),.v (.slice none 0 0),.v (.int .i64 0),.v (.slice none 0 0)]):=⟨aNO⟩
theorem aLP:cT Tryz.prog 103 [(1,false),(1,false),(1,false),(1,false)]:=⟨_,Tryz.underlying103,⟨rfl,T49,⟨rfl,T49,⟨rfl,T3,⟨rfl,T22,trivial⟩⟩⟩⟩,by decide⟩
instance:SI Tryz.prog 103 [(1,false),(1,false),(1,false),(1,false)]:=⟨aLP⟩
instance:UN Tryz.prog 105 (.slice 103):=⟨Tryz.underlying105⟩
theorem aNr:bT Tryz.prog 105 1 false:=⟨by kernel_rfl,_,Tryz.underlying105,rfl⟩
theorem aNp:bJ Tryz.prog 105 24:=⟨Tryz.t105,by kernel_rfl,rfl⟩
theorem aOx:bA Tryz.prog 105 (.v (.slice none 0 0)):=⟨Tryz.t105,_,by kernel_rfl,rfl,rfl,fun _ _ _=>cF rfl⟩
instance:TI Tryz.prog 105 1 false:=⟨aNr⟩
instance:BI Tryz.prog 105 24:=⟨aNp⟩
instance:ZI Tryz.prog 105 (.v (.slice none 0 0)):=⟨aOx⟩
instance:UN Tryz.prog 116 (.array 4 31):=⟨Tryz.underlying116⟩
theorem aNo:bT Tryz.prog 116 12 true:=⟨by kernel_rfl,_,Tryz.underlying116,rfl⟩
theorem aOB:bJ Tryz.prog 116 224:=⟨Tryz.t116,by kernel_rfl,rfl⟩
theorem aOv:bA Tryz.prog 116 (.agg [ratL 0,ratL 0,ratL 0,ratL 0]):=⟨Tryz.t116,_,by kernel_rfl,rfl,by simp [LV.pure,aV,aD.pure],fun _ _ _=>bN (aS (c1:=[.bool false,.slice none 0 0,.slice none 0 0]) (by simp [LV.csize,aL,aD.csize]) (bE) (aS (c1:=[.bool false,.slice none 0 0,.slice none 0 0]) (by simp [LV.csize,aL,aD.csize]) (bE) (aS (c1:=[.bool false,.slice none 0 0,.slice none 0 0]) (by simp [LV.csize,aL,aD.csize]) (bE) (aS (c1:=[.bool false,.slice none 0 0,.slice none 0 0]) (by simp [LV.csize,aL,aD.csize]) (bE) (cA)))))⟩
instance:TI Tryz.prog 116 12 true:=⟨aNo⟩
instance:BI Tryz.prog 116 224:=⟨aOB⟩
instance:ZI Tryz.prog 116 (.agg [ratL 0,ratL 0,ratL 0,ratL 0]):=⟨aOv⟩
theorem aOA:bT Tryz.prog 120 2 true:=⟨by kernel_rfl,_,Tryz.underlying120,rfl⟩
theorem aM3:bJ Tryz.prog 120 32:=⟨Tryz.t120,by kernel_rfl,rfl⟩
theorem aLR:bA Tryz.prog 120 (.agg [.v (.slice none 0 0),.v (.int .i64 0)]):=⟨Tryz.t120,_,by kernel_rfl,rfl,rfl,fun _ _ _=>bN (aS (c1:=[.slice none 0 0]) rfl (cF rfl) (aS (c1:=[.int .i64 0]) rfl (cF rfl) (cA)))⟩
instance:TI Tryz.prog 120 2 true:=⟨aOA⟩
instance:BI Tryz.prog 120 32:=⟨aM3⟩
instance:ZI Tryz.prog 120 (.agg [.v (.slice none 0 0),.v (.int .i64 0)]):=⟨aLR⟩
theorem aIU:cT Tryz.prog 120 [(1,false),(1,false)]:=⟨_,Tryz.underlying120,⟨rfl,T22,⟨rfl,T3,trivial⟩⟩,by decide⟩
instance:SI Tryz.prog 120 [(1,false),(1,false)]:=⟨aIU⟩
instance:UN Tryz.prog 123 (.slice 2):=⟨Tryz.underlying123⟩
theorem aMA:bT Tryz.prog 123 1 false:=⟨by kernel_rfl,_,Tryz.underlying123,rfl⟩
theorem aM8:bJ Tryz.prog 123 24:=⟨Tryz.t123,by kernel_rfl,rfl⟩
theorem aOd:bA Tryz.prog 123 (.v (.slice none 0 0)):=⟨Tryz.t123,_,by kernel_rfl,rfl,rfl,fun _ _ _=>cF rfl⟩
instance:TI Tryz.prog 123 1 false:=⟨aMA⟩
instance:BI Tryz.prog 123 24:=⟨aM8⟩
instance:ZI Tryz.prog 123 (.v (.slice none 0 0)):=⟨aOd⟩
instance:UN Tryz.prog 134 (.int .u64):=⟨Tryz.underlying134⟩
theorem aOI:bT Tryz.prog 134 1 false:=⟨by kernel_rfl,_,Tryz.underlying134,rfl⟩
theorem aMZ:bJ Tryz.prog 134 8:=⟨Tryz.t134,by kernel_rfl,rfl⟩
theorem aNI:bA Tryz.prog 134 (.v (.int .u64 0)):=⟨Tryz.t134,_,by kernel_rfl,rfl,rfl,fun _ _ _=>cF rfl⟩
instance:TI Tryz.prog 134 1 false:=⟨aOI⟩
instance:BI Tryz.prog 134 8:=⟨aMZ⟩
instance:ZI Tryz.prog 134 (.v (.int .u64 0)):=⟨aNI⟩
instance:UN Tryz.prog 137 (.slice 159):=⟨Tryz.underlying137⟩
theorem aLY:bT Tryz.prog 137 1 false:=⟨by kernel_rfl,_,Tryz.underlying137,rfl⟩
theorem aOJ:bJ Tryz.prog 137 24:=⟨Tryz.t137,by kernel_rfl,rfl⟩
theorem aNF:bA Tryz.prog 137 (.v (.slice none 0 0)):=⟨Tryz.t137,_,by kernel_rfl,rfl,rfl,fun _ _ _=>cF rfl⟩
instance:TI Tryz.prog 137 1 false:=⟨aLY⟩
instance:BI Tryz.prog 137 24:=⟨aOJ⟩
instance:ZI Tryz.prog 137 (.v (.slice none 0 0)):=⟨aNF⟩
theorem aIM:bT Tryz.prog 139 3 true:=⟨by kernel_rfl,_,Tryz.underlying139,rfl⟩
theorem aOz:bJ Tryz.prog 139 56:=⟨Tryz.t139,by kernel_rfl,rfl⟩
theorem aOM:bA Tryz.prog 139 (.agg [.v (.int .i64 0),.v (.slice none 0 0),.v (.slice none 0 0)]):=⟨Tryz.t139,_,by kernel_rfl,rfl,rfl,fun _ _ _=>bN (aS (c1:=[.int .i64 0]) rfl (cF rfl) (aS (c1:=[.slice none 0 0]) rfl (cF rfl) (aS (c1:=[.slice none 0 0]) rfl (cF rfl) (cA))))⟩
instance:TI Tryz.prog 139 3 true:=⟨aIM⟩
instance:BI Tryz.prog 139 56:=⟨aOz⟩
instance:ZI Tryz.prog 139 (.agg [.v (.int .i64 0),.v (.slice none 0 0),.v (.slice none 0 0)]):=⟨aOM⟩
theorem aLw:cT Tryz.prog 139 [(1,false),(1,false),(1,false)]:=⟨_,Tryz.underlying139,⟨rfl,T3,⟨rfl,T25,⟨rfl,aLY,trivial⟩⟩⟩,by decide⟩
instance:SI Tryz.prog 139 [(1,false),(1,false),(1,false)]:=⟨aLw⟩
theorem xC:bT Tryz.prog 147 3 true:=⟨by kernel_rfl,_,Tryz.underlying147,rfl⟩
theorem aLd:bJ Tryz.prog 147 56:=⟨Tryz.t147,by kernel_rfl,rfl⟩
theorem aNt:bA Tryz.prog 147 (.agg [.v (.slice none 0 0),.v (.int .i64 0),.v (.slice none 0 0)]):=⟨Tryz.t147,_,by kernel_rfl,rfl,rfl,fun _ _ _=>bN (aS (c1:=[.slice none 0 0]) rfl (cF rfl) (aS (c1:=[.int .i64 0]) rfl (cF rfl) (aS (c1:=[.slice none 0 0]) rfl (cF rfl) (cA))))⟩
instance:TI Tryz.prog 147 3 true:=⟨xC⟩
instance:BI Tryz.prog 147 56:=⟨aLd⟩
instance:ZI Tryz.prog 147 (.agg [.v (.slice none 0 0),.v (.int .i64 0),.v (.slice none 0 0)]):=⟨aNt⟩
theorem aK7:cT Tryz.prog 147 [(1,false),(1,false),(1,false)]:=⟨_,Tryz.underlying147,⟨rfl,T49,⟨rfl,T3,⟨rfl,T22,trivial⟩⟩⟩,by decide⟩
instance:SI Tryz.prog 147 [(1,false),(1,false),(1,false)]:=⟨aK7⟩
instance:UN Tryz.prog 148 (.slice 147):=⟨Tryz.underlying148⟩
theorem aNx:bT Tryz.prog 148 1 false:=⟨by kernel_rfl,_,Tryz.underlying148,rfl⟩
theorem aNl:bJ Tryz.prog 148 24:=⟨Tryz.t148,by kernel_rfl,rfl⟩
theorem aMG:bA Tryz.prog 148 (.v (.slice none 0 0)):=⟨Tryz.t148,_,by kernel_rfl,rfl,rfl,fun _ _ _=>cF rfl⟩
instance:TI Tryz.prog 148 1 false:=⟨aNx⟩
instance:BI Tryz.prog 148 24:=⟨aNl⟩
instance:ZI Tryz.prog 148 (.v (.slice none 0 0)):=⟨aMG⟩
instance:UN Tryz.prog 155 (.slice 31):=⟨Tryz.underlying155⟩
theorem aMB:bT Tryz.prog 155 1 false:=⟨by kernel_rfl,_,Tryz.underlying155,rfl⟩
theorem aOE:bJ Tryz.prog 155 24:=⟨Tryz.t155,by kernel_rfl,rfl⟩
theorem aNT:bA Tryz.prog 155 (.v (.slice none 0 0)):=⟨Tryz.t155,_,by kernel_rfl,rfl,rfl,fun _ _ _=>cF rfl⟩
instance:TI Tryz.prog 155 1 false:=⟨aMB⟩
instance:BI Tryz.prog 155 24:=⟨aOE⟩
instance:ZI Tryz.prog 155 (.v (.slice none 0 0)):=⟨aNT⟩
instance:UN Tryz.prog 156 (.array 4 155):=⟨Tryz.underlying156⟩
theorem aLm:bT Tryz.prog 156 4 true:=⟨by kernel_rfl,_,Tryz.underlying156,rfl⟩
theorem aNB:bJ Tryz.prog 156 96:=⟨Tryz.t156,by kernel_rfl,rfl⟩
theorem aME:bA Tryz.prog 156 (.agg [.v (.slice none 0 0),.v (.slice none 0 0),.v (.slice none 0 0),.v (.slice none 0 0)]):=⟨Tryz.t156,_,by kernel_rfl,rfl,rfl,fun _ _ _=>bN (aS (c1:=[.slice none 0 0]) rfl (cF rfl) (aS (c1:=[.slice none 0 0]) rfl (cF rfl) (aS (c1:=[.slice none 0 0]) rfl (cF rfl) (aS (c1:=[.slice none 0 0]) rfl (cF rfl) (cA)))))⟩
instance:TI Tryz.prog 156 4 true:=⟨aLm⟩
instance:BI Tryz.prog 156 96:=⟨aNB⟩
instance:ZI Tryz.prog 156 (.agg [.v (.slice none 0 0),.v (.slice none 0 0),.v (.slice none 0 0),.v (.slice none 0 0)]):=⟨aME⟩
instance:UN Tryz.prog 159 (.array 4 31):=⟨Tryz.underlying159⟩
theorem aA1:bT Tryz.prog 159 12 true:=⟨by kernel_rfl,_,Tryz.underlying159,rfl⟩
theorem aJE:bJ Tryz.prog 159 224:=⟨Tryz.t159,by kernel_rfl,rfl⟩
theorem aIv:bA Tryz.prog 159 (.agg [ratL 0,ratL 0,ratL 0,ratL 0]):=⟨Tryz.t159,_,by kernel_rfl,rfl,by simp [LV.pure,aV,aD.pure],fun _ _ _=>bN (aS (c1:=[.bool false,.slice none 0 0,.slice none 0 0]) (by simp [LV.csize,aL,aD.csize]) (bE) (aS (c1:=[.bool false,.slice none 0 0,.slice none 0 0]) (by simp [LV.csize,aL,aD.csize]) (bE) (aS (c1:=[.bool false,.slice none 0 0,.slice none 0 0]) (by simp [LV.csize,aL,aD.csize]) (bE) (aS (c1:=[.bool false,.slice none 0 0,.slice none 0 0]) (by simp [LV.csize,aL,aD.csize]) (bE) (cA)))))⟩
instance:TI Tryz.prog 159 12 true:=⟨aA1⟩
instance:BI Tryz.prog 159 224:=⟨aJE⟩
instance:ZI Tryz.prog 159 (.agg [ratL 0,ratL 0,ratL 0,ratL 0]):=⟨aIv⟩
instance:UN Tryz.prog 165 (.slice 40):=⟨Tryz.underlying165⟩
theorem aKI:bT Tryz.prog 165 1 false:=⟨by kernel_rfl,_,Tryz.underlying165,rfl⟩
theorem aMF:bJ Tryz.prog 165 24:=⟨Tryz.t165,by kernel_rfl,rfl⟩
theorem aNU:bA Tryz.prog 165 (.v (.slice none 0 0)):=⟨Tryz.t165,_,by kernel_rfl,rfl,rfl,fun _ _ _=>cF rfl⟩
instance:TI Tryz.prog 165 1 false:=⟨aKI⟩
instance:BI Tryz.prog 165 24:=⟨aMF⟩
instance:ZI Tryz.prog 165 (.v (.slice none 0 0)):=⟨aNU⟩
instance:UN Tryz.prog 169 (.array 2 54):=⟨Tryz.underlying169⟩
theorem aL7:bT Tryz.prog 169 12 true:=⟨by kernel_rfl,_,Tryz.underlying169,rfl⟩
theorem aOm:bJ Tryz.prog 169 224:=⟨Tryz.t169,by kernel_rfl,rfl⟩
theorem aJH:bA Tryz.prog 169 (.agg [.agg [ratL 0,ratL 0],.agg [ratL 0,ratL 0]]):=⟨Tryz.t169,_,by kernel_rfl,rfl,by simp [LV.pure,aV,aD.pure],fun _ _ _=>bN (aS (c1:=[.bool false,.slice none 0 0,.slice none 0 0,.bool false,.slice none 0 0,.slice none 0 0]) (by simp [LV.csize,aL,aD.csize]) (bN (aS (c1:=[.bool false,.slice none 0 0,.slice none 0 0]) (by simp [LV.csize,aL,aD.csize]) (bE) (aS (c1:=[.bool false,.slice none 0 0,.slice none 0 0]) (by simp [LV.csize,aL,aD.csize]) (bE) (cA)))) (aS (c1:=[.bool false,.slice none 0 0,.slice none 0 0,.bool false,.slice none 0 0,.slice none 0 0]) (by simp [LV.csize,aL,aD.csize]) (bN (aS (c1:=[.bool false,.slice none 0 0,.slice none 0 0]) (by simp [LV.csize,aL,aD.csize]) (bE) (aS (c1:=[.bool false,.slice none 0 0,.slice none 0 0]) (by simp [LV.csize,aL,aD.csize]) (bE) (cA)))) (cA)))⟩
instance:TI Tryz.prog 169 12 true:=⟨aL7⟩
instance:BI Tryz.prog 169 224:=⟨aOm⟩
instance:ZI Tryz.prog 169 (.agg [.agg [ratL 0,ratL 0],.agg [ratL 0,ratL 0]]):=⟨aJH⟩
instance:UN Tryz.prog 170 (.array 2 169):=⟨Tryz.underlying170⟩
theorem aM0:bT Tryz.prog 170 24 true:=⟨by kernel_rfl,_,Tryz.underlying170,rfl⟩
theorem aMW:bJ Tryz.prog 170 448:=⟨Tryz.t170,by kernel_rfl,rfl⟩
theorem aLE:bA Tryz.prog 170 (.agg [.agg [.agg [ratL 0,ratL 0],.agg [ratL 0,ratL 0]],.agg [.agg [ratL 0,ratL 0],.agg [ratL 0,ratL 0]]]):=⟨Tryz.t170,_,by kernel_rfl,rfl,by simp [LV.pure,aV,aD.pure],fun _ _ _=>bN (aS (c1:=[.bool false,.slice none 0 0,.slice none 0 0,.bool false,.slice none 0 0,.slice none 0 0,.bool false,.slice none 0 0,.slice none 0 0,.bool false,.slice none 0 0,.slice none 0 0]) (by simp [LV.csize,aL,aD.csize]) (bN (aS (c1:=[.bool false,.slice none 0 0,.slice none 0 0,.bool false,.slice none 0 0,.slice none 0 0]) (by simp [LV.csize,aL,aD.csize]) (bN (aS (c1:=[.bool false,.slice none 0 0,.slice none 0 0]) (by simp [LV.csize,aL,aD.csize]) (bE) (aS (c1:=[.bool false,.slice none 0 0,.slice none 0 0]) (by simp [LV.csize,aL,aD.csize]) (bE) (cA)))) (aS (c1:=[.bool false,.slice none 0 0,.slice none 0 0,.bool false,.slice none 0 0,.slice none 0 0]) (by simp [LV.csize,aL,aD.csize]) (bN (aS (c1:=[.bool false,.slice none 0 0,.slice none 0 0]) (by simp [LV.csize,aL,aD.csize]) (bE) (aS (c1:=[.bool false,.slice none 0 0,.slice none 0 0]) (by simp [LV.csize,aL,aD.csize]) (bE) (cA)))) (cA)))) (aS (c1:=[.bool false,.slice none 0 0,.slice none 0 0,.bool false,.slice none 0 0,.slice none 0 0,.bool false,.slice none 0 0,.slice none 0 0,.bool false,.slice none 0 0,.slice none 0 0]) (by simp [LV.csize,aL,aD.csize]) (bN (aS (c1:=[.bool false,.slice none 0 0,.slice none 0 0,.bool false,.slice none 0 0,.slice none 0 0]) (by simp [LV.csize,aL,aD.csize]) (bN (aS (c1:=[.bool false,.slice none 0 0,.slice none 0 0]) (by simp [LV.csize,aL,aD.csize]) (bE) (aS (c1:=[.bool false,.slice none 0 0,.slice none 0 0]) (by simp [LV.csize,aL,aD.csize]) (bE) (cA)))) (aS (c1:=[.bool false,.slice none 0 0,.slice none 0 0,.bool false,.slice none 0 0,.slice none 0 0]) (by simp [LV.csize,aL,aD.csize]) (bN (aS (c1:=[.bool false,.slice none 0 0,.slice none 0 0]) (by simp [LV.csize,aL,aD.csize]) (bE) (aS (c1:=[.bool false,.slice none 0 0,.slice none 0 0]) (by simp [LV.csize,aL,aD.csize]) (bE) (cA)))) (cA)))) (cA)))⟩
instance:TI Tryz.prog 170 24 true:=⟨aM0⟩
instance:BI Tryz.prog 170 448:=⟨aMW⟩
instance:ZI Tryz.prog 170 (.agg [.agg [.agg [ratL 0,ratL 0],.agg [ratL 0,ratL 0]],.agg [.agg [ratL 0,ratL 0],.agg [ratL 0,ratL 0]]]):=⟨aLE⟩
theorem aM4:bT Tryz.prog 181 2 true:=⟨by kernel_rfl,_,Tryz.underlying181,rfl⟩
theorem aOF:bJ Tryz.prog 181 48:=⟨Tryz.t181,by kernel_rfl,rfl⟩
theorem aMN:bA Tryz.prog 181 (.agg [.v (.slice none 0 0),.v (.slice none 0 0)]):=⟨Tryz.t181,_,by kernel_rfl,rfl,rfl,fun _ _ _=>bN (aS (c1:=[.slice none 0 0]) rfl (cF rfl) (aS (c1:=[.slice none 0 0]) rfl (cF rfl) (cA)))⟩
instance:TI Tryz.prog 181 2 true:=⟨aM4⟩
instance:BI Tryz.prog 181 48:=⟨aOF⟩
instance:ZI Tryz.prog 181 (.agg [.v (.slice none 0 0),.v (.slice none 0 0)]):=⟨aMN⟩
theorem aLe:cT Tryz.prog 181 [(1,false),(1,false)]:=⟨_,Tryz.underlying181,⟨rfl,aKI,⟨rfl,aKI,trivial⟩⟩,by decide⟩
instance:SI Tryz.prog 181 [(1,false),(1,false)]:=⟨aLe⟩
instance:UN Tryz.prog 187 (.array 2 40):=⟨Tryz.underlying187⟩
theorem aND:bT Tryz.prog 187 18 true:=⟨by kernel_rfl,_,Tryz.underlying187,rfl⟩
theorem aNL:bJ Tryz.prog 187 336:=⟨Tryz.t187,by kernel_rfl,rfl⟩
theorem aNs:bA Tryz.prog 187 (.agg [.agg [ratL 0,ratL 0,ratL 0],.agg [ratL 0,ratL 0,ratL 0]]):=⟨Tryz.t187,_,by kernel_rfl,rfl,by simp [LV.pure,aV,aD.pure],fun _ _ _=>bN (aS (c1:=[.bool false,.slice none 0 0,.slice none 0 0,.bool false,.slice none 0 0,.slice none 0 0,.bool false,.slice none 0 0,.slice none 0 0]) (by simp [LV.csize,aL,aD.csize]) (bN (aS (c1:=[.bool false,.slice none 0 0,.slice none 0 0]) (by simp [LV.csize,aL,aD.csize]) (bE) (aS (c1:=[.bool false,.slice none 0 0,.slice none 0 0]) (by simp [LV.csize,aL,aD.csize]) (bE) (aS (c1:=[.bool false,.slice none 0 0,.slice none 0 0]) (by simp [LV.csize,aL,aD.csize]) (bE) (cA))))) (aS (c1:=[.bool false,.slice none 0 0,.slice none 0 0,.bool false,.slice none 0 0,.slice none 0 0,.bool false,.slice none 0 0,.slice none 0 0]) (by simp [LV.csize,aL,aD.csize]) (bN (aS (c1:=[.bool false,.slice none 0 0,.slice none 0 0]) (by simp [LV.csize,aL,aD.csize]) (bE) (aS (c1:=[.bool false,.slice none 0 0,.slice none 0 0]) (by simp [LV.csize,aL,aD.csize]) (bE) (aS (c1:=[.bool false,.slice none 0 0,.slice none 0 0]) (by simp [LV.csize,aL,aD.csize]) (bE) (cA))))) (cA)))⟩
instance:TI Tryz.prog 187 18 true:=⟨aND⟩
instance:BI Tryz.prog 187 336:=⟨aNL⟩
instance:ZI Tryz.prog 187 (.agg [.agg [ratL 0,ratL 0,ratL 0],.agg [ratL 0,ratL 0,ratL 0]]):=⟨aNs⟩
instance:UN Tryz.prog 202 (.int .u32):=⟨Tryz.underlying202⟩
theorem kM:bT Tryz.prog 202 1 false:=⟨by kernel_rfl,_,Tryz.underlying202,rfl⟩
theorem aBw:bJ Tryz.prog 202 4:=⟨Tryz.t202,by kernel_rfl,rfl⟩
theorem z7:bA Tryz.prog 202 (.v (.int .u32 0)):=⟨Tryz.t202,_,by kernel_rfl,rfl,rfl,fun _ _ _=>cF rfl⟩
instance:TI Tryz.prog 202 1 false:=⟨kM⟩
instance:BI Tryz.prog 202 4:=⟨aBw⟩
instance:ZI Tryz.prog 202 (.v (.int .u32 0)):=⟨z7⟩
instance:UN Tryz.prog 205 (.int .u64):=⟨Tryz.underlying205⟩
theorem aNZ:bT Tryz.prog 205 1 false:=⟨by kernel_rfl,_,Tryz.underlying205,rfl⟩
theorem aNe:bJ Tryz.prog 205 8:=⟨Tryz.t205,by kernel_rfl,rfl⟩
theorem aOa:bA Tryz.prog 205 (.v (.int .u64 0)):=⟨Tryz.t205,_,by kernel_rfl,rfl,rfl,fun _ _ _=>cF rfl⟩
instance:TI Tryz.prog 205 1 false:=⟨aNZ⟩
instance:BI Tryz.prog 205 8:=⟨aNe⟩
instance:ZI Tryz.prog 205 (.v (.int .u64 0)):=⟨aOa⟩
instance:UN Tryz.prog 212 (.array 2 31):=⟨Tryz.underlying212⟩
theorem aOr:bT Tryz.prog 212 6 true:=⟨by kernel_rfl,_,Tryz.underlying212,rfl⟩
theorem aOl:bJ Tryz.prog 212 112:=⟨Tryz.t212,by kernel_rfl,rfl⟩
theorem aOg:bA Tryz.prog 212 (.agg [ratL 0,ratL 0]):=⟨Tryz.t212,_,by kernel_rfl,rfl,by simp [LV.pure,aV,aD.pure],fun _ _ _=>bN (aS (c1:=[.bool false,.slice none 0 0,.slice none 0 0]) (by simp [LV.csize,aL,aD.csize]) (bE) (aS (c1:=[.bool false,.slice none 0 0,.slice none 0 0]) (by simp [LV.csize,aL,aD.csize]) (bE) (cA)))⟩
instance:TI Tryz.prog 212 6 true:=⟨aOr⟩
instance:BI Tryz.prog 212 112:=⟨aOl⟩
instance:ZI Tryz.prog 212 (.agg [ratL 0,ratL 0]):=⟨aOg⟩
instance:UN Tryz.prog 230 (.array 3 155):=⟨Tryz.underlying230⟩
theorem aLi:bT Tryz.prog 230 3 true:=⟨by kernel_rfl,_,Tryz.underlying230,rfl⟩
theorem aMV:bJ Tryz.prog 230 72:=⟨Tryz.t230,by kernel_rfl,rfl⟩
theorem aMH:bA Tryz.prog 230 (.agg [.v (.slice none 0 0),.v (.slice none 0 0),.v (.slice none 0 0)]):=⟨Tryz.t230,_,by kernel_rfl,rfl,rfl,fun _ _ _=>bN (aS (c1:=[.slice none 0 0]) rfl (cF rfl) (aS (c1:=[.slice none 0 0]) rfl (cF rfl) (aS (c1:=[.slice none 0 0]) rfl (cF rfl) (cA))))⟩
instance:TI Tryz.prog 230 3 true:=⟨aLi⟩
instance:BI Tryz.prog 230 72:=⟨aMV⟩
instance:ZI Tryz.prog 230 (.agg [.v (.slice none 0 0),.v (.slice none 0 0),.v (.slice none 0 0)]):=⟨aMH⟩
instance:UN Tryz.prog 245 (.array 4 25):=⟨Tryz.underlying245⟩
theorem aNm:bT Tryz.prog 245 4 true:=⟨by kernel_rfl,_,Tryz.underlying245,rfl⟩
theorem aOp:bJ Tryz.prog 245 96:=⟨Tryz.t245,by kernel_rfl,rfl⟩
theorem aOe:bA Tryz.prog 245 (.agg [.v (.slice none 0 0),.v (.slice none 0 0),.v (.slice none 0 0),.v (.slice none 0 0)]):=⟨Tryz.t245,_,by kernel_rfl,rfl,rfl,fun _ _ _=>bN (aS (c1:=[.slice none 0 0]) rfl (cF rfl) (aS (c1:=[.slice none 0 0]) rfl (cF rfl) (aS (c1:=[.slice none 0 0]) rfl (cF rfl) (aS (c1:=[.slice none 0 0]) rfl (cF rfl) (cA)))))⟩
instance:TI Tryz.prog 245 4 true:=⟨aNm⟩
instance:BI Tryz.prog 245 96:=⟨aOp⟩
instance:ZI Tryz.prog 245 (.agg [.v (.slice none 0 0),.v (.slice none 0 0),.v (.slice none 0 0),.v (.slice none 0 0)]):=⟨aOe⟩
instance:UN Tryz.prog 261 (.array 3 212):=⟨Tryz.underlying261⟩
theorem aNj:bT Tryz.prog 261 18 true:=⟨by kernel_rfl,_,Tryz.underlying261,rfl⟩
theorem aNG:bJ Tryz.prog 261 336:=⟨Tryz.t261,by kernel_rfl,rfl⟩
theorem aNP:bA Tryz.prog 261 (.agg [.agg [ratL 0,ratL 0],.agg [ratL 0,ratL 0],.agg [ratL 0,ratL 0]]):=⟨Tryz.t261,_,by kernel_rfl,rfl,by simp [LV.pure,aV,aD.pure],fun _ _ _=>bN (aS (c1:=[.bool false,.slice none 0 0,.slice none 0 0,.bool false,.slice none 0 0,.slice none 0 0]) (by simp [LV.csize,aL,aD.csize]) (bN (aS (c1:=[.bool false,.slice none 0 0,.slice none 0 0]) (by simp [LV.csize,aL,aD.csize]) (bE) (aS (c1:=[.bool false,.slice none 0 0,.slice none 0 0]) (by simp [LV.csize,aL,aD.csize]) (bE) (cA)))) (aS (c1:=[.bool false,.slice none 0 0,.slice none 0 0,.bool false,.slice none 0 0,.slice none 0 0]) (by simp [LV.csize,aL,aD.csize]) (bN (aS (c1:=[.bool false,.slice none 0 0,.slice none 0 0]) (by simp [LV.csize,aL,aD.csize]) (bE) (aS (c1:=[.bool false,.slice none 0 0,.slice none 0 0]) (by simp [LV.csize,aL,aD.csize]) (bE) (cA)))) (aS (c1:=[.bool false,.slice none 0 0,.slice none 0 0,.bool false,.slice none 0 0,.slice none 0 0]) (by simp [LV.csize,aL,aD.csize]) (bN (aS (c1:=[.bool false,.slice none 0 0,.slice none 0 0]) (by simp [LV.csize,aL,aD.csize]) (bE) (aS (c1:=[.bool false,.slice none 0 0,.slice none 0 0]) (by simp [LV.csize,aL,aD.csize]) (bE) (cA)))) (cA))))⟩
instance:TI Tryz.prog 261 18 true:=⟨aNj⟩
instance:BI Tryz.prog 261 336:=⟨aNG⟩
instance:ZI Tryz.prog 261 (.agg [.agg [ratL 0,ratL 0],.agg [ratL 0,ratL 0],.agg [ratL 0,ratL 0]]):=⟨aNP⟩
instance:UN Tryz.prog 288 (.array 0 16):=⟨Tryz.underlying288⟩
theorem aNC:bT Tryz.prog 288 0 true:=⟨by kernel_rfl,_,Tryz.underlying288,rfl⟩
theorem aN8:bJ Tryz.prog 288 0:=⟨Tryz.t288,by kernel_rfl,rfl⟩
theorem aMM:bA Tryz.prog 288 (.agg []):=⟨Tryz.t288,_,by kernel_rfl,rfl,rfl,fun _ _ _=>bN (cA)⟩
instance:TI Tryz.prog 288 0 true:=⟨aNC⟩
instance:BI Tryz.prog 288 0:=⟨aN8⟩
instance:ZI Tryz.prog 288 (.agg []):=⟨aMM⟩
theorem aNQ:bT Tryz.prog 295 1 false:=⟨by kernel_rfl,_,Tryz.underlying295,rfl⟩
theorem aNJ:bJ Tryz.prog 295 8:=⟨Tryz.t295,by kernel_rfl,rfl⟩
theorem aNA:bA Tryz.prog 295 (.v (.pointer none)):=⟨Tryz.t295,_,by kernel_rfl,rfl,rfl,fun _ _ _=>cF rfl⟩
instance:TI Tryz.prog 295 1 false:=⟨aNQ⟩
instance:BI Tryz.prog 295 8:=⟨aNJ⟩
instance:ZI Tryz.prog 295 (.v (.pointer none)):=⟨aNA⟩
theorem nQ:bA Tryz.prog 54 (spL (0,0)):=by rw [mG];exact Z54
instance:EC Tryz.prog 2 dS 1 false 0:=⟨mK,Z2,T2⟩
instance:EC Tryz.prog 3 dS 1 false 0:=⟨mK,Z3,T3⟩
instance:EC Tryz.prog 31 ratL 3 true 0:=⟨aD,Z31,dD⟩
instance:EC Tryz.prog 40 dG 9 true ⟨0,0,0⟩:=⟨cW,Z40,kS⟩
instance:EC Tryz.prog 42 eB 12 true ⟨⟨0,0,0⟩,0⟩:=⟨dR,Z42,tP⟩
instance:EC Tryz.prog 44 dS 1 false 0:=⟨mK,Z44,T44⟩
instance:EC Tryz.prog 54 spL 6 true (0,0):=⟨d8,nQ,mH⟩
instance:AE Tryz.prog 54 spL 6 true (0,0):=⟨d8,nQ⟩
instance:EC Tryz.prog 202 bX 1 false 0:=⟨cV,z7,kM⟩
section
variable {f:FuncId} {fn:Func} {c:Code} {args:List LV} {r:LV}
theorem dJ (hf:Tryz.prog.funcs[f]?=some fn)
  (h:wpL Tryz.prog c (fun e L=>match e with | .exit _=>False | _=>n9 Tryz.prog fn.results.toList L r []) (St.mk (fun t=>args.getD t .any) (hp [])))
  (hb:fn.body=some c:=by exact rfl) (hn:(fn.name== "runtime.NumGoroutine")=false:=by decide +kernel) (hd:fC fn.ntmps c=true:=by decide +kernel) (hlen:args.length≤fn.ntmps:=by exact Nat.le_of_ble_eq_true rfl) (ht:∀ g,r.ren g=r:=by exact tm0):aN Tryz.prog f args r:=aE4 fol hf hb hn hd hlen ht h
theorem fnO {bs:List Blk} (hf:Tryz.prog.funcs[f]?=some fn)
  (h:wpL Tryz.prog c (fun e L=>match e with | .exit _=>False | _=>n9 Tryz.prog fn.results.toList L r bs) (St.mk (fun t=>args.getD t .any) (hp [])))
  (hb:fn.body=some c:=by exact rfl) (hn:(fn.name== "runtime.NumGoroutine")=false:=by decide +kernel) (hd:fC fn.ntmps c=true:=by decide +kernel) (hlen:args.length≤fn.ntmps:=by exact Nat.le_of_ble_eq_true rfl):gM Tryz.prog f args r bs:=aG2 fol hf hb hn hd hlen h
theorem fnM {blk blk':Blk} (hf:Tryz.prog.funcs[f]?=some fn)
  (h:wpL Tryz.prog c (fun e L=>match e with | .exit _=>False | _=>aAI Tryz.prog fn.results.toList L r blk') (St.mk (fun t=>args.getD t .any) (hp [(0,blk)])))
  (hb:fn.body=some c:=by exact rfl) (hn:(fn.name== "runtime.NumGoroutine")=false:=by decide +kernel) (hd:fC fn.ntmps c=true:=by decide +kernel) (hlen:args.length≤fn.ntmps:=by exact Nat.le_of_ble_eq_true rfl) (hmt:blk.mt=true:=by exact rfl):fZ Tryz.prog f blk args r blk':=aFf fol hf hb hn hd hlen hmt h
end
end Go.Proofs.YtckppbhafancnaaGreat
end
section
set_option linter.unusedVariables false
set_option linter.unusedSimpArgs false
set_option maxHeartbeats 8000000
set_option maxRecDepth 100000
attribute [local irreducible] Go.Lg.opsL Go.Lg.wpL Go.Lg.thenL Go.Lg.blockL
namespace Go.Proofs.YtckppbhafancnaaGreat
open Go.Lg
namespace Zq135
theorem v5 {p q:Prop} (k:q) (e:p=q:=by simp only [e1,e2,e3,e4,p1,p2,p3,q1,q2,q3,l1,t0,t1,r1,r2,r3,r4,Nat.zero_add,Nat.reduceMul,Nat.reduceAdd,b1,b2,b3,b4,b5,b6,i1,i2,i3,i4,i5,i6,Nat.reduceBEq,ej,ek];exact rfl):p:=e.mpr k
theorem nf1 {p:Prop} (h:p:=by first | (refine v5 ?_;exact rfl) | exact rfl):p:=h
theorem aKa {p q:Prop} (k:q) (e:p=q:=by simp only [e1,e2,e3,e4,p1,p2,p3,q1,q2,q3,l1,t0,t1,r1,r2,r3,r4,Nat.zero_add,Nat.reduceMul,Nat.reduceAdd,b1,b2,b3,b4,b5,b6,i1,i2,i3,i4,i5,i6,Nat.reduceBEq,ek];exact rfl):p:=e.mpr k
theorem nf2 {p:Prop} (h:p:=by first | (refine aKa ?_;exact rfl) | exact rfl):p:=h
end Zq135
open Zq135 H0 in
theorem aEQ (l:List Nat) (hl:l.length≤4611686018427387904):aN Tryz.prog 149 [fF l] (fF (p6 l)):=by
 unfold fF p6
 refine dJ Tryz.func149 ?_
 refine eX ?_
 refine lO (fun(k:Nat) L=>(((St.mk L.slot (hp [])).put (some 0) (.list 1 (l.map bX))).put (some 3) (aG k))) (fun k=>k≤l.length∧fJ l.length l=fJ k l) (fun k=>k) l.length ⟨Nat.le_refl _,rfl⟩ ?_
 rintro k L1 ⟨hk,hkt⟩
 refine bY ?_
 refine eD 8 rfl (fun h8r h8=>?_) (fun h8r h8=>?_)
 ·obtain⟨j,rfl⟩:∃ j,k=j+1:=⟨k-1,by omega⟩
  have ej:(((j+1:Nat):Int)-1).toNat=j:=by omega
  have ek:(((j+1:Nat):Int)-1)=j:=by omega
  refine dP ?_
  refine jB nf1 ?_
  refine bD ?_
  refine aQ rfl (fun h15r h15=>?_) (fun h15r h15=>?_)
  ·refine dP ?_
   refine jB nf2 ?_
   refine cU ?_
   exact kE j ⟨by omega,hkt.trans (by simp only [fJ];rw [if_pos (by simpa using h15)])⟩
  ·refine eP ?_
   refine aB rfl (by first | exact .sliceLh (h:=_) cV rfl Tryz.underlying29 kM rfl om | exact .sliceRh rfl Tryz.underlying29 kM rfl om om) ?_
   refine cB ?_
   rw [hkt,fJ,if_neg (by simpa using h15)]
   exact b8 rfl (.pure (aJ cV _ _))
 ·have hk0:k=0:=by omega
  subst hk0
  have ej:True:=trivial
  have ek:True:=trivial
  refine dP ?_
  refine jB nf1 ?_
  refine cQ ?_
  refine aB rfl (by first | exact .sliceLh (h:=_) cV rfl Tryz.underlying29 kM rfl om | exact .sliceRh rfl Tryz.underlying29 kM rfl om om) ?_
  refine cB ?_
  rw [hkt]
  exact b8 rfl (.pure (aJ cV _ _))
namespace Zq2
theorem cK {p q:Prop} (k:q) (e:p=q:=by simp only [e1,e2,e3,e4,p1,p2,p3,q1,q2,q3,l1,t0,t1,r1,r2,r3,r4,Nat.zero_add,Nat.reduceMul,Nat.reduceAdd,b1,b2,b3,b4,b5,b6,i1,i2,i3,i4,i5,i6,Nat.reduceBEq,eQ];exact rfl):p:=e.mpr k
end Zq2
open Zq2 in
theorem aGJ (a b:List Nat) (ha:fA a) (hb:fA b) (hla:a.length≤1099511627776) (hlb:b.length≤1099511627776):aN Tryz.prog 248 [fF a,fF b] (bQ (val a+val b)):=by
 unfold fF bQ
 refine dJ Tryz.func248 ?_
 refine iR ?_
 refine eH (fun L=>∃ (x:List Nat) (y:List Nat) (L1:St),(fA x∧fA y∧x.length≤1099511627776∧y.length≤x.length∧val a+val b=val x+val y)∧L=(((St.mk L1.slot (hp [])).put (some 0) (.list 1 (x.map bX))).put (some 1) (.list 1 (y.map bX)))) ?_ ?_
 ·refine aQ rfl (fun h13r h13=>?_) (fun h13r h13=>?_)
  ·refine dP ?_
   exact⟨b,a,_,⟨hb,ha,hlb,by omega,Nat.add_comm _ _⟩,((aA (aA (bB cl) cl) cl)).symm⟩
  ·refine cU ?_
   exact⟨a,b,_,⟨ha,hb,hla,by omega,rfl⟩,((aA (aA (bB cl) cl) cl)).symm⟩
 ·rintro _ ⟨x,y,LC13,⟨hx,hy,hlx,hyx,hxy⟩,rfl⟩
  rw [hxy]
  refine bY ?_
  refine b9 rfl rfl (.mkE (n:=x.length+1) (m:=x.length+1) ml ml om om om) ?_
  refine jT ?_
  refine lp3 (fun(k:Nat) (o:List Nat) (c:Nat) L=>((((((((St.mk L.slot (hp [(19,⟨1,o.map bX,true⟩)])).put (some 0) (.list 1 (x.map bX))).put (some 1) (.list 1 (y.map bX))).put (some 5) (.ref 19 1 0 (x.length+1))).put (some 6) (dL c)).put (some 20) (.list 1 (x.map bX))).put (some 21) (aG x.length)).put (some 22) (aG k))) (fun k o c=>k≤x.length∧o.length=x.length+1∧c≤1∧fA o∧val (o.take k)+4294967296 ^ k*c=val (x.take k)+val (y.take k)) (fun k o c=>x.length-k) 0 (List.replicate (x.length+1) 0) 0 ⟨Nat.zero_le _,by simp,by omega,fW _,by simp [val]⟩ ?_
  rintro k o c L1 ⟨hk,hol,hc,hlo,hv⟩
  have hxk:=cL hx k
  have hyk:=cL hy k
  refine bY ?_
  refine aQ rfl (fun h23r h23=>?_) (fun h23r h23=>?_)
  ·refine aLW ?_
   refine aQ rfl (fun h34r h34=>?_) (fun h34r h34=>?_)
   ·refine aNH ?_
    exact nx3 (k+1) (o.set k ((c+x.getD k 0+y.getD k 0) % 4294967296)) ((c+x.getD k 0+y.getD k 0)/4294967296) ⟨by omega,by simp [hol],by omega,eM hlo _ _ (Nat.mod_lt _ (by omega)),aCI (by omega) hv rfl⟩
   ·refine aBC ?_
    exact nx3 (k+1) (o.set k ((c+x.getD k 0) % 4294967296)) ((c+x.getD k 0)/4294967296) ⟨by omega,by simp [hol],by omega,eM hlo _ _ (Nat.mod_lt _ (by omega)),aCI (by omega) hv (by rw [iF y k (by omega)];rfl)⟩
  ·obtain rfl:k=x.length:=by omega
   refine qG ?_
   refine cpf [19] fm1 (aEQ _ (by first | omega | (simp;done) | (simp;omega))) ?_
   refine cB ?_
   rw [←aId (c:=c % 4294967296) hyx hol hlo (by omega) (by rw [Nat.mod_eq_of_lt (by omega)];exact hv)]
   exact b8 rfl (.pure (bF _))
theorem gC (l:List Nat) (h:fA l) (hl:l.length≤4611686018427387904):aN Tryz.prog 149 [fF l] (bQ (val l)):=by
 have:=aEQ l hl
 rwa [fY h] at this
namespace Zq55
theorem cK {p q:Prop} (k:q) (e:p=q:=by simp only [e1,e2,e3,e4,p1,p2,p3,q1,q2,q3,l1,t0,t1,r1,r2,r3,r4,Nat.zero_add,Nat.reduceMul,Nat.reduceAdd,b1,b2,b3,b4,b5,b6,i1,i2,i3,i4,i5,i6,Nat.reduceBEq,eQ,ej];exact rfl):p:=e.mpr k
end Zq55
open Zq55 in
theorem aGr (a:List Nat) (hl:a.length≤4611686018427387904):aN Tryz.prog 147 [fF a] (bL (decide (a.length=0∨a.getD (a.length-1) 0≠0))):=by
 unfold fF
 refine dJ Tryz.func147 ?_
 have ej:True:=trivial
 refine cQ ?_
 refine eD 6 rfl (fun h6r h6=>?_) (fun h6r h6=>?_)
 ·have ej:True:=trivial
  refine cH ?_
  refine b8 ?_ (.pure rfl)
  simp only [e1,e2,e3,e4,p1,p2,p3,q1,q2,q3,Nat.reduceBEq]
  congr 2
  first | (symm;rw [decide_eq_true_iff];omega) | (rw [Bool.eq_iff_iff,bne_iff_ne,decide_eq_true_iff];omega)
 ·have ej:((a.length:Int)-1).toNat=a.length-1:=by omega
  refine cH ?_
  refine b8 ?_ (.pure rfl)
  simp only [e1,e2,e3,e4,p1,p2,p3,q1,q2,q3,Nat.reduceBEq]
  congr 2
  first | (symm;rw [decide_eq_true_iff];omega) | (rw [Bool.eq_iff_iff,bne_iff_ne,decide_eq_true_iff];omega)
namespace Zq139
theorem cK {p q:Prop} (k:q) (e:p=q:=by simp only [e1,e2,e3,e4,p1,p2,p3,q1,q2,q3,l1,t0,t1,r1,r2,r3,r4,Nat.zero_add,Nat.reduceMul,Nat.reduceAdd,b1,b2,b3,b4,b5,b6,i1,i2,i3,i4,i5,i6,Nat.reduceBEq,eQ,ej,ek];exact rfl):p:=e.mpr k
end Zq139
open Zq139 in
theorem aGL (a:List Nat) (h:fA a) (hl:a.length≤2):aN Tryz.prog 237 [fF a] (dL (val a)):=by
 unfold fF
 refine dJ Tryz.func237 ?_
 have ej:True:=trivial
 have ek:True:=trivial
 refine nH ?_
 refine wE (fun(k n:Nat) L=>((((St.mk L.slot (hp [])).put (some 0) (.list 1 (a.map bX))).put (some 3) (dL n)).put (some 4) (iL ((k:Int)-1)))) (fun k n=>k≤a.length∧n=val (a.drop k)) (fun k n=>k) a.length 0 ⟨Nat.le_refl _,by simp [val]⟩ ?_
 rintro k n L1 ⟨hk,hn⟩
 refine dP ?_
 refine aQ rfl (fun h9r h9=>?_) (fun h9r h9=>?_)
 ·obtain⟨j,rfl⟩:∃ j,k=j+1:=⟨k-1,by omega⟩
  have ej:(((j+1:Nat):Int)-1).toNat=j:=by omega
  have ek:(((j+1:Nat):Int)-1)=j:=by omega
  have hb:=cL h j
  have hn2:n<4294967296:=by have:=tF h (k:=j+1) (j:=1) (by omega);rw [hn];simpa using this
  refine aAw ?_
  exact qI j (n*4294967296+a.getD j 0) ⟨by omega,by rw [eW (by omega),hn];omega⟩
 ·obtain rfl:k=0:=by omega
  have ej:True:=trivial
  have ek:True:=trivial
  rw [List.drop_zero] at hn
  rw [←hn]
  refine cH ?_
  exact b8 rfl (by first | exact .pure rfl | exact .pure (bF _) | exact .pure (aR _) | exact .pure (aD.pure _) | exact .pure (aJ cV _ _) | exact .pure (aJ aD _ _))
namespace Zq50
theorem cK {p q:Prop} (k:q) (e:p=q:=by simp only [e1,e2,e3,e4,p1,p2,p3,q1,q2,q3,l1,t0,t1,r1,r2,r3,r4,Nat.zero_add,Nat.reduceMul,Nat.reduceAdd,b1,b2,b3,b4,b5,b6,i1,i2,i3,i4,i5,i6,Nat.reduceBEq,eQ,ej,ek];exact rfl):p:=e.mpr k
end Zq50
open Zq50 in
theorem vF (a b:List Nat) (ha:fA a) (hb:fA b) (hla:a.length≤1099511627776) (hlb:b.length≤1099511627776):aN Tryz.prog 173 [fF a,fF b] (iL (kY (val a) (val b))):=by
 refine dJ Tryz.func173 ?_
 have ej:True:=trivial
 have ek:True:=trivial
 refine eI ?_
 refine cp cS (gC _ (by first | assumption | exact aW _) (by omega)) ?_
 refine bD ?_
 refine cp cS (gC _ (by first | assumption | exact aW _) (by omega)) ?_
 refine eX ?_
 refine aQ rfl (fun h14r h14=>?_) (fun h14r h14=>?_)
 ·have hla2:(aZ (val a)).length≤1099511627776:=by rw [←fY ha];unfold p6;simp;omega
  refine cG ?_
  refine aQ rfl (fun h19r h19=>?_) (fun h19r h19=>?_)
  ·have hE:=o7 (m:=val a) (n:=val b) (by omega)
   refine eI ?_
   first | (rw [f9 hE];exact b8 rfl (.pure rfl)) | (rw [gZ hE];exact b8 rfl (.pure rfl)) | (rw [iG hE];exact b8 rfl (.pure rfl))
  ·have hE:=o7 (m:=val b) (n:=val a) (by omega)
   refine eP ?_
   first | (rw [f9 hE];exact b8 rfl (.pure rfl)) | (rw [gZ hE];exact b8 rfl (.pure rfl)) | (rw [iG hE];exact b8 rfl (.pure rfl))
 ·have hlen:(aZ (val a)).length=(aZ (val b)).length:=by omega
  have hla2:(aZ (val a)).length≤1099511627776:=by rw [←fY ha];unfold p6;simp;omega
  clear h14 h14r
  refine cH ?_
  refine lO (fun(k:Nat) L=>((((St.mk L.slot (hp [])).put (some 0) (bQ (val a))).put (some 1) (bQ (val b))).put (some 5) (iL ((k:Int)-1)))) (fun k=>k≤(aZ (val a)).length∧(aZ (val a)).drop k=(aZ (val b)).drop k) (fun k=>k) ((aZ (val a)).length) ⟨Nat.le_refl _,by rw [List.drop_length,List.drop_of_length_le (by omega)]⟩ ?_
  rintro k L1 ⟨hk,hd⟩
  refine dP ?_
  refine aQ rfl (fun h24r h24=>?_) (fun h24r h24=>?_)
  ·obtain⟨j,rfl⟩:∃ j,k=j+1:=⟨k-1,by omega⟩
   have ej:(((j+1:Nat):Int)-1).toNat=j:=by omega
   have ek:(((j+1:Nat):Int)-1)=j:=by omega
   refine dX ?_
   refine aP 9 (by decide +kernel) ?_
   refine cQ ?_
   refine aQ rfl (fun h35r h35=>?_) (fun h35r h35=>?_)
   ·refine cU ?_
    refine aP 9 (by decide +kernel) ?_
    refine cQ ?_
    refine aQ rfl (fun h44r h44=>?_) (fun h44r h44=>?_)
    ·have hE:=jA (aW (val a)) (k:=j) (by omega) (by omega) hd (by omega)
     rw [aX,aX] at hE
     refine cH ?_
     first | (rw [f9 hE];exact b8 rfl (.pure rfl)) | (rw [gZ hE];exact b8 rfl (.pure rfl)) | (rw [iG hE];exact b8 rfl (.pure rfl))
    ·have hE:=jA (aW (val b)) (k:=j) (by omega) (by omega) hd.symm (by omega)
     rw [aX,aX] at hE
     refine fI ?_
     first | (rw [f9 hE];exact b8 rfl (.pure rfl)) | (rw [gZ hE];exact b8 rfl (.pure rfl)) | (rw [iG hE];exact b8 rfl (.pure rfl))
   ·refine eP ?_
    exact kE j ⟨by omega,vL (by omega) (by omega) hd (by omega)⟩
  ·obtain rfl:k=0:=by omega
   have ej:True:=trivial
   have ek:True:=trivial
   rw [List.drop_zero,List.drop_zero] at hd
   have hE:val a=val b:=by have:=congrArg val hd;rwa [aX,aX] at this
   refine cQ ?_
   first | (rw [f9 hE];exact b8 rfl (.pure rfl)) | (rw [gZ hE];exact b8 rfl (.pure rfl)) | (rw [iG hE];exact b8 rfl (.pure rfl))
theorem tG {b:List Nat} (h:fA b):(aZ (val b)).length≤b.length:=by
 rw [←fY h];unfold p6;simp;exact Nat.min_le_right _ _
open H0 in
theorem aG1 (a b:List Nat) (ha:fA a) (hb:fA b) (hla:a.length≤1099511627776) (hlb:b.length≤1099511627776) (hlt:val a<val b):aN Tryz.prog 249 [fF a,fF b] (.tup [fF [],iL 7]):=by
 refine dJ Tryz.func249 ?_
 refine cQ ?_
 refine cp bI (vF _ _ (by first | assumption | exact aW _) (by first | assumption | exact aW _) (by omega) (by omega)) ?_
 refine dI ?_
 refine aQ rfl (fun h15r h15=>?_) (fun h15r h15=>?_)
 ·refine eI ?_
  exact pM rfl (.nil 1) rfl (.pure rfl)
 ·exfalso;rw [f9 hlt] at h15;omega
theorem aGe {k br:Nat} {a b o:List Nat} (hol:k<o.length) (hbr:br≤1) (hx:a.getD k 0<4294967296) (hyb:b.getD k 0<4294967296) (hlo:fA o) (hv:val (o.take k)+val (b.take k)=val (a.take k)+4294967296 ^ k*br) {y d:Nat}
  (hy:y=br+b.getD k 0) (hd:d=(18446744073709551616+a.getD k 0-y) % 18446744073709551616) :
  d/9223372036854775808≤1∧fA (o.set k (d % 4294967296))∧val ((o.set k (d % 4294967296)).take (k+1))+val (b.take (k+1))=val (a.take (k+1))+4294967296 ^ (k+1)*(d/9223372036854775808):=by
 refine⟨by omega,eM hlo _ _ (by omega),?_⟩
 rcases Nat.lt_or_ge (a.getD k 0) y with h | h
 ·have h1:d % 4294967296=4294967296+a.getD k 0-y:=by omega
  have h2:d/9223372036854775808=1:=by omega
  rw [h1,h2]
  exact aAo hol hv hy h (by omega)
 ·have h1:d % 4294967296=a.getD k 0-y:=by omega
  have h2:d/9223372036854775808=0:=by omega
  rw [h1,h2]
  exact aAM hol hv hy h
namespace Zq54
theorem cK {p q:Prop} (k:q) (e:p=q:=by simp only [e1,e2,e3,e4,p1,p2,p3,q1,q2,q3,l1,t0,t1,r1,r2,r3,r4,Nat.zero_add,Nat.reduceMul,Nat.reduceAdd,b1,b2,b3,b4,b5,b6,i1,i2,i3,i4,i5,i6,Nat.reduceBEq,eQ];exact rfl):p:=e.mpr k
end Zq54
open Zq54 in
theorem aKj (a b:List Nat) (ha:fA a) (hb:fA b) (hla:a.length≤1099511627776) (hlb:b.length≤1099511627776) (hle:val b≤val a):aN Tryz.prog 249 [fF a,fF b] (.tup [bQ (val a-val b),iL 0]):=by
 have hbl:(aZ (val b)).length≤a.length:=by
  apply eO;exact Nat.lt_of_le_of_lt hle (qH ha)
 refine dJ Tryz.func249 ?_
 refine cQ ?_
 refine cp bI (vF _ _ (by first | assumption | exact aW _) (by first | assumption | exact aW _) (by omega) (by omega)) ?_
 refine dI ?_
 refine aQ rfl (fun h15r h15=>?_) (fun h15r h15=>?_)
 ·exfalso
  rcases Nat.lt_or_eq_of_le hle with h | h
  ·rw [gZ h] at h15;omega
  ·rw [iG h.symm] at h15;omega
 ·refine dX ?_
  refine cp cS (gC _ (by first | assumption | exact aW _) (by omega)) ?_
  refine dP ?_
  refine b9 rfl rfl (.mkE (n:=a.length) (m:=a.length) ml ml om om om) ?_
  refine jT ?_
  refine lp3 (fun(k:Nat) (o:List Nat) (br:Nat) L=>((((((((St.mk L.slot (hp [(20,⟨1,o.map bX,true⟩)])).put (some 0) (.list 1 (a.map bX))).put (some 1) (bQ (val b))).put (some 6) (.ref 20 1 0 a.length)).put (some 7) (dL br)).put (some 21) (.list 1 (a.map bX))).put (some 22) (aG a.length)).put (some 23) (aG k))) (fun k o br=>k≤a.length∧o.length=a.length∧br≤1∧fA o∧val (o.take k)+val ((aZ (val b)).take k)=val (a.take k)+4294967296 ^ k*br) (fun k o br=>a.length-k) 0 (List.replicate a.length 0) 0 ⟨Nat.zero_le _,by simp,by omega,fW _,by simp [val]⟩ ?_
  rintro k o br L1 ⟨hk,hol,hbr,hlo,hv⟩
  have hxk:=cL ha k
  have hyk:=bM (val b) k
  refine bY ?_
  refine aQ rfl (fun h24r h24=>?_) (fun h24r h24=>?_)
  ·refine aKv ?_
   refine eH (fun L=>∃ (y:Nat) (L1:St),(y=br+(aZ (val b)).getD k 0)∧L=(((((((((((St.mk L1.slot (hp [(20,⟨1,o.map bX,true⟩)])).put (some 0) (.list 1 (a.map bX))).put (some 1) (bQ (val b))).put (some 6) (.ref 20 1 0 a.length)).put (some 7) (dL br)).put (some 21) (.list 1 (a.map bX))).put (some 22) (aG a.length)).put (some 23) (aG k)).put (some 9) (bX (a.getD k 0))).put (some 8) (aG k)).put (some 10) (dL y))) ?_ ?_
   ·refine aQ rfl (fun h32r h32=>?_) (fun h32r h32=>?_)
    ·refine cQ ?_
     exact⟨br+(aZ (val b)).getD k 0,_,rfl,((aA (aA (aA (aA (aA (aA (aA (aA (aA (aA (bB cl) cl) cl) cl) cl) cl) cl) cl) cl) cl) cl)).symm⟩
    ·refine cU ?_
     exact⟨br,_,by rw [iF _ k (by omega)];rfl,((aA (aA (aA (aA (aA (aA (aA (aA (aA (aA (bB cl) cl) cl) cl) cl) cl) cl) cl) cl) cl) cl)).symm⟩
   ·rintro _ ⟨y,LC32,hy,rfl⟩
    refine bY ?_
    refine aB rfl (.bin rfl rfl (aGz (by omega))) ?_
    refine yC ?_
    exact nx3 (k+1) (o.set k ((18446744073709551616+a.getD k 0-y) % 18446744073709551616 % 4294967296)) ((18446744073709551616+a.getD k 0-y) % 18446744073709551616/9223372036854775808) ⟨by omega,by simp [hol],aGe (by omega) hbr hxk hyk hlo hv hy rfl⟩
  ·obtain rfl:k=a.length:=by omega
   refine eI ?_
   refine cpf [20] fm1 (gC _ (by first | assumption | exact aW _) (by omega)) ?_
   refine dX ?_
   have e:=aDv ha hlo hol hbl (by rw [aX];exact hle) hv
   rw [fY hlo,aX] at e
   have e2:=congrArg val e
   rw [aX,aX] at e2
   rw [←e2]
   exact pM rfl (.pure (aR _)) rfl (.pure rfl)
theorem aBj {c x y z:Nat} (hc:c<4294967296) (hx:x<4294967296) (hy:y<4294967296) (hz:z<4294967296):c+(x*y+z)<18446744073709551616:=by
 have:=nO hx hy;omega
theorem mul_zero {i x:Nat} {a b o:List Nat} (hx:x=a.getD i 0) (h0:x=0) (hv:val o=val (a.take i)*val b):val o=val (a.take (i+1))*val b:=by
 rw [cI,←hx,h0];simpa using hv
theorem xG {i m j x:Nat} {o:List Nat} (hj:j<m) (hz:∀ p,i+m≤p→o.getD p 0=0):∀ p,i+m≤p→(o.set (i+j) x).getD p 0=0:=fun p hp=>by
 rw [Go.Lg.getD_set_ne _ _ _ _ (by omega)];exact hz p hp
theorem xS {i m x:Nat} {o:List Nat} (hz:∀ p,i+m≤p→o.getD p 0=0):∀ p,i+1+m≤p→(o.set (i+m) x).getD p 0=0:=fun p hp=>by
 rw [Go.Lg.getD_set_ne _ _ _ _ (by omega)];exact hz p (by omega)
theorem v7 (n p:Nat):(List.replicate n 0).getD p 0=0:=by
 rw [List.getD_eq_getElem?_getD,List.getElem?_replicate];split<;>rfl
namespace Zq53
theorem cK {p q:Prop} (k:q) (e:p=q:=by simp only [e1,e2,e3,e4,p1,p2,p3,q1,q2,q3,l1,t0,t1,r1,r2,r3,r4,Nat.zero_add,Nat.reduceMul,Nat.reduceAdd,b1,b2,b3,b4,b5,b6,i1,i2,i3,i4,i5,i6,Nat.reduceBEq,eQ,eij];exact rfl):p:=e.mpr k
end Zq53
open Zq53 in
theorem mX (a b:List Nat) (ha:fA a) (hb:fA b) (hla:a.length≤1099511627776) (hlb:b.length≤1099511627776):aN Tryz.prog 174 [fF a,fF b] (bQ (val a*val b)):=by
 unfold fF
 refine dJ Tryz.func174 ?_
 have eij:True:=trivial
 refine cH ?_
 refine b9 rfl rfl (.mkE (n:=a.length+b.length) (m:=a.length+b.length) ml ml om om om) ?_
 refine cH ?_
 refine wE (fun(i:Nat) (o:List Nat) L=>(((((((St.mk L.slot (hp [(16,⟨1,o.map bX,true⟩)])).put (some 0) (.list 1 (a.map bX))).put (some 1) (.list 1 (b.map bX))).put (some 5) (.ref 16 1 0 (a.length+b.length))).put (some 17) (.list 1 (a.map bX))).put (some 18) (aG a.length)).put (some 19) (aG i))) (fun i o=>i≤a.length∧o.length=a.length+b.length∧fA o∧val o=val (a.take i)*val b∧∀ p,i+b.length≤p→o.getD p 0=0) (fun i o=>a.length-i) 0 (List.replicate (a.length+b.length) 0) ⟨Nat.zero_le _,by simp,fW _,by simp [val,oQ],fun p _=>v7 _ _⟩ ?_
 rintro i o L1 ⟨hi,hol,hlo,hv,hz⟩
 have hxi:=cL ha i
 have eij:True:=trivial
 refine bY ?_
 refine aQ rfl (fun h20r h20=>?_) (fun h20r h20=>?_)
 ·refine nH ?_
  refine aQ rfl (fun h25r h25=>?_) (fun h25r h25=>?_)
  ·refine eP ?_
   exact qI (i+1) o ⟨by omega,hol,hlo,mul_zero rfl (by omega) hv,fun p hp=>hz p (by omega)⟩
  ·refine n8 ?_
   refine lp3 (fun(j:Nat) (o:List Nat) (c:Nat) L=>(((((((((((((St.mk L.slot (hp [(16,⟨1,o.map bX,true⟩)])).put (some 0) (.list 1 (a.map bX))).put (some 1) (.list 1 (b.map bX))).put (some 5) (.ref 16 1 0 (a.length+b.length))).put (some 17) (.list 1 (a.map bX))).put (some 18) (aG a.length)).put (some 19) (aG i)).put (some 6) (aG i)).put (some 7) (bX (a.getD i 0))).put (some 8) (dL c)).put (some 26) (.list 1 (b.map bX))).put (some 27) (aG b.length)).put (some 28) (aG j))) (fun j o c=>j≤b.length∧o.length=a.length+b.length∧fA o∧c<4294967296∧val o+4294967296 ^ (i+j)*c=val (a.take i)*val b+4294967296 ^ i*(a.getD i 0*val (b.take j))∧∀ p,i+b.length≤p→o.getD p 0=0) (fun j o c=>b.length-j) 0 o 0 ⟨Nat.zero_le _,hol,hlo,by omega,by rw [hv];simp [val],hz⟩ ?_
   rintro j o c L2 ⟨hj,hol,hlo,hc,hv,hz⟩
   have hyj:=cL hb j
   have hzj:=cL hlo (i+j)
   have hs:=aBj hc hxi hyj hzj
   have eij:((i:Int)+(j:Int)).toNat=i+j:=by omega
   refine bY ?_
   refine aQ rfl (fun h29r h29=>?_) (fun h29r h29=>?_)
   ·refine aN9 ?_
    exact nx3 (j+1) (o.set (i+j) ((c+(a.getD i 0*b.getD j 0+o.getD (i+j) 0)) % 4294967296)) ((c+(a.getD i 0*b.getD j 0+o.getD (i+j) 0))/4294967296) ⟨by omega,by simp [hol],eM hlo _ _ (Nat.mod_lt _ (by omega)),by omega,aC1 (by omega) hv rfl,xG (by omega) hz⟩
   ·obtain rfl:j=b.length:=by omega
    have eij2:((i:Int)+(b.length:Int)).toNat=i+b.length:=by omega
    refine aAw ?_
    exact qI (i+1) (o.set (i+b.length) (c % 4294967296)) ⟨by omega,by simp [hol],eM hlo _ _ (Nat.mod_lt _ (by omega)),by rw [Nat.mod_eq_of_lt hc];exact aCD (by omega) (by omega) (hz _ (Nat.le_refl _)) rfl rfl hv,xS hz⟩
 ·obtain rfl:i=a.length:=by omega
  refine eI ?_
  refine cpf [16] fm1 (gC _ (by first | assumption | exact aW _) (by first | omega | (simp;done) | (simp;omega))) ?_
  refine cB ?_
  rw [List.take_length] at hv
  rw [←hv]
  exact b8 rfl (by first | exact .pure rfl | exact .pure (bF _) | exact .pure (aR _) | exact .pure (aD.pure _) | exact .pure (aJ cV _ _) | exact .pure (aJ aD _ _))
namespace Zq57
theorem cK {p q:Prop} (k:q) (e:p=q:=by simp only [e1,e2,e3,e4,p1,p2,p3,q1,q2,q3,l1,t0,t1,r1,r2,r3,r4,Nat.zero_add,Nat.reduceMul,Nat.reduceAdd,b1,b2,b3,b4,b5,b6,i1,i2,i3,i4,i5,i6,Nat.reduceBEq,eQ,ej,ek];exact rfl):p:=e.mpr k
end Zq57
open Zq57 in
theorem aEI (a:List Nat) (d:Nat) (ha:fA a) (hla:a.length≤1099511627776) (hd0:0<d) (hd:d<4294967296):aN Tryz.prog 275 [fF a,oK d] (.tup [bQ (val a/d),oK (val a % d)]):=by
 unfold fF
 refine dJ Tryz.func275 ?_
 have ej:True:=trivial
 have ek:True:=trivial
 refine cG ?_
 refine b9 rfl rfl (.mkE (n:=a.length) (m:=a.length) ml ml om om om) ?_
 refine oB ?_
 refine lp3 (fun(k:Nat) (q:List Nat) (r:Nat) L=>((((((St.mk L.slot (hp [(11,⟨1,q.map bX,true⟩)])).put (some 0) (.list 1 (a.map bX))).put (some 1) (oK d)).put (some 6) (.ref 11 1 0 a.length)).put (some 7) (dL r)).put (some 8) (iL ((k:Int)-1)))) (fun k q r=>k≤a.length∧q.length=a.length∧fA q∧r<d∧val (q.drop k)*d+r=val (a.drop k)) (fun k q r=>k) a.length (List.replicate a.length 0) 0 ⟨Nat.le_refl _,by simp,fW _,hd0,by simp [val]⟩ ?_
 rintro k q r L1 ⟨hk,hql,hlq,hr,hv⟩
 refine dP ?_
 refine aQ rfl (fun h16r h16=>?_) (fun h16r h16=>?_)
 ·obtain⟨j,rfl⟩:∃ j,k=j+1:=⟨k-1,by omega⟩
  have ej:(((j+1:Nat):Int)-1).toNat=j:=by omega
  have ek:(((j+1:Nat):Int)-1)=j:=by omega
  have hxj:=cL ha j
  refine aBC ?_
  refine aB rfl (.bin rfl rfl (aBu (by omega) (by omega))) ?_
  refine nH ?_
  exact nx3 j (q.set j ((r*4294967296+a.getD j 0)/d % 4294967296)) ((r*4294967296+a.getD j 0) % d) ⟨by omega,by simp [hql],eM hlq _ _ (Nat.mod_lt _ (by omega)),Nat.mod_lt _ hd0,by rw [Nat.mod_eq_of_lt (aAp hr hxj)];exact xP (by omega) hql hv rfl⟩
 ·obtain rfl:k=0:=by omega
  have ej:True:=trivial
  have ek:True:=trivial
  refine eI ?_
  refine cpf [11] fm1 (gC _ (by first | assumption | exact aW _) (by first | omega | (simp;done) | (simp;omega))) ?_
  refine dP ?_
  obtain⟨E1,E2⟩:=xJ hd0 hr hlq hv
  rw [fY hlq] at E1
  have E3:=congrArg val E1
  rw [aX,aX] at E3
  rw [←E3,←E2]
  have E4:r % 4294967296=r:=Nat.mod_eq_of_lt (by omega)
  refine pM rfl (.pure (aR _)) rfl ?_
  show Imm _ (oK (r % 4294967296)) (oK r)
  rw [E4]
  exact .pure rfl
theorem aAz {s:Nat} (hs:s<32):2 ^ s≤2147483648∧0<2 ^ s:=⟨Nat.pow_le_pow_right (n:=2) (by omega) (show s≤31 by omega),Nat.pow_pos (by omega)⟩
theorem aJc {m:Nat} (h:m<256):(0:Int)≤IntKind.u8.wrap (m:Int)∧(IntKind.u8.wrap (m:Int)).toNat=m:=by
 rw [IntKind.wrap_u8];omega
theorem aHg {x p:Nat} (hx:x<4294967296) (hp:p≤2147483648):x*p≤9223372034707292160:=by
 have:=Nat.mul_le_mul (Nat.le_sub_one_of_lt hx) hp;simpa using this
theorem aBr {x p c:Nat} (hx:x<4294967296) (hc:c<p):(x*p+c)/4294967296<p:=by
 rw [Nat.div_lt_iff_lt_mul (by omega)]
 have:(x+1)*p≤4294967296*p:=Nat.mul_le_mul_right _ hx
 rw [Nat.add_mul] at this
 rw [Nat.mul_comm p];omega
namespace Zq128
theorem cK {p q:Prop} (k:q) (e:p=q:=by simp only [e1,e2,e3,e4,p1,p2,p3,q1,q2,q3,l1,t0,t1,r1,r2,r3,r4,Nat.zero_add,Nat.reduceMul,Nat.reduceAdd,b1,b2,b3,b4,b5,b6,i1,i2,i3,i4,i5,i6,Nat.reduceBEq,eQ];exact rfl):p:=e.mpr k
end Zq128
open Zq128 in
theorem aH8 (a:List Nat) (s:Nat) (ha:fA a) (hla:a.length≤1099511627776) (hs:s<32):gM Tryz.prog 277 [fF a,aG s] (.ref 1 1 0 (a.length+1)) [⟨1,(g7 (a.length+1) (val a*2 ^ s)).map bX,true⟩]:=by
 unfold fF
 refine fnO Tryz.func277 ?_
 refine cG ?_
 refine b9 rfl rfl (.mkE (n:=a.length+1) (m:=a.length+1) ml ml om om om) ?_
 refine jT ?_
 refine lp3 (fun(k:Nat) (o:List Nat) (c:Nat) L=>((((((((St.mk L.slot (hp [(12,⟨1,o.map bX,true⟩)])).put (some 0) (.list 1 (a.map bX))).put (some 1) (aG s)).put (some 5) (.ref 12 1 0 (a.length+1))).put (some 6) (dL c)).put (some 13) (.list 1 (a.map bX))).put (some 14) (aG a.length)).put (some 15) (aG k))) (fun k o c=>k≤a.length∧o.length=a.length+1∧c<2 ^ s∧fA o∧val (o.take k)+4294967296 ^ k*c=val (a.take k)*2 ^ s) (fun k o c=>a.length-k) 0 (List.replicate (a.length+1) 0) 0 ⟨Nat.zero_le _,by simp,(aAz hs).2,fW _,by simp [val]⟩ ?_
 rintro k o c L1 ⟨hk,hol,hc,hlo,hv⟩
 have hxk:=cL ha k
 obtain⟨hp1,hp2⟩:=aAz hs
 have hsx:=aHg hxk hp1
 refine bY ?_
 refine aQ rfl (fun h16r h16=>?_) (fun h16r h16=>?_)
 ·refine qG ?_
  refine aB rfl (.sh rfl rfl (aLc (by omega) (by omega))) ?_
  refine aB rfl (.bin rfl rfl (orV hc (by omega))) ?_
  refine yC ?_
  exact nx3 (k+1) (o.set k ((a.getD k 0*2 ^ s+c) % 4294967296)) ((a.getD k 0*2 ^ s+c)/4294967296) ⟨by omega,by simp [hol],aBr hxk hc,eM hlo _ _ (Nat.mod_lt _ (by omega)),aDY (by omega) hv rfl⟩
 ·obtain rfl:k=a.length:=by omega
  refine aAw ?_
  have hc2:c % 4294967296=c:=Nat.mod_eq_of_lt (by omega)
  have E:=aDW hol hv
  have E2:=uJ (eM hlo a.length c (by omega)) (by simp only [List.length_set];exact hol)
  rw [E] at E2
  rw [←E2]
  simp only [hc2]
  exact rV rfl rfl (aF cV _)
open H0 in
theorem aGx (n:Nat) (hn:n<18446744073709551616):aN Tryz.prog 238 [dL n] (bQ n):=by
 have hL:fA [n % 4294967296,n/4294967296 % 4294967296]:=by
  intro x hx;simp at hx;omega
 have hV:val [n % 4294967296,n/4294967296 % 4294967296]=n:=by rw [zQ];omega
 refine dJ Tryz.func238 ?_
 refine fI ?_
 refine cpf [8] fm1 (gC _ (by first | assumption | exact aW _) (by first | omega | (simp;done) | (simp;omega))) ?_
 refine cB ?_
 skip
 exact b8 rfl (by rw [hV];exact .pure (aR _))
namespace Zq41
theorem v5 {p q:Prop} (k:q) (e:p=q:=by simp only [e1,e2,e3,e4,p1,p2,p3,q1,q2,q3,l1,t0,t1,r1,r2,r3,r4,Nat.zero_add,Nat.reduceMul,Nat.reduceAdd,b1,b2,b3,b4,b5,b6,i1,i2,i3,i4,i5,i6,Nat.reduceBEq,hbn];exact rfl):p:=e.mpr k
theorem nf1 {p:Prop} (h:p:=by first | (refine v5 ?_;exact rfl) | exact rfl):p:=h
end Zq41
open Zq41 H0 in
theorem aC6 (n:Nat) (hn:n<4294967296):aN Tryz.prog 150 [oK n] (iL (eC n)):=by
 refine dJ Tryz.func150 ?_
 refine cH ?_
 refine eH (fun L=>∃ (m:Nat) (q:Nat) (L1:St),(eC n=q+eC m∧m<65536∧q≤16)∧L=(((St.mk L1.slot (hp [])).put (some 0) (oK m)).put (some 2) (iL q))) ?_ ?_
 ·refine aQ rfl (fun h4r h4=>?_) (fun h4r h4=>?_)
  ·refine dI ?_
   refine aB rfl (.sh rfl rfl (aGu (m:=16) (by decide))) ?_
   refine dP ?_
   exact⟨n/2 ^ 16,16,_,⟨rJ (by omega),by omega,by omega⟩,((aA (aA (bB cl) cl) cl)).symm⟩
  ·refine cU ?_
   exact⟨n,0,_,⟨by omega,by omega,by omega⟩,((aA (aA (bB cl) cl) cl)).symm⟩
 ·rintro _ ⟨m,q,LC4,⟨hb1,hm,hq⟩,rfl⟩
  refine eI ?_
  refine eH (fun L=>∃ (m2:Nat) (q2:Nat) (L1:St),(eC n=q2+eC m2∧m2<256∧q2≤24)∧L=(((St.mk L1.slot (hp [])).put (some 0) (oK m2)).put (some 2) (iL q2))) ?_ ?_
  ·refine aQ rfl (fun h8r h8=>?_) (fun h8r h8=>?_)
   ·refine dI ?_
    refine aB rfl (.sh rfl rfl (aGu (m:=8) (by decide))) ?_
    refine eP ?_
    exact⟨m/2 ^ 8,q+8,_,⟨by rw [hb1,rJ (n:=m) (k:=8) (by omega)];omega,by omega,by omega⟩,((aA (aA (bB cl) cl) cl)).symm⟩
   ·refine cU ?_
    exact⟨m,q,_,⟨hb1,by omega,by omega⟩,((aA (aA (bB cl) cl) cl)).symm⟩
  ·rintro _ ⟨m2,q2,LC8,⟨hb2,hm2,hq2⟩,rfl⟩
   have hb8:eC m2≤8:=iS.2 hm2
   have hbn:(UInt8.ofNat (eC m2)).toNat=eC m2:=(by decide:∀ k,k≤8→(UInt8.ofNat k).toNat=k) _ hb8
   refine bY ?_
   refine aB rfl (.indexS (b:=UInt8.ofNat (eC m2)) rfl Tryz.underlying9 rfl (aJc hm2).1 (by rw [(aJc hm2).2];exact tbl (by decide +kernel) hm2)) ?_
   refine aB rfl (.cvI Tryz.underlying5 Tryz.underlying3 rfl (by omega) (by omega)) ?_
   refine aB rfl (.bin rfl rfl (oE (by omega) (by omega))) ?_
   refine bD ?_
   refine jB nf1 ?_
   refine cU ?_
   rw [hb2]
   exact b8 rfl (by first | exact .pure rfl | (rw [hbn];exact .pure rfl))
open H0 in
theorem aKx (n:Nat) (hn:n<4294967296):aN Tryz.prog 276 [oK n] (iL (32-eC n)):=by
 have hb:eC n≤32:=iS.2 hn
 refine dJ Tryz.func276 ?_
 refine eI ?_
 refine cp cS (aC6 _ (by omega)) ?_
 refine dX ?_
 exact b8 rfl (by first | exact .pure rfl | exact .pure (bF _) | exact .pure (aR _) | exact .pure (aD.pure _) | exact .pure (aJ cV _ _) | exact .pure (aJ aD _ _))
theorem m9 (l:List Nat) (h:fA l) (hl:l.length≤1099511627776):(aZ (val l)).length≤1099511627776:=Nat.le_trans (tG h) hl
theorem aAA {n:Nat} (h:0<(aZ n).length):32*((aZ n).length-1)+eC ((aZ n).getD ((aZ n).length-1) 0)=eC n:=by
 have:=aG0 (aW n) (rD n) h
 rw [aX] at this;omega
namespace Zq49
theorem cK {p q:Prop} (k:q) (e:p=q:=by simp only [e1,e2,e3,e4,p1,p2,p3,q1,q2,q3,l1,t0,t1,r1,r2,r3,r4,Nat.zero_add,Nat.reduceMul,Nat.reduceAdd,b1,b2,b3,b4,b5,b6,i1,i2,i3,i4,i5,i6,Nat.reduceBEq,eQ,ej];exact rfl):p:=e.mpr k
end Zq49
open Zq49 in
theorem oS (a:List Nat) (ha:fA a) (hla:a.length≤1099511627776):aN Tryz.prog 81 [fF a] (iL (eC (val a))):=by
 have hlt:=m9 a ha hla
 refine dJ Tryz.func81 ?_
 have ej:True:=trivial
 refine eI ?_
 refine cp cS (gC _ (by first | assumption | exact aW _) (by first | omega | (simp;done) | (simp;omega))) ?_
 refine cQ ?_
 refine aQ rfl (fun h7r h7=>?_) (fun h7r h7=>?_)
 ·have h0:val a=0:=eE.1 (List.eq_nil_of_length_eq_zero (by omega))
  have hz:eC (val a)=0:=gH.2 h0
  refine dP ?_
  rw [hz]
  exact b8 rfl (by first | exact .pure rfl | exact .pure (bF _) | exact .pure (aR _) | exact .pure (aD.pure _) | exact .pure (aJ cV _ _) | exact .pure (aJ aD _ _))
 ·have hpos:0<(aZ (val a)).length:=by omega
  have ej:(((aZ (val a)).length:Int)-1).toNat=(aZ (val a)).length-1:=by omega
  have hz:=aAA hpos
  have hlim:=bM (val a) ((aZ (val a)).length-1)
  have hb32:eC ((aZ (val a)).getD ((aZ (val a)).length-1) 0)≤32:=iS.2 hlim
  refine eX ?_
  refine cp cS (aC6 _ (by rw [ej];exact hlim)) ?_
  refine aB rfl (.bin rfl rfl (oE (by simp only [ej,eQ];omega) (by simp only [ej,eQ];omega))) ?_
  refine cB ?_
  refine b8 ?_ (.pure rfl)
  simp only [e1,e2,e3,e4,p1,p2,p3,q1,q2,q3,Nat.reduceBEq]
  congr 2
  omega
namespace Zq10
theorem v5 {p q:Prop} (k:q) (e:p=q:=by simp only [e1,e2,e3,e4,p1,p2,p3,q1,q2,q3,l1,t0,t1,r1,r2,r3,r4,Nat.zero_add,Nat.reduceMul,Nat.reduceAdd,b1,b2,b3,b4,b5,b6,i1,i2,i3,i4,i5,i6,Nat.reduceBEq,List.take_zero,List.take_nil,List.nil_append,aC cV,LV.kill];exact rfl):p:=e.mpr k
theorem nf1 {p:Prop} (h:p:=by first | (refine v5 ?_;exact rfl) | exact rfl):p:=h
end Zq10
open Zq10 H0 in
theorem rI (a:List Nat) (hla:a.length≤1099511627776):aN Tryz.prog 235 [fF a] (fF a):=by
 unfold fF
 refine dJ Tryz.func235 ?_
 refine dP ?_
 refine zV (aHl (sz:=1) (l:=a.map bX) rfl Tryz.underlying29 (fun b hb=>?_))
 refine bD ?_
 refine aQ rfl (fun h4r h4=>?_) (fun h4r h4=>?_)
 ·have hnil:a=[]:=by simpa using hb h4r
  subst hnil
  refine dP ?_
  exact b8 rfl (.nil 1)
 ·refine bY ?_
  refine bC rfl (.app rfl rfl rfl rfl rfl (Nat.zero_le _) (.inr rfl) (by decide) Tryz.underlying29 Tryz.underlying29 z7 kM rfl aBw (.inr (.inl rfl)) (by simp;omega) (by simp;omega) (by decide)) ?_
  refine bD ?_
  refine jB nf1 ?_
  refine cU ?_
  exact jV [7] rfl rfl (cC cV rfl rfl (by simp))
namespace Zq17
theorem cK {p q:Prop} (k:q) (e:p=q:=by simp only [e1,e2,e3,e4,p1,p2,p3,q1,q2,q3,l1,t0,t1,r1,r2,r3,r4,Nat.zero_add,Nat.reduceMul,Nat.reduceAdd,b1,b2,b3,b4,b5,b6,i1,i2,i3,i4,i5,i6,Nat.reduceBEq,eQ];exact rfl):p:=e.mpr k
end Zq17
open Zq17 in
theorem uE (a b:List Nat) (hla:a.length≤1099511627776) (hlb:b.length≤1099511627776):aN Tryz.prog 172 [fF a,fF b] (bL (decide (a=b))):=by
 unfold fF
 refine dJ Tryz.func172 ?_
 refine iR ?_
 refine aQ rfl (fun h10r h10=>?_) (fun h10r h10=>?_)
 ·have hE:a≠b:=by rintro rfl;omega
  refine dP ?_
  first | (rw [decide_eq_true hE];exact b8 rfl (.pure rfl)) | (rw [decide_eq_false hE];exact b8 rfl (.pure rfl))
 ·have hl:a.length=b.length:=by omega
  clear h10 h10r
  refine cQ ?_
  refine lO (fun(k:Nat) L=>((((((St.mk L.slot (hp [])).put (some 0) (.list 1 (a.map bX))).put (some 1) (.list 1 (b.map bX))).put (some 11) (.list 1 (a.map bX))).put (some 12) (aG a.length)).put (some 13) (aG k))) (fun k=>k≤a.length∧a.take k=b.take k) (fun k=>a.length-k) 0 ⟨Nat.zero_le _,rfl⟩ ?_
  rintro k L1 ⟨hk,ht⟩
  refine bY ?_
  refine aQ rfl (fun h14r h14=>?_) (fun h14r h14=>?_)
  ·refine cQ ?_
   refine aP 9 (by decide +kernel) ?_
   refine cQ ?_
   refine aQ rfl (fun h24r h24=>?_) (fun h24r h24=>?_)
   ·have hE:a≠b:=by rintro rfl;omega
    refine cQ ?_
    first | (rw [decide_eq_true hE];exact b8 rfl (.pure rfl)) | (rw [decide_eq_false hE];exact b8 rfl (.pure rfl))
   ·refine eI ?_
    exact kE (k+1) ⟨by omega,aB5 (by omega) (by omega) ht (by omega)⟩
  ·obtain rfl:k=a.length:=by omega
   have hE:a=b:=by rw [List.take_length,hl,List.take_length] at ht;exact ht
   refine cQ ?_
   first | (rw [decide_eq_true hE];exact b8 rfl (.pure rfl)) | (rw [decide_eq_false hE];exact b8 rfl (.pure rfl))
namespace Zq136
theorem cK {p q:Prop} (k:q) (e:p=q:=by simp only [e1,e2,e3,e4,p1,p2,p3,q1,q2,q3,l1,t0,t1,r1,r2,r3,r4,Nat.zero_add,Nat.reduceMul,Nat.reduceAdd,b1,b2,b3,b4,b5,b6,i1,i2,i3,i4,i5,i6,Nat.reduceBEq,ej,ek,eQ];exact rfl):p:=e.mpr k
end Zq136
open Zq136 in
theorem aIt (l:List Nat) (hl:l.length≤4611686018427387904) (h0:0<l.length):fZ Tryz.prog 149 ⟨1,l.map bX,true⟩ [.ref 0 1 0 l.length] (.ref 0 1 0 (fJ l.length l)) ⟨1,l.map bX,true⟩:=by
 refine fnM Tryz.func149 ?_
 have ej:True:=trivial
 have ek:True:=trivial
 refine eX ?_
 refine lO (fun(k:Nat) L=>(((St.mk L.slot (hp [(0,⟨1,l.map bX,true⟩)])).put (some 0) (.ref 0 1 0 l.length)).put (some 3) (aG k))) (fun k=>k≤l.length∧fJ l.length l=fJ k l) (fun k=>k) l.length ⟨Nat.le_refl _,rfl⟩ ?_
 rintro k L1 ⟨hk,hkt⟩
 refine bY ?_
 refine eD 8 rfl (fun h8r h8=>?_) (fun h8r h8=>?_)
 ·obtain⟨j,rfl⟩:∃ j,k=j+1:=⟨k-1,by omega⟩
  have ej:(((j+1:Nat):Int)-1).toNat=j:=by omega
  have ek:(((j+1:Nat):Int)-1)=j:=by omega
  refine eP ?_
  refine aQ rfl (fun h15r h15=>?_) (fun h15r h15=>?_)
  ·refine cG ?_
   exact kE j ⟨by omega,hkt.trans (by simp only [fJ];rw [if_pos (by simpa using h15)])⟩
  ·refine eP ?_
   refine aB rfl (by first | exact .sliceLh (h:=_) cV rfl Tryz.underlying29 kM rfl om | exact .sliceRh rfl Tryz.underlying29 kM rfl om om) ?_
   refine cB ?_
   rw [hkt,fJ,if_neg (by simpa using h15)]
   exact nN rfl .ref rfl rfl (aF cV _)
 ·have hk0:k=0:=by omega
  subst hk0
  refine qG ?_
  refine aB rfl (by first | exact .sliceLh (h:=_) cV rfl Tryz.underlying29 kM rfl om | exact .sliceRh rfl Tryz.underlying29 kM rfl om om) ?_
  refine cB ?_
  rw [hkt]
  exact nN rfl .ref rfl rfl (aF cV _)
theorem aFQ (l:List Nat) (n:Nat) (hn:n=l.length) (hl:n≤4611686018427387904) (h0:0<n):fZ Tryz.prog 149 ⟨1,l.map bX,true⟩ [.ref 0 1 0 n] (.ref 0 1 0 (fJ n l)) ⟨1,l.map bX,true⟩:=by
 subst hn;exact aIt l hl h0
theorem aAS (x s:Nat) (hla:(aZ x).length≤1099511627776) (hs:s<32):gM Tryz.prog 277 [bQ x,aG s] (.ref 1 1 0 ((aZ x).length+1)) [⟨1,(g7 ((aZ x).length+1) (x*2 ^ s)).map bX,true⟩]:=by
 have:=aH8 (aZ x) s (aW x) hla hs
 rw [aX] at this
 exact this
theorem aHo (x:Nat):val [x]=x:=by simp [val]
theorem aLS {x:Nat} (h:x≤32):(32:Int)-(x:Int)=((32-x:Nat):Int):=by omega
namespace Zq51
theorem cK {p q:Prop} (k:q) (e:p=q:=by simp only [e1,e2,e3,e4,p1,p2,p3,q1,q2,q3,l1,t0,t1,r1,r2,r3,r4,Nat.zero_add,Nat.reduceMul,Nat.reduceAdd,b1,b2,b3,b4,b5,b6,i1,i2,i3,i4,i5,i6,Nat.reduceBEq,eQ,aX,ej,ek,es,eV,ej1,ej2,ej3,ehm,ehg,en1,en2,eij,eiij,eqn,egi,egi1,List.set_set,List.length_set,Nat.add_mod_mod,eg2,eg3,ei1,enV];exact rfl):p:=e.mpr k
theorem v5 {p q:Prop} (k:q) (e:p=q:=by simp only [e1,e2,e3,e4,p1,p2,p3,q1,q2,q3,l1,t0,t1,r1,r2,r3,r4,Nat.zero_add,Nat.reduceMul,Nat.reduceAdd,b1,b2,b3,b4,b5,b6,i1,i2,i3,i4,i5,i6,Nat.reduceBEq,eQ,aX,ej,ek,es,eV,ej1,ej2,ej3,ehm,ehg,en1,en2,eij,eiij,eqn,egi,egi1,List.set_set,List.length_set,Nat.add_mod_mod,eg2,eg3,ei1,enV,ehg];exact rfl):p:=e.mpr k
theorem nf1 {p:Prop} (h:p:=by first | (refine v5 ?_;exact rfl) | exact rfl):p:=h
theorem aKa {p q:Prop} (k:q) (e:p=q:=by simp only [e1,e2,e3,e4,p1,p2,p3,q1,q2,q3,l1,t0,t1,r1,r2,r3,r4,Nat.zero_add,Nat.reduceMul,Nat.reduceAdd,b1,b2,b3,b4,b5,b6,i1,i2,i3,i4,i5,i6,Nat.reduceBEq,eQ,aX,ej,ek,es,eV,ej1,ej2,ej3,ehm,ehg,en1,en2,eij,eiij,eqn,egi,egi1,List.set_set,List.length_set,Nat.add_mod_mod,eg2,eg3,ei1,enV,aHo];exact rfl):p:=e.mpr k
theorem nf2 {p:Prop} (h:p:=by first | (refine aKa ?_;exact rfl) | exact rfl):p:=h
theorem aNE {p q:Prop} (k:q) (e:p=q:=by simp only [e1,e2,e3,e4,p1,p2,p3,q1,q2,q3,l1,t0,t1,r1,r2,r3,r4,Nat.zero_add,Nat.reduceMul,Nat.reduceAdd,b1,b2,b3,b4,b5,b6,i1,i2,i3,i4,i5,i6,Nat.reduceBEq,eQ,aX,ej,ek,es,eV,ej1,ej2,ej3,ehm,ehg,en1,en2,eij,eiij,eqn,egi,egi1,List.set_set,List.length_set,Nat.add_mod_mod,eg2,eg3,ei1,enV,qR,ehm];exact rfl):p:=e.mpr k
theorem nf3 {p:Prop} (h:p:=by first | (refine aNE ?_;exact rfl) | exact rfl):p:=h
theorem aLj {p q:Prop} (k:q) (e:p=q:=by simp only [e1,e2,e3,e4,p1,p2,p3,q1,q2,q3,l1,t0,t1,r1,r2,r3,r4,Nat.zero_add,Nat.reduceMul,Nat.reduceAdd,b1,b2,b3,b4,b5,b6,i1,i2,i3,i4,i5,i6,Nat.reduceBEq,eQ,aX,ej,ek,es,eV,ej1,ej2,ej3,ehm,ehg,en1,en2,eij,eiij,eqn,egi,egi1,List.set_set,List.length_set,Nat.add_mod_mod,eg2,eg3,ei1,enV,enV];exact rfl):p:=e.mpr k
theorem nf4 {p:Prop} (h:p:=by first | (refine aLj ?_;exact rfl) | exact rfl):p:=h
theorem kT {p:Prop} (h:p:=by first | rfl | (refine aLj ?_;first | exact trivial | rfl | (congr 3<;>omega) | (congr 2<;>omega))):p:=h
theorem aOK {p q:Prop} (k:q) (e:p=q:=by simp only [e1,e2,e3,e4,p1,p2,p3,q1,q2,q3,l1,t0,t1,r1,r2,r3,r4,Nat.zero_add,Nat.reduceMul,Nat.reduceAdd,b1,b2,b3,b4,b5,b6,i1,i2,i3,i4,i5,i6,Nat.reduceBEq,eQ,aX,ej,ek,es,eV,ej1,ej2,ej3,ehm,ehg,en1,en2,eij,eiij,eqn,egi,egi1,List.set_set,List.length_set,Nat.add_mod_mod,eg2,eg3,ei1,enV,enV,ehm];exact rfl):p:=e.mpr k
theorem cl5 {p:Prop} (h:p:=by first | rfl | (refine aOK ?_;first | exact trivial | rfl | (congr 3<;>omega) | (congr 2<;>omega))):p:=h
theorem aMX {p q:Prop} (k:q) (e:p=q:=by simp only [e1,e2,e3,e4,p1,p2,p3,q1,q2,q3,l1,t0,t1,r1,r2,r3,r4,Nat.zero_add,Nat.reduceMul,Nat.reduceAdd,b1,b2,b3,b4,b5,b6,i1,i2,i3,i4,i5,i6,Nat.reduceBEq,eQ,aX,ej,ek,es,eV,ej1,ej2,ej3,ehm,ehg,en1,en2,eij,eiij,eqn,egi,egi1,List.set_set,List.length_set,Nat.add_mod_mod,eg2,eg3,ei1,enV,←hT];exact rfl):p:=e.mpr k
theorem nf6 {p:Prop} (h:p:=by first | (refine aMX ?_;exact rfl) | exact rfl):p:=h
end Zq51
open Zq51 in
theorem aFT (b ul ql:List Nat) (n s m q0 j:Nat) (enV:(aZ (val b*2 ^ s)).length=n+2) (hnm:n+2≤m) (hm4:m≤1099511627776) (hq0:q0=m+1-(n+2)) (hk:j+1≤q0) (hul:ul.length=m+1) (hql:ql.length=q0) (hlu:fA ul) (hlq:fA ql) (hvt:2147483648≤(aZ (val b*2 ^ s)).getD (n+1) 0) (hV0:0<(val b*2 ^ s)) (hVlt:(val b*2 ^ s)<4294967296 ^ (n+2)) (hlt:val ul<(val b*2 ^ s)*4294967296 ^ (j+1)) {Q:LEx→St→Prop} (L1:St)
  (hQ:∀ (x:Nat) (L2:St),(val ul/4294967296 ^ j/(val b*2 ^ s)≤x∧x≤val ul/4294967296 ^ j/(val b*2 ^ s)+1∧x<4294967296)→Q .normal ((((((((St.mk L2.slot (hp [(1001057,⟨1,ul.map bX,true⟩),(1001105,⟨1,(g7 ((aZ (val b)).length+1) (val b*2 ^ s)).map bX,false⟩),(77,⟨1,ql.map bX,true⟩)])).put (some 4) (.ref 77 1 0 q0)).put (some 9) (aG s)).put (some 10) (.ref 1001057 1 0 (m+1))).put (some 11) (bQ (val b*2 ^ s))).put (some 12) (aG (n+2))).put (some 13) (iL (((j+1:Nat):Int)-1))).put (some 15) (dL x))) :
  wpL Tryz.prog ((aCy Tryz.f236 [1,1,1,1,1,1,1,0,1,0,0,1,0,0,1,1,0]).getD .skip) Q (((((((((St.mk L1.slot (hp [(1001057,⟨1,ul.map bX,true⟩),(1001105,⟨1,(g7 ((aZ (val b)).length+1) (val b*2 ^ s)).map bX,false⟩),(77,⟨1,ql.map bX,true⟩)])).put (some 4) (.ref 77 1 0 q0)).put (some 9) (aG s)).put (some 10) (.ref 1001057 1 0 (m+1))).put (some 11) (bQ (val b*2 ^ s))).put (some 12) (aG (n+2))).put (some 13) (iL (((j+1:Nat):Int)-1))).put (some 15) (dL ((ul.getD (n+2+j) 0*4294967296+ul.getD (n+1+j) 0)/(aZ (val b*2 ^ s)).getD (n+1) 0))).put (some 16) (dL ((ul.getD (n+2+j) 0*4294967296+ul.getD (n+1+j) 0) % (aZ (val b*2 ^ s)).getD (n+1) 0))):=by
 have ej:True:=trivial
 have ek:True:=trivial
 have es:True:=trivial
 have eV:True:=trivial
 have ej1:True:=trivial
 have ej2:True:=trivial
 have ej3:True:=trivial
 have ehm:True:=trivial
 have ehg:True:=trivial
 have en1:True:=trivial
 have en2:True:=trivial
 have eij:True:=trivial
 have eiij:True:=trivial
 have eqn:True:=trivial
 have egi:True:=trivial
 have egi1:True:=trivial
 have eg2:True:=trivial
 have eg3:True:=trivial
 have ei1:True:=trivial
 have ej1:((j:Int)+((n+2:Nat):Int)).toNat=n+2+j:=by omega
 have ej2:((j:Int)+((n+2:Nat):Int)-1).toNat=n+1+j:=by omega
 have ej3:((j:Int)+((n+2:Nat):Int)-2).toNat=n+j:=by omega
 have en1:(((n+2:Nat):Int)-1).toNat=n+1:=by omega
 have en2:(((n+2:Nat):Int)-2).toNat=n:=by omega
 have ek:(((j+1:Nat):Int)-1)=(j:Int):=by omega
 have hv1l:=bM ((val b*2 ^ s)) (n+1)
 have hv2l:=bM ((val b*2 ^ s)) n
 have hu0:=cL hlu (n+2+j)
 have hu1:=cL hlu (n+1+j)
 have hu2:=cL hlu (n+j)
 obtain⟨vl,rl,hvl,hrl,hVe,hRe,hRV⟩:=aB6 (j:=j) enV (by omega) hlu hlt
 have hun:=aLC hVe hRe hvl hv2l hRV
 have htop:=aKS hVe hRe hrl hu2 (by omega)
 have hqB:val ul/4294967296 ^ j/(val b*2 ^ s)<4294967296:=by rw [Nat.div_lt_iff_lt_mul hV0,Nat.mul_comm];exact hRV
 refine wL rfl ?_
 refine bD ?_
 refine wE (fun(x rest:Nat) L=>(((((((((St.mk L.slot (hp [(1001057,⟨1,ul.map bX,true⟩),(1001105,⟨1,(g7 ((aZ (val b)).length+1) (val b*2 ^ s)).map bX,false⟩),(77,⟨1,ql.map bX,true⟩)])).put (some 4) (.ref 77 1 0 q0)).put (some 9) (aG s)).put (some 10) (.ref 1001057 1 0 (m+1))).put (some 11) (bQ (val b*2 ^ s))).put (some 12) (aG (n+2))).put (some 13) (iL (((j+1:Nat):Int)-1))).put (some 15) (dL x)).put (some 16) (dL rest))) (fun x rest=>val ul/4294967296 ^ j/(val b*2 ^ s)≤x∧x*(aZ (val b*2 ^ s)).getD (n+1) 0+rest=(ul.getD (n+2+j) 0*4294967296+ul.getD (n+1+j) 0)∧rest<4294967296) (fun x rest=>x) ((ul.getD (n+2+j) 0*4294967296+ul.getD (n+1+j) 0)/(aZ (val b*2 ^ s)).getD (n+1) 0) ((ul.getD (n+2+j) 0*4294967296+ul.getD (n+1+j) 0) % (aZ (val b*2 ^ s)).getD (n+1) 0) ⟨htop,by rw [Nat.mul_comm];exact Nat.div_add_mod _ _,Nat.lt_trans (Nat.mod_lt _ (by omega)) hv1l⟩ ?_
 rintro x rest L2 ⟨hx,hxr,hrest⟩
 have hxt:x≤x*(aZ (val b*2 ^ s)).getD (n+1) 0:=Nat.le_mul_of_pos_right _ (by omega)
 refine cU ?_
 refine aP 24 (by decide +kernel) ?_
 refine dI ?_
 refine eD 120 rfl (fun h120r h120=>?_) (fun h120r h120=>?_)
 ·have hxd:val ul/4294967296 ^ j/(val b*2 ^ s)≤x-1:=by omega
  have hx0:1≤x:=by omega
  refine aKv ?_
  have hxr2:(x-1)*(aZ (val b*2 ^ s)).getD (n+1) 0+(rest+(aZ (val b*2 ^ s)).getD (n+1) 0)=(ul.getD (n+2+j) 0*4294967296+ul.getD (n+1+j) 0):=by
   have e:(x-1)*(aZ (val b*2 ^ s)).getD (n+1) 0+(aZ (val b*2 ^ s)).getD (n+1) 0=x*(aZ (val b*2 ^ s)).getD (n+1) 0:=by rw [←Nat.succ_mul];congr 1;omega
   omega
  refine yC ?_
  refine aQ rfl (fun h153r h153=>?_) (fun h153r h153=>?_)
  ·have hbk:=aBA (u2:=ul.getD (n+j) 0) hxr2 hun hu1 hv2l (by omega)
   refine cB ?_
   exact lV (hQ (x-1) _ ⟨hxd,aCq hVe hRe hvl (by omega) hV0 hxr2 (Nat.le_of_lt hbk.1) hbk.2,hbk.1⟩) (aA (aA (aA (aA (aA (aA (aA (bB cl) cl) cl) cl) cl) cl) cl) cl)
  ·refine dI ?_
   exact qI (x-1) (rest+(aZ (val b*2 ^ s)).getD (n+1) 0) ⟨hxd,hxr2,by omega⟩
 ·have hmul:=nO (show x<4294967296 by omega) hv2l
  refine aAw ?_
  refine aQ rfl (fun h141r h141=>?_) (fun h141r h141=>?_)
  ·have hx0:1≤x:=by
    rcases Nat.eq_zero_or_pos x with e | e
    ·rw [e,Nat.zero_mul] at h141;omega
    ·exact e
   have hxd:val ul/4294967296 ^ j/(val b*2 ^ s)≤x-1:=by have:=aKf hVe hRe hrl hV0 hxr (by omega);omega
   refine cB ?_
   have hxr2:(x-1)*(aZ (val b*2 ^ s)).getD (n+1) 0+(rest+(aZ (val b*2 ^ s)).getD (n+1) 0)=(ul.getD (n+2+j) 0*4294967296+ul.getD (n+1+j) 0):=by
    have e:(x-1)*(aZ (val b*2 ^ s)).getD (n+1) 0+(aZ (val b*2 ^ s)).getD (n+1) 0=x*(aZ (val b*2 ^ s)).getD (n+1) 0:=by rw [←Nat.succ_mul];congr 1;omega
    omega
   refine yC ?_
   refine aQ rfl (fun h153r h153=>?_) (fun h153r h153=>?_)
   ·have hbk:=aBA (u2:=ul.getD (n+j) 0) hxr2 hun hu1 hv2l (by omega)
    refine cB ?_
    exact lV (hQ (x-1) _ ⟨hxd,aCq hVe hRe hvl (by omega) hV0 hxr2 (Nat.le_of_lt hbk.1) hbk.2,hbk.1⟩) (aA (aA (aA (aA (aA (aA (aA (bB cl) cl) cl) cl) cl) cl) cl) cl)
   ·refine dI ?_
    exact qI (x-1) (rest+(aZ (val b*2 ^ s)).getD (n+1) 0) ⟨hxd,hxr2,by omega⟩
  ·refine cB ?_
   exact lV (hQ (x) _ ⟨hx,aCq hVe hRe hvl (by omega) hV0 hxr (by omega) (by omega),by omega⟩) (aA (aA (aA (aA (aA (aA (aA (bB cl) cl) cl) cl) cl) cl) cl) cl)
open Zq51 in
theorem aCc (b ul ql:List Nat) (n s m q0 j:Nat) (enV:(aZ (val b*2 ^ s)).length=n+2) (hnm:n+2≤m) (hm4:m≤1099511627776) (hq0:q0=m+1-(n+2)) (hk:j+1≤q0) (hul:ul.length=m+1) (hql:ql.length=q0) (hlu:fA ul) (hlq:fA ql) (hvt:2147483648≤(aZ (val b*2 ^ s)).getD (n+1) 0) (hV0:0<(val b*2 ^ s)) (hVlt:(val b*2 ^ s)<4294967296 ^ (n+2)) (hlt:val ul<(val b*2 ^ s)*4294967296 ^ (j+1)) (x:Nat) (hx1:val ul/4294967296 ^ j/(val b*2 ^ s)≤x) (hxB:x<4294967296) {Q:LEx→St→Prop} (L1:St)
  (hQ:∀ (wl:List Nat) (c:Nat) (br:Nat) (L2:St),(wl.length=m+1∧fA wl∧c<4294967296∧br≤1∧val wl+4294967296 ^ j*(x*(val b*2 ^ s))=val ul+4294967296 ^ (n+2+j)*(c+br)∧∀ p,n+2+j≤p→wl.getD p 0=ul.getD p 0)→Q .normal ((((((((((St.mk L2.slot (hp [(1001057,⟨1,wl.map bX,true⟩),(1001105,⟨1,(g7 ((aZ (val b)).length+1) (val b*2 ^ s)).map bX,false⟩),(77,⟨1,ql.map bX,true⟩)])).put (some 4) (.ref 77 1 0 q0)).put (some 9) (aG s)).put (some 10) (.ref 1001057 1 0 (m+1))).put (some 11) (bQ (val b*2 ^ s))).put (some 12) (aG (n+2))).put (some 13) (iL (((j+1:Nat):Int)-1))).put (some 15) (dL x)).put (some 17) (dL br)).put (some 18) (dL c))) :
  wpL Tryz.prog ((aCy Tryz.f236 [1,1,1,1,1,1,1,0,1,0,0,1,0,0,1,1,1,1,0,1]).getD .skip) Q (((((((((((((St.mk L1.slot (hp [(1001057,⟨1,ul.map bX,true⟩),(1001105,⟨1,(g7 ((aZ (val b)).length+1) (val b*2 ^ s)).map bX,false⟩),(77,⟨1,ql.map bX,true⟩)])).put (some 4) (.ref 77 1 0 q0)).put (some 9) (aG s)).put (some 10) (.ref 1001057 1 0 (m+1))).put (some 11) (bQ (val b*2 ^ s))).put (some 12) (aG (n+2))).put (some 13) (iL (((j+1:Nat):Int)-1))).put (some 15) (dL x)).put (some 17) (dL 0)).put (some 18) (dL 0)).put (some 154) (bQ (val b*2 ^ s))).put (some 155) (aG (n+2))).put (some 156) (aG 0)):=by
 have ej:True:=trivial
 have ek:True:=trivial
 have es:True:=trivial
 have eV:True:=trivial
 have ej1:True:=trivial
 have ej2:True:=trivial
 have ej3:True:=trivial
 have ehm:True:=trivial
 have ehg:True:=trivial
 have en1:True:=trivial
 have en2:True:=trivial
 have eij:True:=trivial
 have eiij:True:=trivial
 have eqn:True:=trivial
 have egi:True:=trivial
 have egi1:True:=trivial
 have eg2:True:=trivial
 have eg3:True:=trivial
 have ei1:True:=trivial
 have ej1:((j:Int)+((n+2:Nat):Int)).toNat=n+2+j:=by omega
 have ej2:((j:Int)+((n+2:Nat):Int)-1).toNat=n+1+j:=by omega
 have ej3:((j:Int)+((n+2:Nat):Int)-2).toNat=n+j:=by omega
 have en1:(((n+2:Nat):Int)-1).toNat=n+1:=by omega
 have en2:(((n+2:Nat):Int)-2).toNat=n:=by omega
 have ek:(((j+1:Nat):Int)-1)=(j:Int):=by omega
 have hv1l:=bM ((val b*2 ^ s)) (n+1)
 have hv2l:=bM ((val b*2 ^ s)) n
 have hu0:=cL hlu (n+2+j)
 have hu1:=cL hlu (n+1+j)
 have hu2:=cL hlu (n+j)
 refine wL rfl ?_
 refine bD ?_
 refine lp4 (fun(i:Nat) (wl:List Nat) (c br:Nat) L=>(((((((((((((St.mk L.slot (hp [(1001057,⟨1,wl.map bX,true⟩),(1001105,⟨1,(g7 ((aZ (val b)).length+1) (val b*2 ^ s)).map bX,false⟩),(77,⟨1,ql.map bX,true⟩)])).put (some 4) (.ref 77 1 0 q0)).put (some 9) (aG s)).put (some 10) (.ref 1001057 1 0 (m+1))).put (some 11) (bQ (val b*2 ^ s))).put (some 12) (aG (n+2))).put (some 13) (iL (((j+1:Nat):Int)-1))).put (some 15) (dL x)).put (some 17) (dL br)).put (some 18) (dL c)).put (some 154) (bQ (val b*2 ^ s))).put (some 155) (aG (n+2))).put (some 156) (aG i))) (fun i wl c br=>i≤n+2∧wl.length=m+1∧fA wl∧c<4294967296∧br≤1∧val wl+4294967296 ^ j*(x*val ((aZ (val b*2 ^ s)).take i))=val ul+4294967296 ^ (i+j)*(c+br)∧∀ p,n+2+j≤p→wl.getD p 0=ul.getD p 0) (fun i wl c br=>n+2-i) 0 ul 0 0 ⟨Nat.zero_le _,hul,hlu,by omega,by omega,by simp [val],fun _ _=>rfl⟩ (h0:=⟨_,a7.of_eq (aA (aA (aA (aA (aA (aA (aA (aA (aA (aA (aA (aA (bB kT) kT) kT) kT) kT) kT) kT) kT) kT) kT) kT) kT) kT)⟩) ?_
 rintro i wl c br L3 ⟨hi,hwl,hlw,hc,hbr,hv5,hz5⟩
 have eij:((i:Int)+(j:Int)).toNat=i+j:=by omega
 have hvi:=bM (val b*2 ^ s) i
 have hmul:=nO hxB hvi
 have hwi:=cL hlw (i+j)
 refine bY ?_
 refine aQ rfl (fun h157r h157=>?_) (fun h157r h157=>?_)
 ·refine aK2 ?_
  refine aB rfl (.bin rfl rfl (aN0)) ?_
  refine aB rfl (.bin rfl rfl (aGz (by omega))) ?_
  refine bD ?_
  refine aB rfl (.bin rfl rfl (aGz (by omega))) ?_
  refine aK2 ?_
  exact nx4 (i+1) (wl.set (i+j) (((18446744073709551616+(18446744073709551616+wl.getD (i+j) 0-(c+x*(aZ (val b*2 ^ s)).getD i 0) % 4294967296) % 18446744073709551616-br) % 18446744073709551616) % 4294967296)) ((c+x*(aZ (val b*2 ^ s)).getD i 0)/4294967296) (((18446744073709551616+(18446744073709551616+wl.getD (i+j) 0-(c+x*(aZ (val b*2 ^ s)).getD i 0) % 4294967296) % 18446744073709551616-br) % 18446744073709551616)/9223372036854775808) (by
   obtain⟨g1,g2,g3⟩:=aJ5 (by omega) hlw hbr hv5 (c1:=(c+x*(aZ (val b*2 ^ s)).getD i 0)) rfl rfl
   exact⟨by omega,by simp [hwl],g2,by omega,g1,g3,fun p hp=>by rw [Go.Lg.getD_set_ne _ _ _ _ (by omega)];exact hz5 p hp⟩) (he:=a7.of_eq (aA (aA (aA (aA (aA (aA (aA (aA (aA (aA (aA (aA (bB kT) kT) kT) kT) kT) kT) kT) kT) kT) kT) kT) kT) kT))
 ·obtain rfl:i=n+2:=by omega
  rw [List.take_of_length_le (by omega),aX] at hv5
  refine cB ?_
  exact lV (hQ (wl) (c) (br) _ ⟨hwl,hlw,hc,hbr,hv5,hz5⟩) (aA (aA (aA (aA (aA (aA (aA (aA (aA (bB cl) cl) cl) cl) cl) cl) cl) cl) cl) cl)
open Zq51 in
theorem aGk (b ul ql:List Nat) (n s m q0 j:Nat) (enV:(aZ (val b*2 ^ s)).length=n+2) (hnm:n+2≤m) (hm4:m≤1099511627776) (hq0:q0=m+1-(n+2)) (hk:j+1≤q0) (hul:ul.length=m+1) (hql:ql.length=q0) (hlu:fA ul) (hlq:fA ql) (hvt:2147483648≤(aZ (val b*2 ^ s)).getD (n+1) 0) (hV0:0<(val b*2 ^ s)) (hVlt:(val b*2 ^ s)<4294967296 ^ (n+2)) (hlt:val ul<(val b*2 ^ s)*4294967296 ^ (j+1)) (x:Nat) (hx1:val ul/4294967296 ^ j/(val b*2 ^ s)≤x) (hx2:x≤val ul/4294967296 ^ j/(val b*2 ^ s)+1) (hxB:x<4294967296) (wl:List Nat) (c br:Nat) (hwl:wl.length=m+1) (hlw:fA wl) (hc:c<4294967296) (hbr:br≤1) (hv5:val wl+4294967296 ^ j*(x*(val b*2 ^ s))=val ul+4294967296 ^ (n+2+j)*(c+br)) (hz5:∀ p,n+2+j≤p→wl.getD p 0=ul.getD p 0) {Q:LEx→St→Prop} (L1:St)
  (hQ:∀ (w4:List Nat) (x4:Nat) (L2:St),(x4=val ul/4294967296 ^ j/(val b*2 ^ s)∧w4.length=m+1∧fA w4∧val w4+4294967296 ^ j*(x4*(val b*2 ^ s))=val ul)→Q .normal ((((((((St.mk L2.slot (hp [(1001057,⟨1,w4.map bX,true⟩),(1001105,⟨1,(g7 ((aZ (val b)).length+1) (val b*2 ^ s)).map bX,false⟩),(77,⟨1,ql.map bX,true⟩)])).put (some 4) (.ref 77 1 0 q0)).put (some 9) (aG s)).put (some 10) (.ref 1001057 1 0 (m+1))).put (some 11) (bQ (val b*2 ^ s))).put (some 12) (aG (n+2))).put (some 13) (iL (((j+1:Nat):Int)-1))).put (some 15) (dL x4))) :
  wpL Tryz.prog ((aCy Tryz.f236 [1,1,1,1,1,1,1,0,1,0,0,1,0,0,1,1,1,1,1,1,1,0,1]).getD .skip) Q ((((((((((St.mk L1.slot (hp [(1001057,⟨1,(wl.set (n+2+j) (((18446744073709551616+(18446744073709551616+wl.getD (n+2+j) 0-c) % 18446744073709551616-br) % 18446744073709551616) % 4294967296)).map bX,true⟩),(1001105,⟨1,(g7 ((aZ (val b)).length+1) (val b*2 ^ s)).map bX,false⟩),(77,⟨1,ql.map bX,true⟩)])).put (some 4) (.ref 77 1 0 q0)).put (some 9) (aG s)).put (some 10) (.ref 1001057 1 0 (m+1))).put (some 11) (bQ (val b*2 ^ s))).put (some 12) (aG (n+2))).put (some 13) (iL (((j+1:Nat):Int)-1))).put (some 15) (dL x)).put (some 22) (dL ((18446744073709551616+(18446744073709551616+wl.getD (n+2+j) 0-c) % 18446744073709551616-br) % 18446744073709551616))).put (some 211) (.v (.bool (((((18446744073709551616+(18446744073709551616+wl.getD (n+2+j) 0-c) % 18446744073709551616-br) % 18446744073709551616)/9223372036854775808:Nat):Int) != 0)))):=by
 have ej:True:=trivial
 have ek:True:=trivial
 have es:True:=trivial
 have eV:True:=trivial
 have ej1:True:=trivial
 have ej2:True:=trivial
 have ej3:True:=trivial
 have ehm:True:=trivial
 have ehg:True:=trivial
 have en1:True:=trivial
 have en2:True:=trivial
 have eij:True:=trivial
 have eiij:True:=trivial
 have eqn:True:=trivial
 have egi:True:=trivial
 have egi1:True:=trivial
 have eg2:True:=trivial
 have eg3:True:=trivial
 have ei1:True:=trivial
 have ej1:((j:Int)+((n+2:Nat):Int)).toNat=n+2+j:=by omega
 have ej2:((j:Int)+((n+2:Nat):Int)-1).toNat=n+1+j:=by omega
 have ej3:((j:Int)+((n+2:Nat):Int)-2).toNat=n+j:=by omega
 have en1:(((n+2:Nat):Int)-1).toNat=n+1:=by omega
 have en2:(((n+2:Nat):Int)-2).toNat=n:=by omega
 have ek:(((j+1:Nat):Int)-1)=(j:Int):=by omega
 have hv1l:=bM ((val b*2 ^ s)) (n+1)
 have hv2l:=bM ((val b*2 ^ s)) n
 have hu0:=cL hlu (n+2+j)
 have hu1:=cL hlu (n+1+j)
 have hu2:=cL hlu (n+j)
 have hz:=tZ (n:=n+2) (j:=j) hVlt hlt
 obtain⟨hlw2,hd2,hv6⟩:=aDo (n:=n+2) (by omega) hlw hbr hc hv5 rfl rfl
 have hwt:=cL hlw (n+2+j)
 refine wL rfl ?_
 refine aQ rfl (fun h211r h211=>?_) (fun h211r h211=>?_)
 ·have hd1:((18446744073709551616+(18446744073709551616+wl.getD (n+2+j) 0-c) % 18446744073709551616-br) % 18446744073709551616)/9223372036854775808=1:=by omega
  have hgt:=aLy (V:=(val b*2 ^ s)) (n:=n+2) (j:=j) (x:=x) (ul:=(wl.set (n+2+j) (((18446744073709551616+(18446744073709551616+wl.getD (n+2+j) 0-c) % 18446744073709551616-br) % 18446744073709551616) % 4294967296))) (ul0:=ul) (by rw [hv6,hd1,Nat.mul_one]) (tM hlw2 (fun p hp=>by rw [Go.Lg.getD_set_ne _ _ _ _ (by omega),hz5 p (by omega)];exact hz p hp)) hV0
  have hx0:1≤x:=Nat.lt_of_le_of_lt (Nat.zero_le _) hgt
  refine dI ?_
  refine aB rfl (.bin rfl rfl (aLv (show 1≤x by omega) (by omega))) ?_
  refine jT ?_
  refine lp3 (fun(ii:Nat) (w3:List Nat) (c3:Nat) L=>((((((((((((St.mk L.slot (hp [(1001057,⟨1,w3.map bX,true⟩),(1001105,⟨1,(g7 ((aZ (val b)).length+1) (val b*2 ^ s)).map bX,false⟩),(77,⟨1,ql.map bX,true⟩)])).put (some 4) (.ref 77 1 0 q0)).put (some 9) (aG s)).put (some 10) (.ref 1001057 1 0 (m+1))).put (some 11) (bQ (val b*2 ^ s))).put (some 12) (aG (n+2))).put (some 13) (iL (((j+1:Nat):Int)-1))).put (some 15) (dL (x-1))).put (some 18) (dL c3)).put (some 214) (bQ (val b*2 ^ s))).put (some 215) (aG (n+2))).put (some 216) (aG ii))) (fun ii w3 c3=>ii≤n+2∧w3.length=m+1∧fA w3∧c3≤1∧val w3+4294967296 ^ (ii+j)*c3=val (wl.set (n+2+j) (((18446744073709551616+(18446744073709551616+wl.getD (n+2+j) 0-c) % 18446744073709551616-br) % 18446744073709551616) % 4294967296))+4294967296 ^ j*val ((aZ (val b*2 ^ s)).take ii)∧∀ p,n+2+j+1≤p→w3.getD p 0=0) (fun ii w3 c3=>n+2-ii) 0 (wl.set (n+2+j) (((18446744073709551616+(18446744073709551616+wl.getD (n+2+j) 0-c) % 18446744073709551616-br) % 18446744073709551616) % 4294967296)) 0 ⟨Nat.zero_le _,by simp [hwl],hlw2,by omega,by simp [val],fun p hp=>by rw [Go.Lg.getD_set_ne _ _ _ _ (by omega),hz5 p (by omega)];exact hz p hp⟩ (h0:=⟨_,a7.of_eq (aA (aA (aA (aA (aA (aA (aA (aA (aA (aA (aA (bB kT) kT) kT) kT) kT) kT) kT) kT) kT) kT) kT) kT)⟩) ?_
  rintro ii w3 c3 L4 ⟨hi3,hw3,hl3,hc3,hv7,hz7⟩
  have eiij:((ii:Int)+(j:Int)).toNat=ii+j:=by omega
  have hvi3:=bM (val b*2 ^ s) ii
  have hwi3:=cL hl3 (ii+j)
  refine bY ?_
  refine aQ rfl (fun h217r h217=>?_) (fun h217r h217=>?_)
  ·refine aN3 ?_
   exact nx3 (ii+1) (w3.set (ii+j) ((c3+(w3.getD (ii+j) 0+(aZ (val b*2 ^ s)).getD ii 0)) % 4294967296)) ((c3+(w3.getD (ii+j) 0+(aZ (val b*2 ^ s)).getD ii 0))/4294967296) (by
    obtain⟨g1,g2⟩:=aKu (by omega) hl3 hv7 (s:=(c3+(w3.getD (ii+j) 0+(aZ (val b*2 ^ s)).getD ii 0))) rfl
    exact⟨by omega,by simp [hw3],g1,by omega,g2,fun p hp=>by rw [Go.Lg.getD_set_ne _ _ _ _ (by omega)];exact hz7 p hp⟩) (he:=a7.of_eq (aA (aA (aA (aA (aA (aA (aA (aA (aA (aA (aA (bB kT) kT) kT) kT) kT) kT) kT) kT) kT) kT) kT) kT))
  ·obtain rfl:ii=n+2:=by omega
   rw [List.take_of_length_le (by omega),aX] at hv7
   have hw3t:=cL hl3 (n+2+j)
   have hxe:x-1=val ul/4294967296 ^ j/(val b*2 ^ s):=by omega
   have hxle:4294967296 ^ j*((x-1)*(val b*2 ^ s))≤val ul:=by rw [hxe];exact Nat.le_trans (Nat.mul_le_mul_left _ (Nat.div_mul_le_self _ _)) (Nat.mul_div_le _ _)
   have hbk:=aIh (ul:=(wl.set (n+2+j) (((18446744073709551616+(18446744073709551616+wl.getD (n+2+j) 0-c) % 18446744073709551616-br) % 18446744073709551616) % 4294967296))) (ul0:=ul) (n:=n+2) (j:=j) (x:=x) (V:=(val b*2 ^ s)) (ul3:=w3) (c:=c3) (by omega) hxle (by rw [hv6,hd1,Nat.mul_one]) (by omega) hl3 hz7 hc3 hv7 rfl
   refine eX ?_
   refine aB rfl (.bin rfl rfl (aJJ)) ?_
   refine dI ?_
   exact lV (hQ (w3.set (n+2+j) ((w3.getD (n+2+j) 0+c3) % 4294967296)) (x-1) _ ⟨hxe,by simp [hw3],hbk.1,hbk.2⟩) (aA (aA (aA (aA (aA (aA (aA (bB cl) cl) cl) cl) cl) cl) cl) cl)
 ·have hd0:((18446744073709551616+(18446744073709551616+wl.getD (n+2+j) 0-c) % 18446744073709551616-br) % 18446744073709551616)/9223372036854775808=0:=by omega
  rw [hd0,Nat.mul_zero,Nat.add_zero] at hv6
  have hxF:x=val ul/4294967296 ^ j/(val b*2 ^ s):=by have:=aLn hv6 hV0;omega
  refine bD ?_
  exact lV (hQ ((wl.set (n+2+j) (((18446744073709551616+(18446744073709551616+wl.getD (n+2+j) 0-c) % 18446744073709551616-br) % 18446744073709551616) % 4294967296))) (x) _ ⟨hxF,by simp [hwl],hlw2,hv6⟩) (aA (aA (aA (aA (aA (aA (aA (bB cl) cl) cl) cl) cl) cl) cl) cl)
open Zq51 in
theorem aDO (b ul ql:List Nat) (n s m q0 j:Nat) (enV:(aZ (val b*2 ^ s)).length=n+2) (hnm:n+2≤m) (hm4:m≤1099511627776) (hq0:q0=m+1-(n+2)) (hk:j+1≤q0) (hul:ul.length=m+1) (hql:ql.length=q0) (hlu:fA ul) (hlq:fA ql) (hvt:2147483648≤(aZ (val b*2 ^ s)).getD (n+1) 0) (hV0:0<(val b*2 ^ s)) (hVlt:(val b*2 ^ s)<4294967296 ^ (n+2)) (hlt:val ul<(val b*2 ^ s)*4294967296 ^ (j+1)) {Q:LEx→St→Prop} (L1:St)
  (hQ:∀ (w4:List Nat) (x4:Nat) (L2:St),(x4=val ul/4294967296 ^ j/(val b*2 ^ s)∧w4.length=m+1∧fA w4∧val w4+4294967296 ^ j*(x4*(val b*2 ^ s))=val ul)→Q .normal (((((((St.mk L2.slot (hp [(1001057,⟨1,w4.map bX,true⟩),(1001105,⟨1,(g7 ((aZ (val b)).length+1) (val b*2 ^ s)).map bX,false⟩),(77,⟨1,(ql.set j (x4 % 4294967296)).map bX,true⟩)])).put (some 4) (.ref 77 1 0 q0)).put (some 9) (aG s)).put (some 10) (.ref 1001057 1 0 (m+1))).put (some 11) (bQ (val b*2 ^ s))).put (some 12) (aG (n+2))).put (some 13) (iL (((j+1:Nat):Int)-1)))) :
  wpL Tryz.prog ((aCy Tryz.f236 [1,1,1,1,1,1,1,0,1,0,0,1,0]).getD .skip) Q (((((((St.mk L1.slot (hp [(1001057,⟨1,ul.map bX,true⟩),(1001105,⟨1,(g7 ((aZ (val b)).length+1) (val b*2 ^ s)).map bX,false⟩),(77,⟨1,ql.map bX,true⟩)])).put (some 4) (.ref 77 1 0 q0)).put (some 9) (aG s)).put (some 10) (.ref 1001057 1 0 (m+1))).put (some 11) (bQ (val b*2 ^ s))).put (some 12) (aG (n+2))).put (some 13) (iL (((j+1:Nat):Int)-1))):=by
 have ej:True:=trivial
 have ek:True:=trivial
 have es:True:=trivial
 have eV:True:=trivial
 have ej1:True:=trivial
 have ej2:True:=trivial
 have ej3:True:=trivial
 have ehm:True:=trivial
 have ehg:True:=trivial
 have en1:True:=trivial
 have en2:True:=trivial
 have eij:True:=trivial
 have eiij:True:=trivial
 have eqn:True:=trivial
 have egi:True:=trivial
 have egi1:True:=trivial
 have eg2:True:=trivial
 have eg3:True:=trivial
 have ei1:True:=trivial
 have ej1:((j:Int)+((n+2:Nat):Int)).toNat=n+2+j:=by omega
 have ej2:((j:Int)+((n+2:Nat):Int)-1).toNat=n+1+j:=by omega
 have ej3:((j:Int)+((n+2:Nat):Int)-2).toNat=n+j:=by omega
 have en1:(((n+2:Nat):Int)-1).toNat=n+1:=by omega
 have en2:(((n+2:Nat):Int)-2).toNat=n:=by omega
 have ek:(((j+1:Nat):Int)-1)=(j:Int):=by omega
 have hv1l:=bM ((val b*2 ^ s)) (n+1)
 have hv2l:=bM ((val b*2 ^ s)) n
 have hu0:=cL hlu (n+2+j)
 have hu1:=cL hlu (n+1+j)
 have hu2:=cL hlu (n+j)
 have hz:=tZ (n:=n+2) (j:=j) hVlt hlt
 refine wL rfl ?_
 refine cU ?_
 refine aP 18 (by decide +kernel) ?_
 refine aCu ?_
 refine aP 18 (by decide +kernel) ?_
 refine dP ?_
 refine aB rfl (.bin rfl rfl (aBu (by simp only [en1,eQ];omega) (by omega))) ?_
 refine dP ?_
 refine aB rfl (.bin rfl rfl (aKr (by simp only [en1,eQ];omega))) ?_
 refine dX ?_
 refine vD (S:=fun L=>(((((((((St.mk L.slot (hp [(1001057,⟨1,ul.map bX,true⟩),(1001105,⟨1,(g7 ((aZ (val b)).length+1) (val b*2 ^ s)).map bX,false⟩),(77,⟨1,ql.map bX,true⟩)])).put (some 4) (.ref 77 1 0 q0)).put (some 9) (aG s)).put (some 10) (.ref 1001057 1 0 (m+1))).put (some 11) (bQ (val b*2 ^ s))).put (some 12) (aG (n+2))).put (some 13) (iL (((j+1:Nat):Int)-1))).put (some 15) (dL ((ul.getD (n+2+j) 0*4294967296+ul.getD (n+1+j) 0)/(aZ (val b*2 ^ s)).getD (n+1) 0))).put (some 16) (dL ((ul.getD (n+2+j) 0*4294967296+ul.getD (n+1+j) 0) % (aZ (val b*2 ^ s)).getD (n+1) 0)))) (aA (aA (aA (aA (aA (aA (aA (aA (bB cl) cl) cl) cl) cl) cl) cl) cl) cl) ?_
 refine aFT b ul ql n s m q0 j enV hnm hm4 hq0 hk hul hql hlu hlq hvt hV0 hVlt hlt _ ?_
 rintro x LQ ⟨hx1,hx2,hxB⟩
 refine iR ?_
 refine vD (S:=fun L=>(((((((((((((St.mk L.slot (hp [(1001057,⟨1,ul.map bX,true⟩),(1001105,⟨1,(g7 ((aZ (val b)).length+1) (val b*2 ^ s)).map bX,false⟩),(77,⟨1,ql.map bX,true⟩)])).put (some 4) (.ref 77 1 0 q0)).put (some 9) (aG s)).put (some 10) (.ref 1001057 1 0 (m+1))).put (some 11) (bQ (val b*2 ^ s))).put (some 12) (aG (n+2))).put (some 13) (iL (((j+1:Nat):Int)-1))).put (some 15) (dL x)).put (some 17) (dL 0)).put (some 18) (dL 0)).put (some 154) (bQ (val b*2 ^ s))).put (some 155) (aG (n+2))).put (some 156) (aG 0))) (aA (aA (aA (aA (aA (aA (aA (aA (aA (aA (aA (aA (bB cl) cl) cl) cl) cl) cl) cl) cl) cl) cl) cl) cl) cl) ?_
 refine aCc b ul ql n s m q0 j enV hnm hm4 hq0 hk hul hql hlu hlq hvt hV0 hVlt hlt x hx1 hxB _ ?_
 rintro wl c br LQ ⟨hwl,hlw,hc,hbr,hv5,hz5⟩
 obtain⟨hlw2,hd2,hv6⟩:=aDo (n:=n+2) (by omega) hlw hbr hc hv5 rfl rfl
 have hwt:=cL hlw (n+2+j)
 refine cQ ?_
 refine aB rfl (.bin rfl rfl (aGz (by omega))) ?_
 refine bD ?_
 refine aB rfl (.bin rfl rfl (aGz (by omega))) ?_
 refine aAw ?_
 refine vD (S:=fun L=>((((((((((St.mk L.slot (hp [(1001057,⟨1,(wl.set (n+2+j) (((18446744073709551616+(18446744073709551616+wl.getD (n+2+j) 0-c) % 18446744073709551616-br) % 18446744073709551616) % 4294967296)).map bX,true⟩),(1001105,⟨1,(g7 ((aZ (val b)).length+1) (val b*2 ^ s)).map bX,false⟩),(77,⟨1,ql.map bX,true⟩)])).put (some 4) (.ref 77 1 0 q0)).put (some 9) (aG s)).put (some 10) (.ref 1001057 1 0 (m+1))).put (some 11) (bQ (val b*2 ^ s))).put (some 12) (aG (n+2))).put (some 13) (iL (((j+1:Nat):Int)-1))).put (some 15) (dL x)).put (some 22) (dL ((18446744073709551616+(18446744073709551616+wl.getD (n+2+j) 0-c) % 18446744073709551616-br) % 18446744073709551616))).put (some 211) (.v (.bool (((((18446744073709551616+(18446744073709551616+wl.getD (n+2+j) 0-c) % 18446744073709551616-br) % 18446744073709551616)/9223372036854775808:Nat):Int) != 0))))) (aA (aA (aA (aA (aA (aA (aA (aA (aA (bB cl) cl) cl) cl) cl) cl) cl) cl) cl) cl) ?_
 refine aGk b ul ql n s m q0 j enV hnm hm4 hq0 hk hul hql hlu hlq hvt hV0 hVlt hlt x hx1 hx2 hxB wl c br hwl hlw hc hbr hv5 hz5 _ ?_
 rintro w4 x4 LQ ⟨hx4,hw4,hl4,hv8⟩
 have hRV:val ul/4294967296 ^ j<(val b*2 ^ s)*4294967296:=by
  obtain⟨_,_,_,_,_,_,h⟩:=aB6 (j:=j) enV (by omega) hlu hlt
  exact h
 have hqB:val ul/4294967296 ^ j/(val b*2 ^ s)<4294967296:=by rw [Nat.div_lt_iff_lt_mul hV0,Nat.mul_comm];exact hRV
 have hx4B:x4<4294967296:=by rw [hx4];exact hqB
 have hx4m:x4 % 4294967296=x4:=Nat.mod_eq_of_lt hx4B
 refine cG ?_
 exact lV (hQ (w4) (x4) _ ⟨hx4,hw4,hl4,hv8⟩) (aA (aA (aA (aA (aA (aA (bB cl) cl) cl) cl) cl) cl) cl)
open Zq51 in
theorem aEr (b ul ql:List Nat) (s m q0 T:Nat) (hs32:s<32) (hm4:m≤1099511627776) (hul:ul.length=m+1) (hlu:fA ul) (hTm:T≤m+1) (hTz:∀ p,T≤p→ul.getD p 0=0) (hlow:ul.getD 0 0 % 2 ^ s=0) {Q:LEx→St→Prop} (L1:St)
  (hQ:∀ (w:List Nat) (L2:St),(w.length=m+1∧fA w∧2 ^ s*val (w.take T)=val (ul.take T)+4294967296 ^ T*(ul.getD T 0 % 2 ^ s))→Q .normal (((St.mk L2.slot (hp [(1001057,⟨1,w.map bX,true⟩),(1001105,⟨1,(g7 ((aZ (val b)).length+1) (val b*2 ^ s)).map bX,false⟩),(77,⟨1,ql.map bX,true⟩)])).put (some 4) (.ref 77 1 0 q0)).put (some 5) (.ref 1001057 1 0 T))) :
  wpL Tryz.prog ((aCy Tryz.f236 [1,1,1,1,1,1,1,1,1,0,1]).getD .skip) Q (((((((St.mk L1.slot (hp [(1001057,⟨1,ul.map bX,true⟩),(1001105,⟨1,(g7 ((aZ (val b)).length+1) (val b*2 ^ s)).map bX,false⟩),(77,⟨1,ql.map bX,true⟩)])).put (some 4) (.ref 77 1 0 q0)).put (some 5) (.ref 1001057 1 0 T)).put (some 9) (aG s)).put (some 260) (.ref 1001057 1 0 T)).put (some 261) (aG T)).put (some 262) (aG 0)):=by
 have ej:True:=trivial
 have ek:True:=trivial
 have es:True:=trivial
 have eV:True:=trivial
 have ej1:True:=trivial
 have ej2:True:=trivial
 have ej3:True:=trivial
 have ehm:True:=trivial
 have ehg:True:=trivial
 have en1:True:=trivial
 have en2:True:=trivial
 have eij:True:=trivial
 have eiij:True:=trivial
 have eqn:True:=trivial
 have egi:True:=trivial
 have egi1:True:=trivial
 have eg2:True:=trivial
 have eg3:True:=trivial
 have ei1:True:=trivial
 have enV:True:=trivial
 refine wL rfl ?_
 refine bD ?_
 refine wE (fun(i:Nat) (w:List Nat) L=>(((((((St.mk L.slot (hp [(1001057,⟨1,w.map bX,true⟩),(1001105,⟨1,(g7 ((aZ (val b)).length+1) (val b*2 ^ s)).map bX,false⟩),(77,⟨1,ql.map bX,true⟩)])).put (some 4) (.ref 77 1 0 q0)).put (some 5) (.ref 1001057 1 0 T)).put (some 9) (aG s)).put (some 260) (.ref 1001057 1 0 T)).put (some 261) (aG T)).put (some 262) (aG i))) (fun i w=>i≤T∧w.length=m+1∧fA w∧(∀ p,i≤p→w.getD p 0=ul.getD p 0)∧2 ^ s*val (w.take i)=val (ul.take i)+4294967296 ^ i*(ul.getD i 0 % 2 ^ s)) (fun i w=>T-i) 0 ul ⟨Nat.zero_le _,hul,hlu,fun _ _=>rfl,by rw [hlow];simp [val]⟩ ?_
 rintro i w L5 ⟨hi,hwl,hlw,hz9,hv9⟩
 have ei1:((i:Int)+1).toNat=i+1:=by omega
 have hwi:=cL hlw i
 have hwi1:=cL hlu (i+1)
 have egi:=hz9 i (Nat.le_refl _)
 have egi1:=hz9 (i+1) (by omega)
 have hui:=cL hlu i
 obtain⟨hh1,hh2⟩:=z5 (z:=ul.getD (i+1) 0) (show s≤32 by omega) hui
 have hh3:ul.getD i 0/2 ^ s<4294967296:=by omega
 refine bY ?_
 refine aQ rfl (fun h263r h263=>?_) (fun h263r h263=>?_)
 ·have eg2:(w.set i (ul.getD i 0/2 ^ s)).getD i 0=ul.getD i 0/2 ^ s:=pP _ _ _ (by omega)
  have eg3:(w.set i (ul.getD i 0/2 ^ s)).getD (i+1) 0=ul.getD (i+1) 0:=by rw [Go.Lg.getD_set_ne _ _ _ _ (by omega)];exact egi1
  refine jT ?_
  refine aB rfl (.sh rfl rfl (aGu (m:=s) (by show s≤32;omega))) ?_
  refine eP ?_
  refine eD 274 rfl (fun h274r h274=>?_) (fun h274r h274=>?_)
  ·refine eI ?_
   refine aQ rfl (fun h280r h280=>?_) (fun h280r h280=>?_)
   ·refine aP 14 (by decide +kernel) ?_
    refine cQ ?_
    refine aB rfl (.sh rfl rfl (aKc (s:=s) (by omega))) ?_
    refine aB rfl (.bin rfl rfl (aLO (by simp only [e1,e2,e3,e4,p1,p2,p3,q1,q2,q3,l1,t0,t1,r1,r2,r3,r4,Nat.zero_add,Nat.reduceMul,Nat.reduceAdd,b1,b2,b3,b4,b5,b6,i1,i2,i3,i4,i5,i6,Nat.reduceBEq,eQ,egi,egi1,eg2,eg3,ei1];exact hh1) (by simp only [e1,e2,e3,e4,p1,p2,p3,q1,q2,q3,l1,t0,t1,r1,r2,r3,r4,Nat.zero_add,Nat.reduceMul,Nat.reduceAdd,b1,b2,b3,b4,b5,b6,i1,i2,i3,i4,i5,i6,Nat.reduceBEq,eQ,egi,egi1,eg2,eg3,ei1];exact hh2))) ?_
    refine cG ?_
    exact qI (i+1) (w.set i (ul.getD (i+1) 0 % 2 ^ s*2 ^ (32-s)+ul.getD i 0/2 ^ s)) ⟨by omega,by simp [hwl],eM hlw _ _ hh2,fun p hp=>by rw [Go.Lg.getD_set_ne _ _ _ _ (by omega)];exact hz9 p (by omega),aCj (by omega) hs32 egi hv9 (Nat.add_comm _ _)⟩
   ·refine eI ?_
    exact qI (i+1) (w.set i (ul.getD i 0/2 ^ s)) ⟨by omega,by simp [hwl],eM hlw _ _ hh3,fun p hp=>by rw [Go.Lg.getD_set_ne _ _ _ _ (by omega)];exact hz9 p (by omega),aCj (by omega) hs32 egi hv9 (by rw [hTz (i+1) (by omega)];simp)⟩
  ·refine jT ?_
   exact qI (i+1) (w.set i (ul.getD i 0/2 ^ s)) ⟨by omega,by simp [hwl],eM hlw _ _ hh3,fun p hp=>by rw [Go.Lg.getD_set_ne _ _ _ _ (by omega)];exact hz9 p (by omega),aCj (by omega) hs32 egi hv9 (by rw [show s=0 by omega];simp [Nat.mod_one])⟩
 ·obtain rfl:i=T:=by omega
  refine cB ?_
  exact lV (hQ (w) _ ⟨hwl,hlw,hv9⟩) (aA (aA (bB cl) cl) cl)
open Zq51 in
theorem zS (a b:List Nat) (ha:fA a) (hb:fA b) (hla:a.length≤1099511627776) (hlb:b.length≤1099511627776) (hb0:0<val b):aN Tryz.prog 236 [fF a,fF b] (.tup [bQ (val a/val b),bQ (val a % val b),iL 0]):=by
 have hla2:=m9 a ha hla
 have hlb2:=m9 b hb hlb
 have hbne:(aZ (val b)).length≠0:=fun h=>by have:=eE.1 (List.eq_nil_of_length_eq_zero h);omega
 refine dJ Tryz.func236 ?_
 have ej:True:=trivial
 have ek:True:=trivial
 have es:True:=trivial
 have eV:True:=trivial
 have ej1:True:=trivial
 have ej2:True:=trivial
 have ej3:True:=trivial
 have ehm:True:=trivial
 have ehg:True:=trivial
 have en1:True:=trivial
 have en2:True:=trivial
 have eij:True:=trivial
 have eiij:True:=trivial
 have eqn:True:=trivial
 have egi:True:=trivial
 have egi1:True:=trivial
 have eg2:True:=trivial
 have eg3:True:=trivial
 have ei1:True:=trivial
 have enV:True:=trivial
 refine cG ?_
 refine cp cS (gC _ (by first | assumption | exact aW _) (by first | omega | (simp;done) | (simp;omega))) ?_
 refine bD ?_
 refine cp cS (gC _ (by first | assumption | exact aW _) (by first | omega | (simp;done) | (simp;omega))) ?_
 refine eX ?_
 refine aQ rfl (fun h30r h30=>?_) (fun h30r h30=>?_)
 ·exfalso
  omega
 ·refine cB ?_
  refine cp bI (vF _ _ (by first | assumption | exact aW _) (by first | assumption | exact aW _) (by omega) (by omega)) ?_
  refine cB ?_
  refine aQ rfl (fun h34r h34=>?_) (fun h34r h34=>?_)
  ·have hlt:val a<val b:=by
    apply Classical.byContradiction
    intro hh
    rcases Nat.lt_or_eq_of_le (Nat.le_of_not_lt hh) with h | h
    ·rw [gZ h] at h34;omega
    ·rw [iG h.symm] at h34;omega
   refine dI ?_
   refine cp cS (rI _ (by omega)) ?_
   refine eI ?_
   rw [Nat.div_eq_of_lt hlt,Nat.mod_eq_of_lt hlt]
   exact pQ [] rfl rfl (.nil 1) rfl (.pure (bF _)) rfl (.pure rfl)
  ·have hge:val b≤val a:=by
    apply Classical.byContradiction
    intro hh
    rw [f9 (by omega)] at h34;omega
   refine eI ?_
   refine aQ rfl (fun h41r h41=>?_) (fun h41r h41=>?_)
   ·have hb32:val b<4294967296:=eJ.1 (by omega)
    have hd1:aZ (val b)=[val b]:=lF hb0 hb32
    have hg0:(aZ (val b)).getD 0 0=val b:=by rw [hd1];rfl
    have ehg:=hg0
    have hml:=Nat.mod_lt (val a) hb0
    refine bY ?_
    refine cp bI (aEI _ _ (aW _) (by omega) (by show 0<(aZ (val b)).getD 0 0;rw [hg0];exact hb0) (bM _ _)) ?_
    refine dX ?_
    refine jB nf1 ?_
    refine bY ?_
    refine cpf [55] fm1 (gC [val a % val b] (aIn (by omega)) (by simp)) ?_
    refine dI ?_
    refine jB nf2 ?_
    refine cB ?_
    exact pQ [] rfl rfl (.pure (aR _)) rfl (.pure (aR _)) rfl (.pure rfl)
   ·obtain⟨n,hn⟩:∃ n,(aZ (val b)).length=n+2:=⟨(aZ (val b)).length-2,by omega⟩
    obtain⟨m,hm⟩:∃ m,(aZ (val a)).length=m:=⟨_,rfl⟩
    have ehm:=hm
    have hm4:m≤1099511627776:=by omega
    have hnm:n+1+1≤m:=by rw [←hm];have:=cP hge;omega
    have ej:(((aZ (val b)).length:Int)-1).toNat=n+1:=by omega
    obtain⟨s,hs⟩:∃ s,s=32-eC ((aZ (val b)).getD (n+1) 0):=⟨_,rfl⟩
    have hbl32:eC ((aZ (val b)).getD (n+1) 0)≤32:=iS.2 (bM _ _)
    have es:(32:Int)-((eC ((aZ (val b)).getD (n+1) 0):Nat):Int)=((s:Nat):Int):=by rw [aLS hbl32,hs]
    obtain⟨hs32,enV,hVge,hVlt⟩:=aDm (n:=n+1) hn hs
    have hV0:0<val b*2 ^ s:=Nat.mul_pos hb0 (Nat.pow_pos (by omega))
    have eV:val (g7 ((aZ (val b)).length+1) (val b*2 ^ s))=val b*2 ^ s:=wB (by rw [hn];exact Nat.lt_of_lt_of_le hVlt (Nat.pow_le_pow_right (by omega) (by omega)))
    have hvt:=aI7 enV hVge
    have hv1l:=bM (val b*2 ^ s) (n+1)
    have hv2l:=bM (val b*2 ^ s) n
    obtain⟨hst1,hst2⟩:=aEP (n:=n+1) hs32 hm hnm hVge
    obtain⟨q0,hq0⟩:∃ q0,q0=m+1-(n+2):=⟨_,rfl⟩
    have eqn:((m:Int)+1-((n+2:Nat):Int))=((q0:Nat):Int):=by omega
    have en1:(((n+2:Nat):Int)-1).toNat=n+1:=by omega
    have en2:(((n+2:Nat):Int)-2).toNat=n:=by omega
    have hB1:val (g7 (m+1) (val a*2 ^ s))=val a*2 ^ s:=wB hst2
    refine cQ ?_
    refine cp cS (aKx _ (bM _ _)) ?_
    refine dP ?_
    refine lJ [] rfl rfl (.cons (.pure (aR _)) (.cons (.pure rfl) .nil)) (aAS (val a) s (by omega) hs32) (aF cV _) rfl ?_
    refine cU ?_
    refine lJ [] rfl rfl (.cons (.pure (aR _)) (.cons (.pure rfl) .nil)) (aAS (val b) s (by omega) hs32) (aF cV _) rfl ?_
    refine pJ [1001105] rfl rfl (.cons (cC cV rfl rfl (mS _ _).symm) .nil) (gC (g7 ((aZ (val b)).length+1) (val b*2 ^ s)) (uO _ _) (by rw [mS];omega)) ?_
    refine cU ?_
    refine jB nf3 ?_
    refine bY ?_
    refine jB nf4 ?_
    refine dP ?_
    refine b9 rfl rfl (.mkE (n:=q0) (m:=q0) ml ml om om om) ?_
    refine fI ?_
    refine lp3 (fun(k:Nat) (ul ql:List Nat) L=>(((((((St.mk L.slot (hp [(1001057,⟨1,ul.map bX,true⟩),(1001105,⟨1,(g7 ((aZ (val b)).length+1) (val b*2 ^ s)).map bX,false⟩),(77,⟨1,ql.map bX,true⟩)])).put (some 4) (.ref 77 1 0 q0)).put (some 9) (aG s)).put (some 10) (.ref 1001057 1 0 (m+1))).put (some 11) (bQ (val b*2 ^ s))).put (some 12) (aG (n+2))).put (some 13) (iL ((k:Int)-1)))) (fun k ul ql=>k≤q0∧ul.length=m+1∧ql.length=q0∧fA ul∧fA ql∧val ul+(val b*2 ^ s)*4294967296 ^ k*val (ql.drop k)=val a*2 ^ s∧val ul<(val b*2 ^ s)*4294967296 ^ k) (fun k ul ql=>k) q0 (g7 (m+1) (val a*2 ^ s)) (List.replicate q0 0) ⟨Nat.le_refl _,mS _ _,by simp,uO _ _,fW _,by rw [List.drop_of_length_le (by simp),hB1];simp [val],by rw [hB1,hq0];exact hst1⟩ (h0:=⟨_,a7.of_eq (aA (aA (aA (aA (aA (aA (bB cl5) cl5) cl5) cl5) cl5) cl5) cl5)⟩) ?_
    rintro k ul ql L1 ⟨hk,hul,hql,hlu,hlq,hv,hlt⟩
    refine dP ?_
    refine aQ rfl (fun h82r h82=>?_) (fun h82r h82=>?_)
    ·obtain⟨j,rfl⟩:∃ j,k=j+1:=⟨k-1,by omega⟩
     have ek:(((j+1:Nat):Int)-1)=(j:Int):=by omega
     refine dI ?_
     refine vD (S:=fun L=>(((((((St.mk L.slot (hp [(1001057,⟨1,ul.map bX,true⟩),(1001105,⟨1,(g7 ((aZ (val b)).length+1) (val b*2 ^ s)).map bX,false⟩),(77,⟨1,ql.map bX,true⟩)])).put (some 4) (.ref 77 1 0 q0)).put (some 9) (aG s)).put (some 10) (.ref 1001057 1 0 (m+1))).put (some 11) (bQ (val b*2 ^ s))).put (some 12) (aG (n+2))).put (some 13) (iL (((j+1:Nat):Int)-1)))) (aA (aA (aA (aA (aA (aA (bB cl) cl) cl) cl) cl) cl) cl) ?_
     refine aDO b ul ql n s m q0 j enV hnm hm4 hq0 hk hul hql hlu hlq hvt hV0 hVlt hlt _ ?_
     rintro w4 x4 LQ ⟨hx4,hw4,hl4,hv8⟩
     have hRV:val ul/4294967296 ^ j<(val b*2 ^ s)*4294967296:=by
      obtain⟨_,_,_,_,_,_,h⟩:=aB6 (j:=j) enV (by omega) hlu hlt
      exact h
     have hqB:val ul/4294967296 ^ j/(val b*2 ^ s)<4294967296:=by rw [Nat.div_lt_iff_lt_mul hV0,Nat.mul_comm];exact hRV
     have hx4B:x4<4294967296:=by rw [hx4];exact hqB
     have hx4m:x4 % 4294967296=x4:=Nat.mod_eq_of_lt hx4B
     obtain⟨hn1,hn2⟩:=aDa (j:=j) hV0 hx4 hv8 (by omega) hv
     refine dP ?_
     exact nx3 j w4 (ql.set j (x4 % 4294967296)) ⟨by omega,hw4,by simp [hql],hl4,eM hlq _ _ (by omega),by rw [hx4m];exact hn1,hn2⟩ (he:=a7.of_eq (aA (aA (aA (aA (aA (aA (bB cl5) cl5) cl5) cl5) cl5) cl5) cl5))
    ·obtain rfl:k=0:=by omega
     rw [List.drop_zero,Nat.pow_zero,Nat.mul_one] at hv
     rw [Nat.pow_zero,Nat.mul_one] at hlt
     obtain⟨hq,hr⟩:=aGd hb0 hv hlt
     obtain⟨T,hT⟩:∃ T,T=fJ (m+1) ul:=⟨_,rfl⟩
     have hTm:T≤m+1:=by rw [hT];exact vE _ _
     have hTz:=aDT (l:=ul) (n:=m+1) hul.symm
     rw [←hT] at hTz
     have hlow:=aBk (by omega) hr
     refine eI ?_
     refine iO 1001057 rfl rfl rfl (aF cV _) (.cons .ref .nil) (.ref (by omega)) (aFQ ul (m+1) hul.symm (by omega) (by omega)) rfl (aF cV _) ?_
     refine bD ?_
     refine jB nf6 ?_
     refine eP ?_
     refine vD (S:=fun L=>(((((((St.mk L.slot (hp [(1001057,⟨1,ul.map bX,true⟩),(1001105,⟨1,(g7 ((aZ (val b)).length+1) (val b*2 ^ s)).map bX,false⟩),(77,⟨1,ql.map bX,true⟩)])).put (some 4) (.ref 77 1 0 q0)).put (some 5) (.ref 1001057 1 0 T)).put (some 9) (aG s)).put (some 260) (.ref 1001057 1 0 T)).put (some 261) (aG T)).put (some 262) (aG 0))) (aA (aA (aA (aA (aA (aA (bB cl) cl) cl) cl) cl) cl) cl) ?_
     refine aEr b ul ql s m q0 T hs32 hm4 hul hlu hTm hTz hlow _ ?_
     rintro w LQ ⟨hwl,hlw,hv9⟩
     rw [hTz T (Nat.le_refl _),Nat.zero_mod,Nat.mul_zero,Nat.add_zero] at hv9
     have hfin:val (w.take T)=val a % val b:=by
      have e1:=(nI ul.length ul (Nat.le_refl _)).2
      rw [List.take_length,hul,←hT,hr] at e1
      rw [e1,Nat.mul_comm] at hv9
      exact Nat.eq_of_mul_eq_mul_right (Nat.pow_pos (by omega)) hv9
     refine cB ?_
     refine cpf [77] fm1 (gC ql hlq (by omega)) ?_
     refine bD ?_
     refine cpf [1001057] fm1 (gC (w.take T) (iB hlw _) (by simp;omega)) ?_
     refine bY ?_
     rw [←hq,←hfin]
     exact pQ [] rfl rfl (.pure (aR _)) rfl (.pure (aR _)) rfl (.pure rfl)
namespace Zq52
theorem cK {p q:Prop} (k:q) (e:p=q:=by simp only [e1,e2,e3,e4,p1,p2,p3,q1,q2,q3,l1,t0,t1,r1,r2,r3,r4,Nat.zero_add,Nat.reduceMul,Nat.reduceAdd,b1,b2,b3,b4,b5,b6,i1,i2,i3,i4,i5,i6,Nat.reduceBEq,eQ,aX];exact rfl):p:=e.mpr k
end Zq52
open Zq52 in
theorem aCs (a b:List Nat) (ha:fA a) (hb:fA b) (hla:a.length≤1099511627776) (hlb:b.length≤1099511627776):aN Tryz.prog 148 [fF a,fF b] (bQ (Nat.gcd (val a) (val b))):=by
 have hla2:=m9 a ha hla
 have hlb2:=m9 b hb hlb
 refine dJ Tryz.func148 ?_
 refine eI ?_
 refine cp cS (gC _ (by first | assumption | exact aW _) (by first | omega | (simp;done) | (simp;omega))) ?_
 refine cp cS (rI _ (by omega)) ?_
 refine bD ?_
 refine cp cS (gC _ (by first | assumption | exact aW _) (by first | omega | (simp;done) | (simp;omega))) ?_
 refine cp cS (rI _ (by omega)) ?_
 refine bY ?_
 refine wE (fun(x y:Nat) L=>(((St.mk L.slot (hp [])).put (some 5) (bQ x)).put (some 6) (bQ y))) (fun x y=>Nat.gcd x y=Nat.gcd (val a) (val b)∧(aZ x).length≤1099511627776∧(aZ y).length≤1099511627776) (fun x y=>y) (val a) (val b) ⟨rfl,hla2,hlb2⟩ ?_
 rintro x y L1 ⟨hg,hx,hy⟩
 refine eI ?_
 refine aQ rfl (fun h23r h23=>?_) (fun h23r h23=>?_)
 ·have hy0:0<y:=Nat.pos_of_ne_zero (fun h=>by rw [h,hY] at h23;simp at h23)
  refine dP ?_
  refine cp bI (zS _ _ (aW _) (aW _) (by omega) (by omega) (by rw [aX];exact hy0)) ?_
  refine jT ?_
  exact qI y (x % y) ⟨by rw [Nat.gcd_comm,←Nat.gcd_rec,Nat.gcd_comm];exact hg,hy,Nat.le_trans (cP (Nat.le_of_lt (Nat.mod_lt x hy0))) hy⟩ (hm:=Nat.mod_lt _ hy0)
 ·refine fI ?_
  refine aQ rfl (fun h35r h35=>?_) (fun h35r h35=>?_)
  ·have hy0:y=0:=eE.1 (List.eq_nil_of_length_eq_zero (by omega))
   refine eI ?_
   subst hy0
   rw [←hg,Nat.gcd_zero_right]
   exact b8 rfl (by first | exact .pure rfl | exact .pure (bF _) | exact .pure (aR _) | exact .pure (aD.pure _) | exact .pure (aJ cV _ _) | exact .pure (aJ aD _ _))
  ·have hy0:0<y:=Nat.pos_of_ne_zero (fun h=>by rw [h,hY] at h35;simp at h35)
   refine cG ?_
   refine eH (fun L=>∃ (x2:Nat) (y2:Nat) (L1:St),(Nat.gcd x2 y2=Nat.gcd (val a) (val b)∧(aZ x2).length≤2∧(aZ y2).length≤2)∧L=(((St.mk L1.slot (hp [])).put (some 5) (bQ x2)).put (some 6) (bQ y2))) ?_ ?_
   ·refine aQ rfl (fun h39r h39=>?_) (fun h39r h39=>?_)
    ·refine cB ?_
     refine cp bI (zS _ _ (aW _) (aW _) (by omega) (by omega) (by rw [aX];exact hy0)) ?_
     refine n8 ?_
     exact⟨y,x % y,_,⟨by rw [Nat.gcd_comm,←Nat.gcd_rec,Nat.gcd_comm];exact hg,by omega,Nat.le_trans (cP (Nat.le_of_lt (Nat.mod_lt x hy0))) (by omega)⟩,((aA (aA (bB cl) cl) cl)).symm⟩
    ·refine cU ?_
     exact⟨x,y,_,⟨hg,by omega,by omega⟩,((aA (aA (bB cl) cl) cl)).symm⟩
   ·rintro _ ⟨x2,y2,LC39,⟨hg2,hx2,hy2⟩,rfl⟩
    refine cB ?_
    refine cp cS (aGL _ (aW _) (by omega)) ?_
    refine bD ?_
    refine cp cS (aGL _ (aW _) (by omega)) ?_
    refine bY ?_
    refine wE (fun(m n:Nat) L=>(((St.mk L.slot (hp [])).put (some 13) (dL m)).put (some 14) (dL n))) (fun m n=>Nat.gcd m n=Nat.gcd (val a) (val b)∧m<18446744073709551616∧n<18446744073709551616) (fun m n=>n) x2 y2 ⟨hg2,f5.1 hx2,f5.1 hy2⟩ ?_
    rintro m n L2 ⟨hg3,hm,hn⟩
    refine dP ?_
    refine aQ rfl (fun h54r h54=>?_) (fun h54r h54=>?_)
    ·refine dI ?_
     refine aP 6 (by decide +kernel) ?_
     refine eP ?_
     exact qI n (m % n) ⟨by rw [Nat.gcd_comm,←Nat.gcd_rec,Nat.gcd_comm];exact hg3,hn,by have:=Nat.mod_lt m (show n > 0 by omega);omega⟩ (hm:=Nat.mod_lt _ (by omega))
    ·obtain rfl:n=0:=by omega
     refine eI ?_
     refine cp cS (aGx _ (by omega)) ?_
     refine cB ?_
     rw [←hg3,Nat.gcd_zero_right]
     exact b8 rfl (by first | exact .pure rfl | exact .pure (bF _) | exact .pure (aR _) | exact .pure (aD.pure _) | exact .pure (aJ cV _ _) | exact .pure (aJ aD _ _))
open H0 in
theorem aGt :aN Tryz.prog 196 [] (bQ 1):=by
 refine dJ Tryz.func196 ?_
 refine cH ?_
 rw [show bQ 1=.list 1 ([1].map bX) from rfl]
 exact jV [1] rfl rfl (cC cV rfl rfl rfl)
namespace Zq110
theorem cK {p q:Prop} (k:q) (e:p=q:=by simp only [e1,e2,e3,e4,p1,p2,p3,q1,q2,q3,l1,t0,t1,r1,r2,r3,r4,Nat.zero_add,Nat.reduceMul,Nat.reduceAdd,b1,b2,b3,b4,b5,b6,i1,i2,i3,i4,i5,i6,Nat.reduceBEq,aC aD,aT];exact rfl):p:=e.mpr k
end Zq110
open Zq110 in
theorem p5 (q:Rat):aN Tryz.prog 175 [ratL q] (bQ q.den):=by
 refine dJ Tryz.func175 ?_
 refine iR ?_
 refine aQ rfl (fun h6r h6=>?_) (fun h6r h6=>?_)
 ·have hd1:=r7 (show (aZ (jL q)).length=0 by omega)
  refine cU ?_
  refine cp am0 (aGt) ?_
  refine dX ?_
  rw [hd1]
  exact b8 rfl (by first | exact .pure rfl | exact .pure (bF _) | exact .pure (aR _) | exact .pure (aD.pure _) | exact .pure (aJ cV _ _) | exact .pure (aJ aD _ _))
 ·have hd1:=qX (q:=q) (by omega)
  refine cG ?_
  rw [←hd1]
  exact b8 rfl (by first | exact .pure rfl | exact .pure (bF _) | exact .pure (aR _) | exact .pure (aD.pure _) | exact .pure (aJ cV _ _) | exact .pure (aJ aD _ _))
namespace Zq72
theorem cK {p q:Prop} (k:q) (e:p=q:=by simp only [e1,e2,e3,e4,p1,p2,p3,q1,q2,q3,l1,t0,t1,r1,r2,r3,r4,Nat.zero_add,Nat.reduceMul,Nat.reduceAdd,b1,b2,b3,b4,b5,b6,i1,i2,i3,i4,i5,i6,Nat.reduceBEq,eQ,ej];exact rfl):p:=e.mpr k
end Zq72
open Zq72 in
theorem yD (a:List Nat) (h:fA a) (hl:a.length≤2):aN Tryz.prog 246 [fF a] (dL (val a)):=by
 unfold fF
 refine dJ Tryz.func246 ?_
 have ej:True:=trivial
 refine nH ?_
 refine wE (fun(k n:Nat) L=>((((St.mk L.slot (hp [])).put (some 0) (.list 1 (a.map bX))).put (some 3) (dL n)).put (some 4) (iL ((k:Int)-1)))) (fun k n=>k≤a.length∧n=val (a.drop k)) (fun k n=>k) a.length 0 ⟨Nat.le_refl _,by simp [val]⟩ ?_
 rintro k n L1 ⟨hk,hn⟩
 refine dP ?_
 refine aQ rfl (fun h9r h9=>?_) (fun h9r h9=>?_)
 ·obtain⟨j,rfl⟩:∃ j,k=j+1:=⟨k-1,by omega⟩
  have ej:(((j+1:Nat):Int)-1).toNat=j:=by omega
  have ek:(((j+1:Nat):Int)-1)=j:=by omega
  have hj:=cL h j
  have hnB:=tF h (k:=j+1) (j:=1) (by omega)
  rw [←hn] at hnB
  refine aAw ?_
  exact qI j (n*4294967296+a.getD j 0) ⟨by omega,by rw [eW (by omega),hn];omega⟩
 ·obtain rfl:k=0:=by omega
  rw [List.drop_zero] at hn
  refine cH ?_
  rw [←hn]
  exact b8 rfl (by first | exact .pure rfl | exact .pure (bF _) | exact .pure (aR _) | exact .pure (aD.pure _) | exact .pure (aJ cV _ _) | exact .pure (aJ aD _ _))
open H0 in
theorem aD8 (a b:Nat) (ha:a<18446744073709551616) (hb:b<18446744073709551616):aN Tryz.prog 281 [dL a,dL b] (dL (Nat.gcd a b)):=by
 refine dJ Tryz.func281 ?_
 refine dP ?_
 refine wE (fun(m n:Nat) L=>(((St.mk L.slot (hp [])).put (some 0) (dL m)).put (some 1) (dL n))) (fun m n=>Nat.gcd m n=Nat.gcd a b∧m<18446744073709551616∧n<18446744073709551616) (fun m n=>n) a b ⟨rfl,ha,hb⟩ ?_
 rintro m n L1 ⟨hg3,hm,hn⟩
 refine dP ?_
 refine aQ rfl (fun h6r h6=>?_) (fun h6r h6=>?_)
 ·refine dI ?_
  refine aP 6 (by decide +kernel) ?_
  refine eP ?_
  exact qI n (m % n) ⟨by rw [Nat.gcd_comm,←Nat.gcd_rec,Nat.gcd_comm];exact hg3,hn,by have:=Nat.mod_lt m (show n > 0 by omega);omega⟩ (hm:=Nat.mod_lt _ (by omega))
 ·obtain rfl:n=0:=by omega
  refine cH ?_
  rw [←hg3,Nat.gcd_zero_right]
  exact b8 rfl (by first | exact .pure rfl | exact .pure (bF _) | exact .pure (aR _) | exact .pure (aD.pure _) | exact .pure (aJ cV _ _) | exact .pure (aJ aD _ _))
namespace Zq119
theorem cK {p q:Prop} (k:q) (e:p=q:=by simp only [e1,e2,e3,e4,p1,p2,p3,q1,q2,q3,l1,t0,t1,r1,r2,r3,r4,Nat.zero_add,Nat.reduceMul,Nat.reduceAdd,b1,b2,b3,b4,b5,b6,i1,i2,i3,i4,i5,i6,Nat.reduceBEq,eQ,List.length_set,Nat.add_zero,eqm,eqz];exact rfl):p:=e.mpr k
end Zq119
open Zq119 in
theorem aDn (l:List Nat) (off len n:Nat) (hn:n<18446744073709551616) (h1:1≤len) (h2:4294967296≤n→2≤len) (hl:off+len≤l.length):fZ Tryz.prog 282 ⟨1,l.map bX,true⟩ [.ref 0 1 off len,dL n] (aG (lA n)) ⟨1,(nT l off n).map bX,true⟩:=by
 refine fnM Tryz.func282 ?_
 have eqm:True:=trivial
 have eqz:True:=trivial
 refine aJ6 ?_
 refine aQ rfl (fun h11r h11=>?_) (fun h11r h11=>?_)
 ·have hn1:n<4294967296:=by omega
  have eqz:n % 4294967296=n:=Nat.mod_eq_of_lt hn1
  refine dP ?_
  simp only [nT,lA,if_pos hn1,eqz]
  exact nN rfl (.imm (.pure rfl)) rfl rfl (aF cV _)
 ·have hn1:¬ n<4294967296:=by omega
  have eqm:n/4294967296 % 4294967296=n/4294967296:=Nat.mod_eq_of_lt (by omega)
  refine oB ?_
  simp only [nT,lA,if_neg hn1]
  exact nN rfl (.imm (.pure rfl)) rfl rfl (aF cV _)
theorem aHV:val []=0:=rfl
theorem aE5 (n:Nat):decide (((eC n:Nat):Int)=0)=decide (n=0):=by
 rw [decide_eq_decide,←gH];omega
theorem lW {n:Nat} (h:(aZ n).length=1):(aZ n).getD 0 0=n∧0<n:=by
 have h0:0<n:=Nat.pos_of_ne_zero (fun e=>by rw [e,hY] at h;cases h)
 rw [lF h0 (eJ.1 (by omega))];exact⟨rfl,h0⟩
namespace Zq123
theorem cK {p q:Prop} (k:q) (e:p=q:=by simp only [e1,e2,e3,e4,p1,p2,p3,q1,q2,q3,l1,t0,t1,r1,r2,r3,r4,Nat.zero_add,Nat.reduceMul,Nat.reduceAdd,b1,b2,b3,b4,b5,b6,i1,i2,i3,i4,i5,i6,Nat.reduceBEq,aC aD,aT,eQ,aX];exact rfl):p:=e.mpr k
end Zq123
open Zq123 in
theorem l8 (q:Rat):aN Tryz.prog 171 [ratL q] (.tup [dL (pN q),dL (pD q),bL (smB q)]):=by
 have hdp:=q.den_pos
 have hden:=jH q
 refine dJ Tryz.func171 ?_
 refine n8 ?_
 refine eD 9 rfl (fun h9r h9=>?_) (fun h9r h9=>?_)
 ·have hs:smB q=false:=decide_eq_false (fun h=>by have:=eJ.2 h.1;omega)
  have h14:True:=trivial
  refine jT ?_
  simp only [pN,pD,hs,Bool.false_eq_true,if_false]
  exact pQ [] rfl rfl (.pure rfl) rfl (.pure rfl) rfl (.pure rfl)
 ·have hn1:=eJ.1 (show (aZ q.num.natAbs).length≤1 by omega)
  refine dP ?_
  refine aQ rfl (fun h14r h14=>?_) (fun h14r h14=>?_)
  ·have hs:smB q=false:=by first | exact hs | exact decide_eq_false (fun h=>by have:=aJU h.2;omega)
   refine eP ?_
   simp only [pN,pD,hs,Bool.false_eq_true,if_false]
   exact pQ [] rfl rfl (.pure rfl) rfl (.pure rfl) rfl (.pure rfl)
  ·have hd1:q.den<4294967296:=by
    have:=eJ.1 (show (aZ (jL q)).length≤1 by omega)
    rw [hden] at this;split at this<;>omega
   have hs:smB q=true:=decide_eq_true ⟨hn1,hd1⟩
   refine n8 ?_
   refine eH (fun L=>∃ (d:Nat) (L1:St),(d=q.den)∧L=(((St.mk L1.slot (hp [(1,⟨3,[ratL q],true⟩)])).put (some 1) (.eptr 1 3 0 0)).put (some 3) (dL d))) ?_ ?_
   ·refine aQ rfl (fun h18r h18=>?_) (fun h18r h18=>?_)
    ·have hdn:=qX (q:=q) (by omega)
     have hg0:(aZ (jL q)).getD 0 0=q.den:=by rw [hdn,lF hdp hd1];rfl
     refine eP ?_
     exact⟨(aZ (jL q)).getD 0 0,_,hg0,((aA (aA (bB cl) cl) cl)).symm⟩
    ·have hdn:=r7 (q:=q) (by omega)
     refine cU ?_
     exact⟨1,_,hdn.symm,((aA (aA (bB cl) cl) cl)).symm⟩
   ·rintro _ ⟨d,LC18,rfl,rfl⟩
    refine dX ?_
    refine cp cS (yD _ (aW _) (by omega)) ?_
    refine eP ?_
    simp only [pN,pD,hs,if_true]
    have hb0:((q.den:Int) != 0)=true:=by simp;omega
    refine pQ [] rfl rfl (.pure rfl) rfl (.pure rfl) (x'':=.v (.bool ((q.den:Int) != 0))) rfl ?_
    rw [hb0]
    exact .pure rfl
namespace Zq134
theorem cK {p q:Prop} (k:q) (e:p=q:=by simp only [e1,e2,e3,e4,p1,p2,p3,q1,q2,q3,l1,t0,t1,r1,r2,r3,r4,Nat.zero_add,Nat.reduceMul,Nat.reduceAdd,b1,b2,b3,b4,b5,b6,i1,i2,i3,i4,i5,i6,Nat.reduceBEq,eQ,Nat.sub_zero,Nat.zero_add,Nat.add_sub_cancel_left,Nat.add_zero];exact rfl):p:=e.mpr k
theorem v5 {p q:Prop} (k:q) (e:p=q:=by simp only [e1,e2,e3,e4,p1,p2,p3,q1,q2,q3,l1,t0,t1,r1,r2,r3,r4,Nat.zero_add,Nat.reduceMul,Nat.reduceAdd,b1,b2,b3,b4,b5,b6,i1,i2,i3,i4,i5,i6,Nat.reduceBEq,eQ,Nat.sub_zero,Nat.zero_add,Nat.add_sub_cancel_left,Nat.add_zero,←hN,←hD];exact rfl):p:=e.mpr k
theorem nf1 {p:Prop} (h:p:=by first | (refine v5 ?_;exact rfl) | exact rfl):p:=h
end Zq134
open Zq134 in
theorem pC (s:Bool) (n d:Nat) (hn:n<18446744073709551616) (hd0:0<d) (hd:d<18446744073709551616):aN Tryz.prog 245 [bL s,dL n,dL d] (ratL (qv s n d)):=by
 refine dJ Tryz.func245 ?_
 refine cH ?_
 refine aQ rfl (fun h13r h13=>?_) (fun h13r h13=>?_)
 ·refine eI ?_
  obtain rfl:n=0:=by omega
  rw [rF,fD]
  exact dE [] rfl rfl rfl rfl rfl dD (.pure rfl)
 ·have hn0:0<n:=by omega
  have hg:0<Nat.gcd n d:=Nat.gcd_pos_of_pos_left _ hn0
  have hn2:0<n/Nat.gcd n d:=Nat.div_pos (Nat.le_of_dvd hn0 (Nat.gcd_dvd_left n d)) hg
  have hd2:0<d/Nat.gcd n d:=Nat.div_pos (Nat.le_of_dvd hd0 (Nat.gcd_dvd_right n d)) hg
  have hn3:n/Nat.gcd n d<18446744073709551616:=Nat.lt_of_le_of_lt (Nat.div_le_self _ _) hn
  have hd3:d/Nat.gcd n d<18446744073709551616:=Nat.lt_of_le_of_lt (Nat.div_le_self _ _) hd
  have hE:=rO s hn0 hd0
  obtain⟨g,hgg⟩:∃ g,g=Nat.gcd n d:=⟨_,rfl⟩
  obtain⟨N,hN⟩:∃ N,N=n/Nat.gcd n d:=⟨_,rfl⟩
  obtain⟨D,hD⟩:∃ D,D=d/Nat.gcd n d:=⟨_,rfl⟩
  rw [←hN,←hD] at hE
  rw [←hN] at hn2 hn3
  rw [←hD] at hd2 hd3
  have hk1:=nX hn2 hn3
  have hk2:=nX hd2 hd3
  obtain⟨hs1,hs2⟩:=aEw hn2 hn3 hd2 hd3
  have hs0:=aDJ hn2 hn3
  have hl1:(nT [0,0,0,0] 0 N).length=4:=vZ _ _ _
  have hl2:(nT (nT [0,0,0,0] 0 N) (lA N) D).length=4:=by rw [vZ,vZ];rfl
  refine bY ?_
  refine cp bI (aD8 _ _ (by omega) (by omega)) ?_
  refine cB ?_
  refine aP 8 (by decide +kernel) ?_
  refine cU ?_
  refine aB rfl (.bin rfl rfl (aBu (by omega) (by omega))) ?_
  refine cU ?_
  refine aB rfl (.bin rfl rfl (aBu (by omega) (by omega))) ?_
  refine cU ?_
  refine jB nf1 ?_
  refine dI ?_
  refine b9 rfl rfl (.mkE (n:=4) (m:=4) ml ml om om om) ?_
  refine dP ?_
  refine iO 24 rfl rfl rfl (aF cV _) (.cons .ref (.cons (.imm (.pure rfl)) .nil)) (.ref (by decide)) (aDn [0,0,0,0] 0 4 N hn3 (by omega) (by omega) (by simp)) rfl (aF cV _) ?_
  refine eP ?_
  refine aB rfl (.sliceR3 (a:=0) (h:=lA N) (mx:=lA N) rfl Tryz.underlying29 kM (fun y hy=>by cases hy) (fun _=>rfl) rfl rfl (by omega) (by omega) (by omega) (by omega)) ?_
  refine cH ?_
  refine aQ rfl (fun h35r h35=>?_) (fun h35r h35=>?_)
  ·refine dX ?_
   refine aB rfl (.sliceR (a:=lA N) (h:=4) rfl Tryz.underlying29 kM (fun y hy=>by cases hy;exact⟨_,rfl⟩) (fun h=>by cases h) (fun y hy=>by cases hy) (fun _=>rfl) (by omega) (by omega) (by omega)) ?_
   refine bD ?_
   refine iO 24 rfl rfl rfl (aF cV _) (.cons .ref (.cons (.imm (.pure rfl)) .nil)) (.ref (by omega)) (aDn (nT [0,0,0,0] 0 N) (0+lA N) (4-lA N) D hd3 (by omega) (by omega) (by omega)) rfl (aF cV _) ?_
   refine eP ?_
   refine aB rfl (.sliceR3 (a:=lA N) (h:=lA N+lA D) (mx:=lA N+lA D) rfl Tryz.underlying29 kM (fun y hy=>by cases hy;exact⟨_,rfl⟩) (fun h=>by cases h) rfl rfl (by omega) (by omega) (by omega) (by omega)) ?_
   refine cQ ?_
   rw [hE,if_neg (by omega)]
   exact dE [24] rfl rfl rfl rfl rfl dD (.agg (.cons (.pure rfl) (.cons (vP cV rfl rfl (by omega) hs1) (.cons (vP cV rfl rfl (by omega) hs2) .nil))))
  ·refine eP ?_
   rw [hE,if_pos (by omega)]
   exact dE [24] rfl rfl rfl rfl rfl dD (.agg (.cons (.pure rfl) (.cons (vP cV rfl rfl (by omega) hs0) (.cons (.pure rfl) .nil))))
namespace Zq129
theorem cK {p q:Prop} (k:q) (e:p=q:=by simp only [e1,e2,e3,e4,p1,p2,p3,q1,q2,q3,l1,t0,t1,r1,r2,r3,r4,Nat.zero_add,Nat.reduceMul,Nat.reduceAdd,b1,b2,b3,b4,b5,b6,i1,i2,i3,i4,i5,i6,Nat.reduceBEq,eQ,aX,aHV,Nat.add_zero];exact rfl):p:=e.mpr k
end Zq129
open Zq129 in
theorem lQ (s:Bool) (a b:List Nat) (ha:fA a) (hb:fA b) (hla:a.length≤1099511627776) (hlb:b.length≤1099511627776):aN Tryz.prog 194 [bL s,fF a,fF b] (ratL (qv s (val a) (val b))):=by
 have hla2:=m9 a ha hla
 have hlb2:=m9 b hb hlb
 refine dJ Tryz.func194 ?_
 refine dP ?_
 refine eH (fun L=>∃ (t:Bool) (L1:St),(t=decide (val a=0∨val b=0))∧L=((((((St.mk L1.slot (hp [(6,⟨3,[.agg [.v (.bool false),.list 1 [],.list 1 []]],true⟩)])).put (some 0) (bL s)).put (some 1) (fF a)).put (some 2) (fF b)).put (some 6) (.eptr 6 3 0 0)).put (some 15) (bL t))) ?_ ?_
 ·refine cU ?_
  refine cp cS (oS _ (by first | assumption | exact aW _) (by omega)) ?_
  refine cU ?_
  refine eD 11 rfl (fun h11r h11=>?_) (fun h11r h11=>?_)
  ·have hz:val a=0:=gH.1 (by omega)
   refine bY ?_
   exact⟨true,_,(decide_eq_true (.inl hz)).symm,((aA (aA (aA (aA (aA (bB cl) cl) cl) cl) cl) cl)).symm⟩
  ·have hza:val a≠0:=fun h=>by rw [gH.2 h] at h11;exact h11 rfl
   refine bD ?_
   refine cp cS (oS _ (by first | assumption | exact aW _) (by omega)) ?_
   refine cB ?_
   exact⟨decide (((eC (val b):Nat):Int)=0),_,by show decide _=_;rw [aE5];simp [hza],((aA (aA (aA (aA (aA (bB cl) cl) cl) cl) cl) cl)).symm⟩
 ·rintro _ ⟨t,LR1,ht,rfl⟩
  refine bD ?_
  refine aQ rfl (fun h15r h15=>?_) (fun h15r h15=>?_)
  ·have hq:qv s (val a) (val b)=0:=by
    rw [ht,decide_eq_true_eq] at h15r
    rcases h15r with h | h
    ·rw [h];exact rF _ _
    ·rw [h];exact yI _ _
   refine eI ?_
   rw [hq,fD]
   exact dE [] rfl rfl rfl rfl rfl dD (.pure rfl)
  ·rw [ht,decide_eq_false_iff_not,not_or] at h15r
   have ha0:0<val a:=Nat.pos_of_ne_zero h15r.1
   have hb0:0<val b:=Nat.pos_of_ne_zero h15r.2
   have hg:0<Nat.gcd (val a) (val b):=Nat.gcd_pos_of_pos_left _ ha0
   have hE:=rO s ha0 hb0
   have hgl:(aZ (Nat.gcd (val a) (val b))).length≤1099511627776:=Nat.le_trans (cP (Nat.le_of_dvd ha0 (Nat.gcd_dvd_left _ _))) hla2
   have hqa:(aZ (val a/Nat.gcd (val a) (val b))).length≤1099511627776:=Nat.le_trans (cP (Nat.div_le_self _ _)) hla2
   have hqb:(aZ (val b/Nat.gcd (val a) (val b))).length≤1099511627776:=Nat.le_trans (cP (Nat.div_le_self _ _)) hlb2
   refine cB ?_
   refine eH (fun L=>∃ (t:Bool) (L1:St),(t=decide (a.length≤2∧b.length≤2))∧L=((((((St.mk L1.slot (hp [(6,⟨3,[.agg [.v (.bool false),.list 1 [],.list 1 []]],true⟩)])).put (some 0) (bL s)).put (some 1) (fF a)).put (some 2) (fF b)).put (some 6) (.eptr 6 3 0 0)).put (some 24) (bL t))) ?_ ?_
   ·refine dX ?_
    refine eD 20 rfl (fun h20r h20=>?_) (fun h20r h20=>?_)
    ·refine bY ?_
     exact⟨decide (((b.length:Nat):Int)≤2),_,by rw [decide_eq_decide];omega,((aA (aA (aA (aA (aA (bB cl) cl) cl) cl) cl) cl)).symm⟩
    ·refine bY ?_
     exact⟨false,_,by symm;rw [decide_eq_false_iff_not];omega,((aA (aA (aA (aA (aA (bB cl) cl) cl) cl) cl) cl)).symm⟩
   ·rintro _ ⟨t,LR3,ht2,rfl⟩
    refine bD ?_
    refine aQ rfl (fun h24r h24=>?_) (fun h24r h24=>?_)
    ·rw [ht2,decide_eq_true_eq] at h24r
     have hla24:=h24r.1
     have hlb24:=h24r.2
     refine cB ?_
     have hva:=eY ha (k:=2) (by omega)
     have hvb:=eY hb (k:=2) (by omega)
     refine cp cS (yD a ha (by omega)) ?_
     refine bD ?_
     refine cp cS (yD b hb (by omega)) ?_
     refine cp nK (pC _ _ _ hva hb0 hvb) ?_
     refine dX ?_
     exact dE [] rfl rfl rfl (aD.csize _) (aH _) dD (.pure (aD.pure _))
    ·refine dP ?_
     refine cp bI (aCs _ _ (by first | assumption | exact aW _) (by first | assumption | exact aW _) (by omega) (by omega)) ?_
     refine bY ?_
     refine cp cS (oS _ (by first | assumption | exact aW _) (by omega)) ?_
     refine dI ?_
     refine eH (fun L=>∃ (x:List Nat) (y:List Nat) (L1:St),(fA x∧fA y∧x.length≤1099511627776∧y.length≤1099511627776∧val x=val a/Nat.gcd (val a) (val b)∧val y=val b/Nat.gcd (val a) (val b))∧L=(((((St.mk L1.slot (hp [(6,⟨3,[.agg [.v (.bool false),.list 1 [],.list 1 []]],true⟩)])).put (some 0) (bL s)).put (some 1) (fF x)).put (some 2) (fF y)).put (some 6) (.eptr 6 3 0 0))) ?_ ?_
     ·refine aQ rfl (fun h36r h36=>?_) (fun h36r h36=>?_)
      ·refine cB ?_
       refine cp bI (zS _ _ (by first | assumption | exact aW _) (by first | assumption | exact aW _) (by omega) (by omega) (by rw [aX];exact hg)) ?_
       refine cG ?_
       refine cp bI (zS _ _ (by first | assumption | exact aW _) (by first | assumption | exact aW _) (by omega) (by omega) (by rw [aX];exact hg)) ?_
       refine dP ?_
       exact⟨aZ (val a/Nat.gcd (val a) (val b)),aZ (val b/Nat.gcd (val a) (val b)),_,⟨aW _,aW _,hqa,hqb,aX _,aX _⟩,((aA (aA (aA (aA (bB cl) cl) cl) cl) cl)).symm⟩
      ·have hg1:Nat.gcd (val a) (val b)=1:=aFb.1 (by have:=gH (n:=Nat.gcd (val a) (val b));omega)
       refine cU ?_
       exact⟨a,b,_,⟨ha,hb,hla,hlb,by rw [hg1,Nat.div_one],by rw [hg1,Nat.div_one]⟩,((aA (aA (aA (aA (bB cl) cl) cl) cl) cl)).symm⟩
     ·rintro _ ⟨x,y,LC36,⟨hx,hy,hlx,hly,hvx,hvy⟩,rfl⟩
      rw [←hvx,←hvy] at hE
      have hy0:0<val y:=by rw [hvy];exact Nat.div_pos (Nat.le_of_dvd hb0 (Nat.gcd_dvd_right _ _)) hg
      refine cB ?_
      refine cp bI (aGJ x [] hx (by intro y hy;cases hy) hlx (by simp)) ?_
      refine bD ?_
      refine cp bI (aGJ y [] hy (by intro y hy;cases hy) hly (by simp)) ?_
      refine cQ ?_
      refine eD 58 rfl (fun h58r h58=>?_) (fun h58r h58=>?_)
      ·refine dP ?_
       refine aQ rfl (fun h63r h63=>?_) (fun h63r h63=>?_)
       ·have hy1:val y=1:=by have:=(lW (n:=val y) (by omega)).1;omega
        refine eX ?_
        rw [hE,if_pos hy1]
        exact dE [] rfl rfl rfl rfl rfl dD (.agg (.cons (.pure rfl) (.cons (.pure (aR _)) (.cons (.nil 1) .nil))))
       ·have hy1:val y≠1:=by have:=(lW (n:=val y) (by omega)).1;omega
        refine cH ?_
        rw [hE,if_neg hy1]
        exact dE [] rfl rfl rfl rfl rfl dD (.agg (.cons (.pure rfl) (.cons (.pure (aR _)) (.cons (.pure (aR _)) .nil))))
      ·have hy1:val y≠1:=fun e=>by rw [e,uI] at h58;exact h58 rfl
       refine nH ?_
       rw [hE,if_neg hy1]
       exact dE [] rfl rfl rfl rfl rfl dD (.agg (.cons (.pure rfl) (.cons (.pure (aR _)) (.cons (.pure (aR _)) .nil))))
open H0 in
theorem aCd (n:Int) (h1:-9223372036854775808≤n) (h2:n≤9223372036854775807):aN Tryz.prog 195 [iL n] (bQ n.natAbs):=by
 refine dJ Tryz.func195 ?_
 refine cH ?_
 refine aQ rfl (fun h4r h4=>?_) (fun h4r h4=>?_)
 ·refine cU ?_
  refine cp cS (aGx 9223372036854775808 (by omega)) ?_
  refine dX ?_
  rw [show n.natAbs=9223372036854775808 by omega]
  exact b8 rfl (by first | exact .pure rfl | exact .pure (bF _) | exact .pure (aR _) | exact .pure (aD.pure _) | exact .pure (aJ cV _ _) | exact .pure (aJ aD _ _))
 ·refine bY ?_
  refine aB rfl (.neg rfl) ?_
  refine bD ?_
  refine aB rfl (.cv64 (n:=n.natAbs) Tryz.underlying2 Tryz.underlying134 (by simp only [e1,p1,p2,Nat.reduceBEq];rw [aHP (by omega) (by omega)]) (by omega)) ?_
  refine cp cS (aGx n.natAbs (by omega)) ?_
  refine cB ?_
  exact b8 rfl (by first | exact .pure rfl | exact .pure (bF _) | exact .pure (aR _) | exact .pure (aD.pure _) | exact .pure (aJ cV _ _) | exact .pure (aJ aD _ _))
theorem nL {P:Program} {L:St} {a u:Nat} {T:TypeId} {b sz:Nat} {x y x' y':LV} {m:Bool} {n:Nat} {ag:Bool} (bs:List Nat) (h0:bs.contains 0=false) (h:L.slot a=.eptr b sz 0 0) (hb:L.heap b=some ⟨sz,[x],m⟩)
  (hx:x.csize=sz) (hat:x.at 0 n ag=some x) (hT:bT P T n ag) (hi:Imm (L.frz bs).heap x y) (h':L.slot u=x') (hi':Imm (L.frz bs).heap x' y'):n9 P [.cell a T,.tmp u] L (.tup [y,y']) [] :=
 ⟨[x,x'],[y,y'],(L.frz bs).heap,[],.cons ⟨b,sz,0,0,_,x,n,ag,h,hb,rfl,rfl,hx,hat,hT⟩ (.cons h' .nil),kQ bs h0,.cons (.imm hi) (.cons (.imm hi') .nil),List.nodup_nil,rfl,fun k b h=>by simp at h,rfl⟩
namespace Zq64
theorem cK {p q:Prop} (k:q) (e:p=q:=by simp only [e1,e2,e3,e4,p1,p2,p3,q1,q2,q3,l1,t0,t1,r1,r2,r3,r4,Nat.zero_add,Nat.reduceMul,Nat.reduceAdd,b1,b2,b3,b4,b5,b6,i1,i2,i3,i4,i5,i6,Nat.reduceBEq,aX];exact rfl):p:=e.mpr k
end Zq64
open Zq64 in
theorem mJ (n:Int) (h1:-9223372036854775808≤n) (h2:n≤9223372036854775807):aN Tryz.prog 107 [iL n] (ratL (n:Rat)):=by
 refine dJ Tryz.func107 ?_
 refine cG ?_
 refine cp cS (aCd _ (by omega) (by omega)) ?_
 refine cp am0 (aGt) ?_
 refine cp nK (lQ (decide (n<0)) (aZ n.natAbs) (aZ 1) (aW _) (aW _) (Nat.le_trans (f5.2 (by omega)) (by omega)) (by rw [uI];decide)) ?_
 refine cB ?_
 rw [←u7 n]
 exact dE [] rfl rfl rfl (aD.csize _) (aH _) dD (.pure (aD.pure _))
namespace Zq65
theorem cK {p q:Prop} (k:q) (e:p=q:=by simp only [e1,e2,e3,e4,p1,p2,p3,q1,q2,q3,l1,t0,t1,r1,r2,r3,r4,Nat.zero_add,Nat.reduceMul,Nat.reduceAdd,b1,b2,b3,b4,b5,b6,i1,i2,i3,i4,i5,i6,Nat.reduceBEq,aX];exact rfl):p:=e.mpr k
end Zq65
open Zq65 in
theorem zT (n d:Int) (h1:-9223372036854775808≤n) (h2:n≤9223372036854775807) (h3:-9223372036854775808≤d) (h4:d≤9223372036854775807) (hd:d≠0):aN Tryz.prog 294 [iL n,iL d] (.tup [ratL ((n:Rat)/(d:Rat)),iL 0]):=by
 refine dJ Tryz.func294 ?_
 refine fI ?_
 refine aQ rfl (fun h7r h7=>?_) (fun h7r h7=>?_)
 ·exact absurd h7 hd
 ·refine cG ?_
  refine cp cS (aCd _ (by omega) (by omega)) ?_
  refine bD ?_
  refine cp cS (aCd _ (by omega) (by omega)) ?_
  refine cp nK (lQ (decide (n<0) != decide (d<0)) (aZ n.natAbs) (aZ d.natAbs) (aW _) (aW _) (Nat.le_trans (f5.2 (by omega)) (by omega)) (Nat.le_trans (f5.2 (by omega)) (by omega))) ?_
  refine dX ?_
  rw [←yF]
  exact nL [] rfl rfl rfl (aD.csize _) (aH _) dD (.pure (aD.pure _)) rfl (.pure rfl)
theorem tH {q:Rat} (h:smB q=true):pN q=q.num.natAbs∧pD q=q.den∧q.num.natAbs<4294967296∧q.den<4294967296:=by
 have h2:=of_decide_eq_true h
 exact⟨by simp [pN,h],by simp [pD,h],h2.1,h2.2⟩
theorem cO {x y k l:Nat} (hx:(aZ x).length≤k) (hy:(aZ y).length≤l):(aZ (x*y)).length≤k+l :=
 eO (g8 (dO hx) (dO hy))
theorem yH {x y k:Nat} (hx:(aZ x).length≤k) (hy:(aZ y).length≤k):(aZ (x+y)).length≤k+1 :=
 eO (vV (dO hx) (dO hy))
def aEx (x y:Nat):List Nat:=if x<y then [] else aZ (x-y)
def aCg (x y:Nat):Int:=if x<y then 7 else 0
theorem xW (x y:Nat) (hx:(aZ x).length≤1099511627776) (hy:(aZ y).length≤1099511627776):aN Tryz.prog 249 [bQ x,bQ y] (.tup [fF (aEx x y),iL (aCg x y)]):=by
 unfold aEx aCg
 by_cases h:x<y
 ·rw [if_pos h,if_pos h]
  exact aG1 _ _ (aW _) (aW _) hx hy (by rw [aX,aX];exact h)
 ·rw [if_neg h,if_neg h]
  have:=aKj _ _ (aW x) (aW y) hx hy (by rw [aX,aX];omega)
  rw [aX,aX] at this
  exact this
theorem aCt {x y:Nat}:aCg x y=0↔y≤x:=by unfold aCg;split<;>omega
theorem rH {x y:Nat} (h:y≤x):aEx x y=aZ (x-y):=by unfold aEx;rw [if_neg (by omega)]
section
variable {a b:Rat} {s:Bool} {x y d k:Nat}
theorem wQ (hk:0<k) (hx:x*k=a.num.natAbs*b.den) (hy:y*k=b.num.natAbs*a.den) (hd:d*k=a.den*b.den) (h:decide (a<0)=s):a+sgR s b=qv s (x+y) d:=by
 have:=tJ s (n:=a.num.natAbs) (m:=b.num.natAbs) a.den_pos b.den_pos
 rw [←hx,←hy,←hd,←Nat.add_mul,wP s hk] at this
 rw [←this,sgR]
 subst h
 rw [eU]
theorem aBW (hk:0<k) (hx:x*k=a.num.natAbs*b.den) (hy:y*k=b.num.natAbs*a.den) (hd:d*k=a.den*b.den) (h:decide (a<0)≠s) (hle:y≤x):a+sgR s b=qv (decide (a<0)) (x-y) d:=by
 have:=xI (decide (a<0)) s (n:=a.num.natAbs) (m:=b.num.natAbs) a.den_pos b.den_pos h (by rw [←hx,←hy];exact Nat.mul_le_mul_right _ hle)
 rw [←hx,←hy,←hd,←Nat.sub_mul,wP _ hk] at this
 rw [←this,sgR,eU]
theorem aCm (hk:0<k) (hx:x*k=a.num.natAbs*b.den) (hy:y*k=b.num.natAbs*a.den) (hd:d*k=a.den*b.den) (h:decide (a<0)≠s) (hle:x≤y):a+sgR s b=qv s (y-x) d:=by
 have:=uP (decide (a<0)) s (n:=a.num.natAbs) (m:=b.num.natAbs) a.den_pos b.den_pos h (by rw [←hx,←hy];exact Nat.mul_le_mul_right _ hle)
 rw [←hx,←hy,←hd,←Nat.sub_mul,wP _ hk] at this
 rw [←this,sgR,eU]
end
theorem vB {a b:Rat} (h:aZ (jL a)=aZ (jL b)):a.den=b.den:=by
 have h2:jL a=jL b:=by rw [←aX (jL a),h,aX]
 rw [jH,jH] at h2
 have:=a.den_pos
 have:=b.den_pos
 split at h2<;>split at h2<;>omega
theorem aFe {x y k:Nat} (hk:0<k):kY (x*k) (y*k)=kY x y:=by
 simp only [kY,Nat.mul_lt_mul_right hk]
theorem aBP {a b:Rat} (ha:¬ a<0) (hb:¬ b<0):a<b↔a.num.natAbs*b.den<b.num.natAbs*a.den:=by
 rw [uF] at ha hb
 rw [Rat.lt_iff]
 have h1:a.num=(a.num.natAbs:Int):=by omega
 have h2:b.num=(b.num.natAbs:Int):=by omega
 rw [h1,h2]
 simp only [Int.natAbs_natCast]
 exact_mod_cast Iff.rfl
theorem aEW {a b:Rat} (ha:a<0) (hb:b<0):a<b↔b.num.natAbs*a.den<a.num.natAbs*b.den:=by
 have:=aBP (a:=-b) (b:=-a) (by grind) (by grind)
 rw [Rat.neg_num,Rat.neg_num,Int.natAbs_neg,Int.natAbs_neg,Rat.neg_den,Rat.neg_den] at this
 rw [←this]
 grind
theorem aBq {a b:Rat} (h:dM a=dM b):g6 a b=if a<0 then-kY (a.num.natAbs*b.den) (b.num.natAbs*a.den) else kY (a.num.natAbs*b.den) (b.num.natAbs*a.den):=by
 have hs:(a<0)↔(b<0):=by
  unfold dM at h
  split at h<;>split at h<;>(try split at h)<;>(try split at h)<;>grind
 by_cases ha:a<0
 ·have hb:=hs.1 ha
  rw [if_pos ha]
  simp only [g6,kY,aEW ha hb,aEW hb ha]
  split<;>split<;>omega
 ·have hb:=fun h=>ha (hs.2 h)
  rw [if_neg ha]
  simp only [g6,kY,aBP ha hb,aBP hb ha]
theorem aHp {a b:Rat} (h:dM a<dM b):g6 a b=-1:=by
 have:a<b:=by unfold dM at h;split at h<;>split at h<;>(try split at h)<;>(try split at h)<;>grind
 simp [g6,this]
theorem aHA {a b:Rat} (h:dM b<dM a):g6 a b=1:=by
 have h1:b<a:=by unfold dM at h;split at h<;>split at h<;>(try split at h)<;>(try split at h)<;>grind
 have h2:¬ a<b:=by grind
 simp [g6,h1,h2]
theorem aAK {q:Rat} (h:(aZ q.num.natAbs).length=0):q=0:=by
 have:=eE.1 (List.eq_nil_of_length_eq_zero h)
 exact Rat.num_eq_zero.1 (by omega)
theorem aDz {c:Int} {x y:Nat} (h:c=kY x y):IntKind.i64.wrap (0-c)=-c:=by
 have:c=-1∨c=0∨c=1:=by rw [h];unfold kY;split<;>(try split)<;>simp
 rw [IntWalk.i64_in _ (by omega)];omega
end Go.Proofs.YtckppbhafancnaaGreat
namespace Go.Lg
open Go.Proofs.YtckppbhafancnaaGreat in
theorem OpT.stR1 {P:Program} {L:St} {dst:Option Nat} {T:TypeId} {p x:Operand} {b:Nat} {q q0:Rat} (hp:L.ev p=.eptr b 3 0 0) (hb:L.heap b=some ⟨3,[ratL q0],true⟩) (hx:L.ev x=ratL q) (hT:bT P T 3 true) :
  OpT P L dst (.store T p x) ((L.setB b (some ⟨3,[ratL q],true⟩)).put dst .any):=by
 have h0:LV.put (ratL q0) 0 (L.ev x)=some (ratL q):=by
  rw [hx,iV q0]
  have e1:∀ n,(bQ n).csize=1:=fun _=>rfl
  simp [LV.put,aD.csize,aD.isAgg,aL,LV.csize,e1]
 have h:=OpT.store (P:=P) (dst:=dst) (T:=T) (p:=p) (x:=x) (y:=ratL q0) (y':=ratL q) hp hb rfl rfl rfl (aD.csize _) h0 (by rw [hx,aD.csize,aD.isAgg];exact hT)
  (by rw [hx];exact⟨LV.pure_ne_any (aD.pure q),LV.pure_ne_tup (aD.pure q)⟩)
 exact h
end Go.Lg
namespace Go.Proofs.YtckppbhafancnaaGreat
open Go.Lg
namespace Zq69
theorem cK {p q:Prop} (k:q) (e:p=q:=by simp only [e1,e2,e3,e4,p1,p2,p3,q1,q2,q3,l1,t0,t1,r1,r2,r3,r4,Nat.zero_add,Nat.reduceMul,Nat.reduceAdd,b1,b2,b3,b4,b5,b6,i1,i2,i3,i4,i5,i6,Nat.reduceBEq,aX];exact rfl):p:=e.mpr k
end Zq69
open Zq69 in
theorem jF (q:Rat) (h:rl q≤1099511627776):aN Tryz.prog 38 [ratL q] (iL (dM q)):=by
 have h1:=gX q
 have hq:=aCQ q
 refine dJ Tryz.func38 ?_
 refine cH ?_
 refine cp cS (oS _ (by first | assumption | exact aW _) (by omega)) ?_
 refine cB ?_
 refine aQ rfl (fun h3r h3=>?_) (fun h3r h3=>?_)
 ·have hz:q.num.natAbs=0:=gH.1 (by omega)
  refine eI ?_
  rw [hq,if_pos hz]
  exact b8 rfl (by first | exact .pure rfl | exact .pure (bF _) | exact .pure (aR _) | exact .pure (aD.pure _) | exact .pure (aJ cV _ _) | exact .pure (aJ aD _ _))
 ·have hz:q.num.natAbs≠0:=fun e=>by rw [gH.2 e] at h3;exact h3 rfl
  refine dP ?_
  refine aQ rfl (fun h8r h8=>?_) (fun h8r h8=>?_)
  ·refine eI ?_
   rw [hq,if_neg hz,if_pos h8]
   exact b8 rfl (by first | exact .pure rfl | exact .pure (bF _) | exact .pure (aR _) | exact .pure (aD.pure _) | exact .pure (aJ cV _ _) | exact .pure (aJ aD _ _))
  ·refine eP ?_
   rw [hq,if_neg hz,if_neg h8]
   exact b8 rfl (by first | exact .pure rfl | exact .pure (bF _) | exact .pure (aR _) | exact .pure (aD.pure _) | exact .pure (aJ cV _ _) | exact .pure (aJ aD _ _))
open H0 in
theorem wC (q:Rat) (h:rl q≤1099511627776):aN Tryz.prog 244 [ratL q] (ratL q):=by
 have h1:=gX q
 have h2:=gD q
 refine dJ Tryz.func244 ?_
 refine dP ?_
 refine aP 9 (by decide +kernel) ?_
 refine cB ?_
 refine cp cS (rI _ (by omega)) ?_
 refine cU ?_
 refine cp cS (rI _ (by omega)) ?_
 refine dX ?_
 rw [iV]
 exact dE [] rfl rfl rfl rfl rfl dD (.agg (.cons (.pure rfl) (.cons (.pure (aR _)) (.cons (.pure (aR _)) .nil))))
namespace Zq63
theorem cK {p q:Prop} (k:q) (e:p=q:=by simp only [e1,e2,e3,e4,p1,p2,p3,q1,q2,q3,l1,t0,t1,r1,r2,r3,r4,Nat.zero_add,Nat.reduceMul,Nat.reduceAdd,b1,b2,b3,b4,b5,b6,i1,i2,i3,i4,i5,i6,Nat.reduceBEq,aX];exact rfl):p:=e.mpr k
theorem v5 {p q:Prop} (k:q) (e:p=q:=by simp only [e1,e2,e3,e4,p1,p2,p3,q1,q2,q3,l1,t0,t1,r1,r2,r3,r4,Nat.zero_add,Nat.reduceMul,Nat.reduceAdd,b1,b2,b3,b4,b5,b6,i1,i2,i3,i4,i5,i6,Nat.reduceBEq,aX,ekA,ekB,ekC,ekD];exact rfl):p:=e.mpr k
theorem nf1 {p:Prop} (h:p:=by first | (refine v5 ?_;exact rfl) | exact rfl):p:=h
end Zq63
open Zq63 in
theorem iN (a b:Rat) (h:rl a+rl b≤1099511627776):aN Tryz.prog 92 [ratL a,ratL b] (iL (g6 a b)):=by
 have a1:=gX a
 have a2:=iM a
 have a3:=gD a
 have c1:=gX b
 have c2:=iM b
 have c3:=gD b
 have a0:=a.den_pos
 have c0:=b.den_pos
 have m1:=cO a1 c2
 have m2:=cO c1 a2
 have m3:=cO a2 c2
 have m4:=cO a1 c1
 have m5:=cO a2 c1
 have m6:=cO c2 a2
 refine dJ Tryz.func92 ?_
 refine eP ?_
 refine aP 6 (by decide +kernel) ?_
 refine bD ?_
 refine cp cS (jF _ (by omega)) ?_
 refine bD ?_
 refine cp cS (jF _ (by omega)) ?_
 refine cQ ?_
 refine aQ rfl (fun h20r h20=>?_) (fun h20r h20=>?_)
 ·refine eI ?_
  refine aQ rfl (fun h23r h23=>?_) (fun h23r h23=>?_)
  ·refine eI ?_
   rw [aHp h23]
   exact b8 rfl (by first | exact .pure rfl | exact .pure (bF _) | exact .pure (aR _) | exact .pure (aD.pure _) | exact .pure (aJ cV _ _) | exact .pure (aJ aD _ _))
  ·refine eP ?_
   rw [aHA (by omega)]
   exact b8 rfl (by first | exact .pure rfl | exact .pure (bF _) | exact .pure (aR _) | exact .pure (aD.pure _) | exact .pure (aJ cV _ _) | exact .pure (aJ aD _ _))
 ·have hss:dM a=dM b:=by omega
  refine cQ ?_
  refine cp cS (l8 _) ?_
  refine iR ?_
  refine cp bI (uE _ _ (by omega) (by omega)) ?_
  refine cU ?_
  refine eH (fun L=>∃ (c:Int) (L1:St),(c=kY (a.num.natAbs*b.den) (b.num.natAbs*a.den))∧L=(((St.mk L1.slot (hp [(2,⟨3,[ratL a],true⟩),(3,⟨3,[ratL b],true⟩)])).put (some 2) (.eptr 2 3 0 0)).put (some 7) (iL c))) ?_ ?_
  ·refine aQ rfl (fun h34r h34=>?_) (fun h34r h34=>?_)
   ·refine dX ?_
    refine cp bI (vF _ _ (aW _) (aW _) (by first | omega | (simp only [aX];omega)) (by first | omega | (simp only [aX];omega))) ?_
    refine dI ?_
    exact⟨kY a.num.natAbs b.num.natAbs,_,by rw [vB h34];exact(aFe b.den_pos).symm,((aA (aA (bB cl) cl) cl)).symm⟩
   ·refine dI ?_
    refine cp cS (l8 _) ?_
    refine cG ?_
    refine eH (fun L=>∃ (t:Bool) (L1:St),(t=(smB a && smB b))∧L=(((((((((St.mk L1.slot (hp [(2,⟨3,[ratL a],true⟩),(3,⟨3,[ratL b],true⟩)])).put (some 2) (.eptr 2 3 0 0)).put (some 3) (.eptr 3 3 0 0)).put (some 7) (iL 0)).put (some 8) (dL (pN a))).put (some 9) (dL (pD a))).put (some 11) (dL (pN b))).put (some 12) (dL (pD b))).put (some 49) (bL t))) ?_ ?_
    ·refine dI ?_
     refine eD 47 rfl (fun h47r h47=>?_) (fun h47r h47=>?_)
     ·refine cB ?_
      exact⟨smB b,_,by rw [h47r];rfl,((aA (aA (aA (aA (aA (aA (aA (aA (bB cl) cl) cl) cl) cl) cl) cl) cl) cl)).symm⟩
     ·refine cB ?_
      exact⟨false,_,by rw [h47r];rfl,((aA (aA (aA (aA (aA (aA (aA (aA (bB cl) cl) cl) cl) cl) cl) cl) cl) cl)).symm⟩
    ·rintro _ ⟨t,LR11,ht,rfl⟩
     refine bD ?_
     refine aQ rfl (fun h49r h49=>?_) (fun h49r h49=>?_)
     ·rw [ht,Bool.and_eq_true] at h49r
      obtain⟨ekA,ekB,k3,k4⟩:=tH h49r.1
      obtain⟨ekC,ekD,k7,k8⟩:=tH h49r.2
      have n1:=nO k3 k8
      have n2:=nO k7 k4
      have n3:=n1
      have n4:=n2
      rw [←ekA,←ekD] at n1
      rw [←ekC,←ekB] at n2
      refine cB ?_
      refine aB rfl (.bin rfl rfl (vS (by omega))) ?_
      refine cU ?_
      refine aB rfl (.bin rfl rfl (vS (by omega))) ?_
      refine bD ?_
      refine jB nf1 ?_
      refine bD ?_
      refine aQ rfl (fun h56r h56=>?_) (fun h56r h56=>?_)
      ·refine cB ?_
       exact⟨-1,_,(f9 (by omega)).symm,((aA (aA (bB cl) cl) cl)).symm⟩
      ·refine cB ?_
       refine aB rfl (.bin rfl rfl (vS (by omega))) ?_
       refine cU ?_
       refine aB rfl (.bin rfl rfl (vS (by omega))) ?_
       refine bD ?_
       refine jB nf1 ?_
       refine bD ?_
       refine aQ rfl (fun h63r h63=>?_) (fun h63r h63=>?_)
       ·refine cB ?_
        exact⟨1,_,(gZ (by omega)).symm,((aA (aA (bB cl) cl) cl)).symm⟩
       ·refine cU ?_
        exact⟨0,_,(iG (by omega)).symm,((aA (aA (bB cl) cl) cl)).symm⟩
     ·refine aP 12 (by decide +kernel) ?_
      refine dI ?_
      refine cp cS (p5 _) ?_
      refine cp bI (mX _ _ (aW _) (aW _) (by omega) (by omega)) ?_
      refine dI ?_
      refine cp cS (p5 _) ?_
      refine cp bI (mX _ _ (aW _) (aW _) (by omega) (by omega)) ?_
      refine cp bI (vF _ _ (aW _) (aW _) (by first | omega | (simp only [aX];omega)) (by first | omega | (simp only [aX];omega))) ?_
      refine dI ?_
      exact⟨kY (a.num.natAbs*b.den) (b.num.natAbs*a.den),_,rfl,((aA (aA (bB cl) cl) cl)).symm⟩
  ·rintro _ ⟨c,LC34,hc,rfl⟩
   refine eI ?_
   refine aQ rfl (fun h76r h76=>?_) (fun h76r h76=>?_)
   ·refine eP ?_
    rw [aBq hss,if_pos h76,←hc,←aDz hc]
    exact b8 rfl (by first | exact .pure rfl | exact .pure (bF _) | exact .pure (aR _) | exact .pure (aD.pure _) | exact .pure (aJ cV _ _) | exact .pure (aJ aD _ _))
   ·refine eP ?_
    rw [aBq hss,if_neg h76,←hc]
    exact b8 rfl (by first | exact .pure rfl | exact .pure (bF _) | exact .pure (aR _) | exact .pure (aD.pure _) | exact .pure (aJ cV _ _) | exact .pure (aJ aD _ _))
namespace Zq67
theorem cK {p q:Prop} (k:q) (e:p=q:=by simp only [e1,e2,e3,e4,p1,p2,p3,q1,q2,q3,l1,t0,t1,r1,r2,r3,r4,Nat.zero_add,Nat.reduceMul,Nat.reduceAdd,b1,b2,b3,b4,b5,b6,i1,i2,i3,i4,i5,i6,Nat.reduceBEq,aX,ekA,ekB,ekC,ekD];exact rfl):p:=e.mpr k
end Zq67
open Zq67 in
theorem dQ (a b:Rat) (h:rl a+rl b≤1099511627776):aN Tryz.prog 191 [ratL a,ratL b] (ratL (a*b)):=by
 have a1:=gX a
 have a2:=iM a
 have a3:=gD a
 have c1:=gX b
 have c2:=iM b
 have c3:=gD b
 have a0:=a.den_pos
 have c0:=b.den_pos
 have m1:=cO a1 c2
 have m2:=cO c1 a2
 have m3:=cO a2 c2
 have m4:=cO a1 c1
 have m5:=cO a2 c1
 have m6:=cO c2 a2
 have hE:=zN (decide (a<0)) (decide (b<0)) a.num.natAbs a.den b.num.natAbs b.den
 rw [eU,eU] at hE
 refine dJ Tryz.func191 ?_
 have ekA:True:=trivial
 have ekB:True:=trivial
 have ekC:True:=trivial
 have ekD:True:=trivial
 refine iR ?_
 refine eD 15 rfl (fun h15r h15=>?_) (fun h15r h15=>?_)
 ·have hz:a*b=0:=by rw [aAK (q:=a) (by omega),Rat.zero_mul]
  refine n8 ?_
  rw [hz,fD]
  exact dE [] rfl rfl rfl rfl rfl dD (.pure rfl)
 ·refine dP ?_
  refine aQ rfl (fun h20r h20=>?_) (fun h20r h20=>?_)
  ·have hz:a*b=0:=by rw [aAK (q:=b) (by omega),Rat.mul_zero]
   refine eI ?_
   rw [hz,fD]
   exact dE [] rfl rfl rfl rfl rfl dD (.pure rfl)
  ·refine bY ?_
   refine cp cS (l8 _) ?_
   refine eX ?_
   refine eH (fun L=>∃  (L1:St),(True)∧L=((((St.mk L1.slot (hp [(2,⟨3,[ratL a],true⟩),(3,⟨3,[ratL b],true⟩),(4,⟨3,[.agg [.v (.bool false),.list 1 [],.list 1 []]],true⟩)])).put (some 2) (.eptr 2 3 0 0)).put (some 3) (.eptr 3 3 0 0)).put (some 4) (.eptr 4 3 0 0))) ?_ ?_
   ·refine aQ rfl (fun h28r h28=>?_) (fun h28r h28=>?_)
    ·obtain⟨ekA,ekB,k3,k4⟩:=tH h28r
     refine dI ?_
     refine cp cS (l8 _) ?_
     refine eX ?_
     refine aQ rfl (fun h35r h35=>?_) (fun h35r h35=>?_)
     ·obtain⟨ekC,ekD,k7,k8⟩:=tH h35r
      have n1:=nO k3 k7
      have n2:=nO k4 k8
      have np:=Nat.mul_pos a0 c0
      refine eP ?_
      refine aB rfl (.bin rfl rfl (vS (by first | omega | (simp only [ekA,ekB,ekC,ekD];omega)))) ?_
      refine cU ?_
      refine aB rfl (.bin rfl rfl (vS (by first | omega | (simp only [ekA,ekB,ekC,ekD];omega)))) ?_
      refine cp nK (pC _ _ _ (by first | omega | (simp only [ekA,ekB,ekC,ekD];omega)) (by first | exact np | (simp only [ekA,ekB,ekC,ekD];exact np)) (by first | omega | (simp only [ekA,ekB,ekC,ekD];omega))) ?_
      refine bY ?_
      rw [hE]
      exact dE [] rfl rfl rfl (aD.csize _) (aH _) dD (.pure (aD.pure _))
     ·refine cU ?_
      exact⟨_,trivial,((aA (aA (aA (bB cl) cl) cl) cl)).symm⟩
    ·refine cU ?_
     exact⟨_,trivial,((aA (aA (aA (bB cl) cl) cl) cl)).symm⟩
   ·rintro _ ⟨LC28,-,rfl⟩
    refine cU ?_
    refine aP 16 (by decide +kernel) ?_
    refine eP ?_
    refine cp bI (mX _ _ (aW _) (aW _) (by omega) (by omega)) ?_
    refine bD ?_
    refine cp cS (p5 _) ?_
    refine bD ?_
    refine cp cS (p5 _) ?_
    refine cp bI (mX _ _ (aW _) (aW _) (by omega) (by omega)) ?_
    refine cp nK (lQ _ _ _ (aW _) (aW _) (by first | omega | (simp only [aX];omega)) (by first | omega | (simp only [aX];omega))) ?_
    refine cB ?_
    rw [hE]
    exact dE [] rfl rfl rfl (aD.csize _) (aH _) dD (.pure (aD.pure _))
namespace Zq68
theorem cK {p q:Prop} (k:q) (e:p=q:=by simp only [e1,e2,e3,e4,p1,p2,p3,q1,q2,q3,l1,t0,t1,r1,r2,r3,r4,Nat.zero_add,Nat.reduceMul,Nat.reduceAdd,b1,b2,b3,b4,b5,b6,i1,i2,i3,i4,i5,i6,Nat.reduceBEq,aX,ekA,ekB,ekC,ekD];exact rfl):p:=e.mpr k
end Zq68
open Zq68 in
theorem mD (a b:Rat) (h:rl a+rl b≤1099511627776):aN Tryz.prog 169 [ratL a,ratL b] (.tup [ratL (a/b),iL (if b=0 then 3 else 0)]):=by
 have a1:=gX a
 have a2:=iM a
 have a3:=gD a
 have c1:=gX b
 have c2:=iM b
 have c3:=gD b
 have a0:=a.den_pos
 have c0:=b.den_pos
 have m1:=cO a1 c2
 have m2:=cO c1 a2
 have m3:=cO a2 c2
 have m4:=cO a1 c1
 have m5:=cO a2 c1
 have m6:=cO c2 a2
 have hE:=aCi (decide (a<0)) (decide (b<0)) a.num.natAbs a.den b.num.natAbs b.den
 rw [eU,eU] at hE
 refine dJ Tryz.func169 ?_
 have ekA:True:=trivial
 have ekB:True:=trivial
 have ekC:True:=trivial
 have ekD:True:=trivial
 refine cH ?_
 refine cp cS (jF _ (by omega)) ?_
 refine dI ?_
 refine aQ rfl (fun h14r h14=>?_) (fun h14r h14=>?_)
 ·have hz:b=0:=by
   unfold dM at h14;split at h14
   ·assumption
   ·split at h14<;>omega
  refine eP ?_
  subst hz
  rw [show a/0=0 by rw [Rat.div_def];simp,fD]
  exact nL [] rfl rfl rfl rfl rfl dD (.pure rfl) rfl (.pure rfl)
 ·have hz:b≠0:=by rintro rfl;exact h14 rfl
  have hbn:0<b.num.natAbs:=Nat.pos_of_ne_zero (fun h=>hz (Rat.num_eq_zero.1 (by omega)))
  refine bY ?_
  refine cp cS (l8 _) ?_
  refine eX ?_
  refine eH (fun L=>∃  (L1:St),(True)∧L=(((((St.mk L1.slot (hp [(2,⟨3,[ratL a],true⟩),(3,⟨3,[ratL b],true⟩),(4,⟨3,[.agg [.v (.bool false),.list 1 [],.list 1 []]],true⟩)])).put (some 2) (.eptr 2 3 0 0)).put (some 3) (.eptr 3 3 0 0)).put (some 4) (.eptr 4 3 0 0)).put (some 5) (iL 0))) ?_ ?_
  ·refine aQ rfl (fun h22r h22=>?_) (fun h22r h22=>?_)
   ·obtain⟨ekA,ekB,k3,k4⟩:=tH h22r
    refine dI ?_
    refine cp cS (l8 _) ?_
    refine eX ?_
    refine aQ rfl (fun h29r h29=>?_) (fun h29r h29=>?_)
    ·obtain⟨ekC,ekD,k7,k8⟩:=tH h29r
     have n1:=nO k3 k8
     have n2:=nO k4 k7
     have np:=Nat.mul_pos a0 hbn
     refine eP ?_
     refine aB rfl (.bin rfl rfl (vS (by first | omega | (simp only [ekA,ekB,ekC,ekD];omega)))) ?_
     refine cU ?_
     refine aB rfl (.bin rfl rfl (vS (by first | omega | (simp only [ekA,ekB,ekC,ekD];omega)))) ?_
     refine cp nK (pC _ _ _ (by first | omega | (simp only [ekA,ekB,ekC,ekD];omega)) (by first | exact np | (simp only [ekA,ekB,ekC,ekD];exact np)) (by first | omega | (simp only [ekA,ekB,ekC,ekD];omega))) ?_
     refine dP ?_
     rw [hE,if_neg hz]
     exact nL [] rfl rfl rfl (aD.csize _) (aH _) dD (.pure (aD.pure _)) rfl (.pure rfl)
    ·refine cU ?_
     exact⟨_,trivial,((aA (aA (aA (aA (bB cl) cl) cl) cl) cl)).symm⟩
   ·refine cU ?_
    exact⟨_,trivial,((aA (aA (aA (aA (bB cl) cl) cl) cl) cl)).symm⟩
  ·rintro _ ⟨LC22,-,rfl⟩
   refine cU ?_
   refine aP 16 (by decide +kernel) ?_
   refine eI ?_
   refine cp cS (p5 _) ?_
   refine cp bI (mX _ _ (aW _) (aW _) (by omega) (by omega)) ?_
   refine bD ?_
   refine cp cS (p5 _) ?_
   refine cU ?_
   refine cp bI (mX _ _ (aW _) (aW _) (by omega) (by omega)) ?_
   refine cp nK (lQ _ _ _ (aW _) (aW _) (by first | omega | (simp only [aX];omega)) (by first | omega | (simp only [aX];omega))) ?_
   refine dX ?_
   rw [hE,if_neg hz]
   exact nL [] rfl rfl rfl (aD.csize _) (aH _) dD (.pure (aD.pure _)) rfl (.pure rfl)
theorem lE {p s:Bool} (h:(p==s)=false):p≠s:=by simpa using h
namespace Zq127
theorem cK {p q:Prop} (k:q) (e:p=q:=by simp only [e1,e2,e3,e4,p1,p2,p3,q1,q2,q3,l1,t0,t1,r1,r2,r3,r4,Nat.zero_add,Nat.reduceMul,Nat.reduceAdd,b1,b2,b3,b4,b5,b6,i1,i2,i3,i4,i5,i6,Nat.reduceBEq,aX,Nat.one_mul,Nat.mul_one,eS,eK,eSb,eSc,ekA,ekB,ekC,ekD];exact rfl):p:=e.mpr k
end Zq127
open Zq127 in
theorem aGC (a b:Rat) (s:Bool) (h:rl a+rl b≤549755813888):aN Tryz.prog 180 [ratL a,ratL b,bL s] (ratL (a+sgR s b)):=by
 have a1:=gX a
 have a2:=iM a
 have a3:=gD a
 have c1:=gX b
 have c2:=iM b
 have c3:=gD b
 have a0:=a.den_pos
 have c0:=b.den_pos
 have m1:=cO a1 c2
 have m2:=cO c1 a2
 have m3:=cO a2 c2
 have m4:=cO a1 c1
 have m5:=cO a2 c1
 have m6:=cO c2 a2
 have mm:=yH (k:=rl a+rl b) m1 (by omega)
 refine dJ Tryz.func180 ?_
 have eS:True:=trivial
 have eK:True:=trivial
 have eSb:True:=trivial
 have eSc:True:=trivial
 have ekA:True:=trivial
 have ekB:True:=trivial
 have ekC:True:=trivial
 have ekD:True:=trivial
 refine cQ ?_
 refine cp cS (l8 _) ?_
 refine eX ?_
 refine eH (fun L=>∃  (L1:St),(True)∧L=(((((St.mk L1.slot (hp [(3,⟨3,[ratL a],true⟩),(4,⟨3,[ratL b],true⟩),(6,⟨3,[.agg [.v (.bool false),.list 1 [],.list 1 []]],true⟩)])).put (some 2) (bL s)).put (some 3) (.eptr 3 3 0 0)).put (some 4) (.eptr 4 3 0 0)).put (some 6) (.eptr 6 3 0 0))) ?_ ?_
 ·refine aQ rfl (fun h28r h28=>?_) (fun h28r h28=>?_)
  ·obtain⟨ekA,ekB,k3,k4⟩:=tH h28r
   refine dI ?_
   refine cp cS (l8 _) ?_
   refine eX ?_
   refine aQ rfl (fun h35r h35=>?_) (fun h35r h35=>?_)
   ·obtain⟨ekC,ekD,k7,k8⟩:=tH h35r
    have n1:=nO k3 k8
    have n2:=nO k7 k4
    have n3:=nO k4 k8
    have np:=Nat.mul_pos a0 c0
    refine cB ?_
    refine aB rfl (.bin rfl rfl (vS (by first | omega | (simp only [ekA,ekB,ekC,ekD];omega)))) ?_
    refine cU ?_
    refine aB rfl (.bin rfl rfl (vS (by first | omega | (simp only [ekA,ekB,ekC,ekD];omega)))) ?_
    refine dX ?_
    have eS:(((a.num.natAbs*b.den:Nat):Int)+((b.num.natAbs*a.den:Nat):Int)+0) % 18446744073709551616=(((a.num.natAbs*b.den+b.num.natAbs*a.den) % 18446744073709551616:Nat):Int):=by omega
    have eK:(((a.num.natAbs*b.den:Nat):Int)+((b.num.natAbs*a.den:Nat):Int)+0)/18446744073709551616=(((a.num.natAbs*b.den+b.num.natAbs*a.den)/18446744073709551616:Nat):Int):=by omega
    refine dI ?_
    refine aB rfl (.ext2 Tryz.func247 rfl rfl rfl rfl (vs:=[.int .u64 ((a.num.natAbs*b.den:Nat):Int),.int .u64 ((b.num.natAbs*a.den:Nat):Int),.int .u64 0]) rfl (fun w=>run_add64 _ _ _ (by omega) (by omega) (by omega) (by omega) w) rfl rfl) ?_
    refine iR ?_
    refine eD 53 rfl (fun h53r h53=>?_) (fun h53r h53=>?_)
    ·refine bY ?_
     refine aQ rfl (fun h48r h48=>?_) (fun h48r h48=>?_)
     ·refine dP ?_
      refine cp nK (pC s ((a.num.natAbs*b.den+b.num.natAbs*a.den) % 18446744073709551616) (a.den*b.den) (by omega) np (by omega)) ?_
      refine dP ?_
      have hc0:a.num.natAbs*b.den+b.num.natAbs*a.den<18446744073709551616:=by omega
      rw [wQ (k:=1) (x:=a.num.natAbs*b.den) (y:=b.num.natAbs*a.den) (d:=a.den*b.den) (by omega) (Nat.mul_one _) (Nat.mul_one _) (Nat.mul_one _) (eq_of_beq h53r),show qv s (a.num.natAbs*b.den+b.num.natAbs*a.den) (a.den*b.den)=qv s ((a.num.natAbs*b.den+b.num.natAbs*a.den) % 18446744073709551616) (a.den*b.den) by rw [Nat.mod_eq_of_lt hc0]]
      exact dE [] rfl rfl rfl (aD.csize _) (aH _) dD (.pure (aD.pure _))
     ·refine dP ?_
      refine cE (aO (v:=false) rfl rfl ((by rw [h53r];rfl)) rfl) ?_
      refine cE (aO (v:=false) rfl rfl ((by rw [h53r];rfl)) rfl) ?_
      refine cE (aO (v:=false) rfl rfl ((by rw [h53r];rfl)) rfl) ?_
      refine aB rfl (.pickF rfl ((by rw [h53r];rfl))) ?_
      refine fI ?_
      refine bO (b:=_) rfl (by rw [h53r];rfl) ?_
      refine dI ?_
      exact⟨_,trivial,((aA (aA (aA (aA (bB cl) cl) cl) cl) cl)).symm⟩
    ·refine eX ?_
     refine aB (aO (v:=true) rfl rfl ((by rw [h53r];rfl)) rfl) (.move _) ?_
     refine aB (aO (v:=true) rfl rfl ((by rw [h53r];rfl)) rfl) (.move _) ?_
     refine aB (aO (v:=true) rfl rfl ((by rw [h53r];rfl)) rfl) (.bin rfl rfl rfl) ?_
     refine aB rfl (.pickT rfl ((by rw [h53r];rfl))) ?_
     refine dI ?_
     refine aQ rfl (fun h63r h63=>?_) (fun h63r h63=>?_)
     ·refine cG ?_
      refine cp nK (pC _ _ _ (by first | omega | (simp only [ekA,ekB,ekC,ekD];omega)) (by first | exact np | (simp only [ekA,ekB,ekC,ekD];exact np)) (by first | omega | (simp only [ekA,ekB,ekC,ekD];omega))) ?_
      refine dP ?_
      rw [aBW (k:=1) (x:=a.num.natAbs*b.den) (y:=b.num.natAbs*a.den) (d:=a.den*b.den) (by omega) (Nat.mul_one _) (Nat.mul_one _) (Nat.mul_one _) (lE h53r) (by omega)]
      exact dE [] rfl rfl rfl (aD.csize _) (aH _) dD (.pure (aD.pure _))
     ·refine eP ?_
      refine aY (b:=_) rfl (by rw [h53r];rfl) ?_
      refine eP ?_
      refine cp nK (pC _ _ _ (by first | omega | (simp only [ekA,ekB,ekC,ekD];omega)) (by first | exact np | (simp only [ekA,ekB,ekC,ekD];exact np)) (by first | omega | (simp only [ekA,ekB,ekC,ekD];omega))) ?_
      refine dP ?_
      rw [aCm (k:=1) (x:=a.num.natAbs*b.den) (y:=b.num.natAbs*a.den) (d:=a.den*b.den) (by omega) (Nat.mul_one _) (Nat.mul_one _) (Nat.mul_one _) (lE h53r) (by omega)]
      exact dE [] rfl rfl rfl (aD.csize _) (aH _) dD (.pure (aD.pure _))
   ·refine cU ?_
    exact⟨_,trivial,((aA (aA (aA (aA (bB cl) cl) cl) cl) cl)).symm⟩
  ·refine cU ?_
   exact⟨_,trivial,((aA (aA (aA (aA (bB cl) cl) cl) cl) cl)).symm⟩
 ·rintro _ ⟨LC28,-,rfl⟩
  refine cU ?_
  refine aP 9 (by decide +kernel) ?_
  refine dX ?_
  refine cp cS (p5 _) ?_
  refine cH ?_
  refine cp bI (uE _ _ (by omega) (by omega)) ?_
  refine dI ?_
  refine eH (fun L=>∃ (x:Nat) (y:Nat) (d:Nat) (L1:St),(∃ k,0<k∧x*k=a.num.natAbs*b.den∧y*k=b.num.natAbs*a.den∧d*k=a.den*b.den∧0<d∧(aZ x).length≤rl a+rl b∧(aZ y).length≤rl a+rl b∧(aZ d).length≤rl a+rl b)∧L=((((((((St.mk L1.slot (hp [(3,⟨3,[ratL a],true⟩),(4,⟨3,[ratL b],true⟩),(6,⟨3,[.agg [.v (.bool false),.list 1 [],.list 1 []]],true⟩)])).put (some 2) (bL s)).put (some 3) (.eptr 3 3 0 0)).put (some 4) (.eptr 4 3 0 0)).put (some 6) (.eptr 6 3 0 0)).put (some 15) (bQ x)).put (some 16) (bQ y)).put (some 17) (bQ d))) ?_ ?_
  ·refine aQ rfl (fun h106r h106=>?_) (fun h106r h106=>?_)
   ·refine aP 15 (by decide +kernel) ?_
    refine cU ?_
    refine cp cS (p5 _) ?_
    refine cp bI (mX _ _ (aW _) (aW _) (by omega) (by omega)) ?_
    refine cU ?_
    refine cp cS (p5 _) ?_
    refine cp bI (mX _ _ (aW _) (aW _) (by omega) (by omega)) ?_
    refine cU ?_
    refine cp cS (p5 _) ?_
    refine cp bI (mX _ _ (aW _) (aW _) (by omega) (by omega)) ?_
    refine dX ?_
    exact⟨a.num.natAbs*b.den,b.num.natAbs*a.den,a.den*b.den,_,⟨1,by omega,Nat.mul_one _,Nat.mul_one _,Nat.mul_one _,Nat.mul_pos a0 c0,m1,by omega,m3⟩,((aA (aA (aA (aA (aA (aA (aA (bB cl) cl) cl) cl) cl) cl) cl) cl)).symm⟩
   ·have hde:=vB h106
    refine cU ?_
    exact⟨a.num.natAbs,b.num.natAbs,a.den,_,⟨a.den,a0,by rw [hde],rfl,by rw [hde],a0,by omega,by omega,by omega⟩,((aA (aA (aA (aA (aA (aA (aA (bB cl) cl) cl) cl) cl) cl) cl) cl)).symm⟩
  ·rintro _ ⟨x,y,d,LC106,⟨k,hk,hx,hy,hd,hd0,lx,ly,ld⟩,rfl⟩
   have lxy:=yH lx ly
   have lxs:(aZ (x-y)).length≤rl a+rl b:=Nat.le_trans (cP (Nat.sub_le _ _)) lx
   have lys:(aZ (y-x)).length≤rl a+rl b:=Nat.le_trans (cP (Nat.sub_le _ _)) ly
   refine cG ?_
   refine aQ rfl (fun h122r h122=>?_) (fun h122r h122=>?_)
   ·refine dX ?_
    refine cp bI (aGJ _ _ (aW _) (aW _) (by omega) (by omega)) ?_
    refine bD ?_
    refine cp nK (lQ _ _ _ (aW _) (aW _) (by first | omega | (simp only [aX];omega)) (by first | omega | (simp only [aX];omega))) ?_
    refine dX ?_
    rw [wQ hk hx hy hd (eq_of_beq h122r)]
    exact dE [] rfl rfl rfl (aD.csize _) (aH _) dD (.pure (aD.pure _))
   ·refine dP ?_
    refine cp bI (xW _ _ (by omega) (by omega)) ?_
    refine fI ?_
    refine aQ rfl (fun h136r h136=>?_) (fun h136r h136=>?_)
    ·have hle:=aCt.1 (show aCg x y=0 by omega)
     have eSb:=rH hle
     refine bY ?_
     refine cp nK (lQ _ _ _ (by rw [eSb];exact aW _) (aW _) (by rw [eSb];omega) (by omega)) ?_
     refine dX ?_
     rw [aBW hk hx hy hd (lE h122r) hle]
     exact dE [] rfl rfl rfl (aD.csize _) (aH _) dD (.pure (aD.pure _))
    ·have hle:x≤y:=by
      rcases Nat.le_total x y with h | h
      ·exact h
      ·have:=aCt.2 h;omega
     have eSc:=rH hle
     refine bY ?_
     refine cp bI (xW _ _ (by omega) (by omega)) ?_
     refine cH ?_
     refine cp nK (lQ _ _ _ (aW _) (aW _) (by omega) (by omega)) ?_
     refine cB ?_
     rw [aCm hk hx hy hd (lE h122r) hle]
     exact dE [] rfl rfl rfl (aD.csize _) (aH _) dD (.pure (aD.pure _))
theorem oP {a b:Rat}:g6 b a<0↔b<a:=by unfold g6;split<;>(try split)<;>grind
theorem lP {a b:Rat}:g6 b a > 0↔a<b:=by unfold g6;split<;>(try split)<;>grind
open H0 in
theorem eF (a b:Rat) (h:rl a+rl b≤549755813888):aN Tryz.prog 95 [ratL a,ratL b] (ratL (a+b)):=by
 refine dJ Tryz.func95 ?_
 refine fI ?_
 refine cp nK (aGC _ _ _ (by omega)) ?_
 refine cB ?_
 exact dE [] rfl rfl rfl (aD.csize _) (aH _) dD (by rw [qS];exact .pure (aD.pure _))
open H0 in
theorem iX (a b:Rat) (h:rl a+rl b≤549755813888):aN Tryz.prog 170 [ratL a,ratL b] (ratL (a-b)):=by
 refine dJ Tryz.func170 ?_
 refine eX ?_
 refine cp nK (aGC _ _ _ (by omega)) ?_
 refine cB ?_
 rw [Rat.sub_eq_add_neg]
 exact dE [] rfl rfl rfl (aD.csize _) (aH _) dD (by rw [aIf];exact .pure (aD.pure _))
open H0 in
theorem zU (a b:Rat) (h:rl a+rl b≤549755813888):aN Tryz.prog 167 [ratL a,ratL b] (ratL (if b<a then b else a)):=by
 refine dJ Tryz.func167 ?_
 refine cH ?_
 refine cp bI (iN _ _ (by omega)) ?_
 refine dI ?_
 refine eH (fun L=>∃ (q:Rat) (L1:St),(q=(if b<a then b else a)∧rl q≤549755813888)∧L=(((St.mk L1.slot (hp [(2,⟨3,[ratL q],true⟩),(3,⟨3,[ratL b],true⟩),(4,⟨3,[.agg [.v (.bool false),.list 1 [],.list 1 []]],true⟩)])).put (some 2) (.eptr 2 3 0 0)).put (some 4) (.eptr 4 3 0 0))) ?_ ?_
 ·refine aQ rfl (fun h8r h8=>?_) (fun h8r h8=>?_)
  ·refine dX ?_
   exact⟨b,_,⟨by rw [if_pos (oP.1 h8)],by omega⟩,((aA (aA (bB cl) cl) cl)).symm⟩
  ·refine cU ?_
   exact⟨a,_,⟨by rw [if_neg (fun h=>h8 (oP.2 h))],by omega⟩,((aA (aA (bB cl) cl) cl)).symm⟩
 ·rintro _ ⟨q,LC8,⟨hq,hql⟩,rfl⟩
  refine cB ?_
  refine cp cS (wC _ (by omega)) ?_
  refine cB ?_
  rw [←hq]
  exact dE [] rfl rfl rfl (aD.csize _) (aH _) dD (.pure (aD.pure _))
open H0 in
theorem yJ (a b:Rat) (h:rl a+rl b≤549755813888):aN Tryz.prog 168 [ratL a,ratL b] (ratL (if a<b then b else a)):=by
 refine dJ Tryz.func168 ?_
 refine cH ?_
 refine cp bI (iN _ _ (by omega)) ?_
 refine dI ?_
 refine eH (fun L=>∃ (q:Rat) (L1:St),(q=(if a<b then b else a)∧rl q≤549755813888)∧L=(((St.mk L1.slot (hp [(2,⟨3,[ratL q],true⟩),(3,⟨3,[ratL b],true⟩),(4,⟨3,[.agg [.v (.bool false),.list 1 [],.list 1 []]],true⟩)])).put (some 2) (.eptr 2 3 0 0)).put (some 4) (.eptr 4 3 0 0))) ?_ ?_
 ·refine aQ rfl (fun h8r h8=>?_) (fun h8r h8=>?_)
  ·refine dX ?_
   exact⟨b,_,⟨by rw [if_pos (lP.1 h8)],by omega⟩,((aA (aA (bB cl) cl) cl)).symm⟩
  ·refine cU ?_
   exact⟨a,_,⟨by rw [if_neg (fun h=>h8 (lP.2 h))],by omega⟩,((aA (aA (bB cl) cl) cl)).symm⟩
 ·rintro _ ⟨q,LC8,⟨hq,hql⟩,rfl⟩
  refine cB ?_
  refine cp cS (wC _ (by omega)) ?_
  refine cB ?_
  rw [←hq]
  exact dE [] rfl rfl rfl (aD.csize _) (aH _) dD (.pure (aD.pure _))
theorem aGm {o:List Nat} {N:Nat} (hL:fA o) (hv:val o=N) (h:o.length=0∨4294967296 ^ (o.length-1)≤N):o=aZ N:=by
 have h1:(aZ N).length≤o.length:=by rw [←hv];exact tG hL
 have h2:o.length≤(aZ N).length:=by
  rcases h with h | h
  ·omega
  ·rcases Nat.lt_or_ge (aZ N).length o.length with hlt | hge
   ·have:=dO (n:=N) (k:=o.length-1) (by omega)
    omega
   ·exact hge
 have e1:=uJ hL rfl
 have e2:=uJ (aW N) rfl
 rw [e1,e2,aX,hv]
 congr 1;omega
theorem aHY {m:Nat} (h:(aZ m).length=2):m=(aZ m).getD 1 0*4294967296+(aZ m).getD 0 0:=by
 have e:=aX m
 generalize aZ m=l at h e
 match l,h with
 | [x,y],_=>rw [zQ] at e;simp;omega
theorem orC {a b:Nat} (hb:b<4294967296) (hx:a<4294967296):dU .or .u64 (b:Nat) ((a*4294967296:Nat):Int)=some (.int .u64 ((a*4294967296+b:Nat):Int)):=orV (s:=32) hb (by omega)
theorem tz0:(0:Int).toNat=0:=rfl
theorem tz1:(1:Int).toNat=1:=rfl
theorem cJ {α β:Type} (f:α→β) (o:List α):(o.map f).take o.length=o.map f:=by rw [List.take_of_length_le (by simp)]
theorem eA {α β:Type} (f:α→β) (o:List α) (x:α):o.map f++[f x]=(o++[x]).map f:=by simp
theorem dC {α:Type} (o:List α) (x:α):(o++[x]).length=o.length+1:=by simp
theorem wT (o:List Nat) (x:Nat):val (o++[x])=val o+4294967296 ^ o.length*x:=by rw [lR];simp [val]
theorem v8 {o:List Nat} (h:fA o) {x:Nat} (hx:x<4294967296):fA (o++[x]):=uR h (fun y hy=>by simp at hy;omega)
section
variable {m n c s:Nat} {o:List Nat}
theorem aGN (hv:val o+4294967296 ^ o.length*c=val ((aZ m).take o.length)+val ((aZ n).take o.length)) (hs:s=c+(aZ m).getD o.length 0+(aZ n).getD o.length 0) :
  val (o++[s % 4294967296])+4294967296 ^ (o.length+1)*(s/4294967296)=val ((aZ m).take (o.length+1))+val ((aZ n).take (o.length+1)):=by
 rw [wT,cI,cI,Nat.pow_succ]
 have h1:=iW (4294967296 ^ o.length) s
 have h2:4294967296 ^ o.length*s=4294967296 ^ o.length*c+4294967296 ^ o.length*(aZ m).getD o.length 0+4294967296 ^ o.length*(aZ n).getD o.length 0:=by rw [hs,Nat.mul_add,Nat.mul_add]
 omega
theorem oC {m k:Nat} (h:(aZ m).length≤k):val ((aZ m).take k)=m:=by rw [List.take_of_length_le h,aX]
theorem aHz (hv:val o+4294967296 ^ o.length*c=val ((aZ m).take o.length)+val ((aZ n).take o.length)) (hol:o.length≤max (aZ m).length (aZ n).length∨(o.length=max (aZ m).length (aZ n).length+1∧c=0))
  (hg:o.length<max (aZ m).length (aZ n).length∨c≠0):o.length+1=max (aZ m).length (aZ n).length+1→4294967296 ^ (o.length+1-1)≤m+n:=by
 intro h
 rw [oC (by omega),oC (by omega)] at hv
 have:4294967296 ^ o.length*1≤4294967296 ^ o.length*c:=Nat.mul_le_mul_left _ (by omega)
 rw [Nat.add_sub_cancel];omega
theorem tY {m:Nat} (h:0<(aZ m).length):4294967296 ^ ((aZ m).length-1)≤m:=by
 rcases Nat.lt_or_ge m (4294967296 ^ ((aZ m).length-1)) with h1 | h1
 ·have:=eO h1;omega
 ·exact h1
theorem aFu (hc:c≤1) (hol:o.length≤max (aZ m).length (aZ n).length∨(o.length=max (aZ m).length (aZ n).length+1∧c=0)) (hg:o.length<max (aZ m).length (aZ n).length∨c≠0)
  (hs:s=c+(aZ m).getD o.length 0+(aZ n).getD o.length 0):o.length+1≤max (aZ m).length (aZ n).length∨(o.length+1=max (aZ m).length (aZ n).length+1∧s/4294967296=0):=by
 by_cases h:o.length<max (aZ m).length (aZ n).length
 ·exact .inl h
 ·rw [iF (aZ m) _ (by omega),iF (aZ n) _ (by omega)] at hs
  exact .inr ⟨by omega,by omega⟩
theorem aFr (hc:c≤1) (hlo:fA o) (hol:o.length≤max (aZ m).length (aZ n).length∨(o.length=max (aZ m).length (aZ n).length+1∧c=0)) (hv:val o+4294967296 ^ o.length*c=val ((aZ m).take o.length)+val ((aZ n).take o.length))
  (hge:o.length=max (aZ m).length (aZ n).length+1→4294967296 ^ (o.length-1)≤m+n) (hg:¬ (o.length<max (aZ m).length (aZ n).length∨c≠0)):aZ (m+n)=o:=by
 rw [oC (by omega),oC (by omega),show c=0 by omega] at hv
 refine(aGm hlo (by omega) ?_).symm
 by_cases h0:o.length=0
 ·exact .inl h0
 refine .inr ?_
 rcases hol with h | h
 ·rcases Nat.le_total (aZ m).length (aZ n).length with hh | hh
  ·have:=tY (m:=n) (by omega)
   rw [show o.length=(aZ n).length by omega];omega
  ·have:=tY (m:=m) (by omega)
   rw [show o.length=(aZ m).length by omega];omega
 ·exact hge h.1
end
theorem aGa {k br y2 br2 x:Nat} {a b o:List Nat} (hol:k<o.length) (hlo:fA o) (hbr:br≤1) (hxl:a.getD k 0<4294967296) (hyl:b.getD k 0<4294967296) (hv:val (o.take k)+val (b.take k)=val (a.take k)+4294967296 ^ k*br) (hx:x=br+b.getD k 0)
  (h:(a.getD k 0<x∧y2=a.getD k 0+4294967296∧br2=1)∨(x≤a.getD k 0∧y2=a.getD k 0∧br2=0)) :
  x≤y2∧br2≤1∧fA (o.set k ((y2-x) % 4294967296))∧val ((o.set k ((y2-x) % 4294967296)).take (k+1))+val (b.take (k+1))=val (a.take (k+1))+4294967296 ^ (k+1)*br2:=by
 rcases h with⟨h1,rfl,rfl⟩ | ⟨h1,rfl,rfl⟩
 ·refine⟨by omega,by omega,eM hlo _ _ (by omega),?_⟩
  rw [show (a.getD k 0+4294967296-x) % 4294967296=4294967296+a.getD k 0-x by omega]
  exact aAo hol hv hx h1 (by omega)
 ·refine⟨by omega,by omega,eM hlo _ _ (by omega),?_⟩
  rw [Nat.mod_eq_of_lt (by omega:a.getD k 0-x<4294967296)]
  exact aAM hol hv hx h1
namespace Zq25
theorem cK {p q:Prop} (k:q) (e:p=q:=by simp only [e1,e2,e3,e4,p1,p2,p3,q1,q2,q3,l1,t0,t1,r1,r2,r3,r4,Nat.zero_add,Nat.reduceMul,Nat.reduceAdd,b1,b2,b3,b4,b5,b6,i1,i2,i3,i4,i5,i6,Nat.reduceBEq,ej,ek,eQ,List.take_zero,List.take_nil,List.nil_append,aC cV,LV.kill];exact rfl):p:=e.mpr k
end Zq25
open Zq25 in
theorem iU (l:List Nat) (h:fA l) (hl:l.length≤4398046511104):aN Tryz.prog 146 [fF l] (bQ (val l)):=by
 unfold fF bQ
 rw [←fY h]
 unfold p6
 refine dJ Tryz.func146 ?_
 have ej:True:=trivial
 have ek:True:=trivial
 refine eX ?_
 refine lO (fun(k:Nat) L=>(((St.mk L.slot (hp [])).put (some 0) (.list 1 (l.map bX))).put (some 3) (aG k))) (fun k=>k≤l.length∧fJ l.length l=fJ k l) (fun k=>k) l.length ⟨Nat.le_refl _,rfl⟩ ?_
 rintro k L1 ⟨hk,hkt⟩
 refine bY ?_
 refine eD 8 rfl (fun h8r h8=>?_) (fun h8r h8=>?_)
 ·obtain⟨j,rfl⟩:∃ j,k=j+1:=⟨k-1,by omega⟩
  have ej:(((j+1:Nat):Int)-1).toNat=j:=by omega
  have ek:(((j+1:Nat):Int)-1)=j:=by omega
  refine eP ?_
  refine aQ rfl (fun h15r h15=>?_) (fun h15r h15=>?_)
  ·refine cG ?_
   exact kE j ⟨by omega,hkt.trans (by simp only [fJ];rw [if_pos (by simpa using h15)])⟩
  ·refine cG ?_
   refine aB rfl (by first | exact .sliceLh (h:=_) cV rfl Tryz.underlying29 kM rfl om | exact .sliceRh rfl Tryz.underlying29 kM rfl om om) ?_
   refine bC rfl (.app rfl rfl rfl rfl rfl (Nat.zero_le _) (.inr rfl) (by decide) Tryz.underlying29 Tryz.underlying29 z7 kM rfl aBw (.inr (.inl rfl)) (by first | (simp;done) | (simp;omega)) (by first | (simp;done) | (simp;omega)) (by decide)) ?_
   refine cB ?_
   rw [hkt,fJ,if_neg (show ¬ l.getD j 0=0 by omega)]
   exact jV [22] rfl rfl (cC cV rfl rfl rfl)
 ·have hk0:k=0:=by omega
  subst hk0
  refine nH ?_
  refine aB rfl (by first | exact .sliceLh (h:=_) cV rfl Tryz.underlying29 kM rfl om | exact .sliceRh rfl Tryz.underlying29 kM rfl om om) ?_
  refine bC rfl (.app rfl rfl rfl rfl rfl (Nat.zero_le _) (.inr rfl) (by decide) Tryz.underlying29 Tryz.underlying29 z7 kM rfl aBw (.inr (.inl rfl)) (by first | (simp;done) | (simp;omega)) (by first | (simp;done) | (simp;omega)) (by decide)) ?_
  refine cB ?_
  rw [hkt,show fJ 0 l=0 from rfl]
  exact jV [22] rfl rfl (cC cV rfl rfl rfl)
open H0 in
theorem vW (n:Nat) (hn:n<18446744073709551616):aN Tryz.prog 79 [dL n] (bQ n):=by
 have hL:fA [n % 4294967296,n/4294967296 % 4294967296]:=by
  intro x hx;simp at hx;omega
 have hV:val [n % 4294967296,n/4294967296 % 4294967296]=n:=by rw [zQ];omega
 refine dJ Tryz.func79 ?_
 refine fI ?_
 refine cpf [8] fm1 (iU _ (by first | assumption | exact aW _) (by first | omega | (simp;done) | (simp;omega))) ?_
 refine cB ?_
 exact b8 rfl (by rw [hV];exact .pure (aR _))
namespace Zq33
theorem cK {p q:Prop} (k:q) (e:p=q:=by simp only [e1,e2,e3,e4,p1,p2,p3,q1,q2,q3,l1,t0,t1,r1,r2,r3,r4,Nat.zero_add,Nat.reduceMul,Nat.reduceAdd,b1,b2,b3,b4,b5,b6,i1,i2,i3,i4,i5,i6,Nat.reduceBEq,eQ,tz0,tz1];exact rfl):p:=e.mpr k
end Zq33
open Zq33 in
theorem qQ (m:Nat) (hl:(aZ m).length≤1099511627776):aN Tryz.prog 258 [bQ m] (.tup [dL (if m<18446744073709551616 then m else 0),bL (decide (m<18446744073709551616))]):=by
 have hd0:=bM m 0
 have hd1:=bM m 1
 refine dJ Tryz.func258 ?_
 refine nH ?_
 refine aQ rfl (fun h6r h6=>?_) (fun h6r h6=>?_)
 ·have hm:m=0:=eE.1 (List.eq_nil_of_length_eq_zero (by omega))
  refine eP ?_
  subst hm
  exact pM rfl (.pure rfl) rfl (.pure rfl)
 ·refine bY ?_
  refine aQ rfl (fun h8r h8=>?_) (fun h8r h8=>?_)
  ·have hm:=lW (n:=m) (by omega)
   have hm2:=eJ.1 (show (aZ m).length≤1 by omega)
   refine fI ?_
   rw [if_pos (by omega),decide_eq_true (by omega)]
   refine pM (x:=dL ((aZ m).getD 0 0)) rfl ?_ rfl (.pure rfl)
   rw [hm.1]
   exact .pure rfl
  ·refine bY ?_
   refine aQ rfl (fun h14r h14=>?_) (fun h14r h14=>?_)
   ·have h2v:m=(aZ m).getD 1 0*4294967296+(aZ m).getD 0 0:=aHY (by omega)
    have hm2:=f5.1 (show (aZ m).length≤2 by omega)
    refine bD ?_
    refine aP 12 (by decide +kernel) ?_
    refine eI ?_
    refine aB rfl (.sh rfl rfl (aA4 (by simp only [eQ,tz0,tz1];omega))) ?_
    refine aB rfl (.bin rfl rfl (orC (by simp only [eQ,tz0,tz1];omega) (by simp only [eQ,tz0,tz1];omega))) ?_
    refine dP ?_
    rw [if_pos hm2,decide_eq_true hm2]
    refine pM (x:=dL ((aZ m).getD 1 0*4294967296+(aZ m).getD 0 0)) rfl ?_ rfl (.pure rfl)
    rw [←h2v]
    exact .pure rfl
   ·have hm2:¬ m<18446744073709551616:=fun h=>by have:=f5.2 h;omega
    refine cG ?_
    rw [if_neg hm2,decide_eq_false hm2]
    exact pM rfl (.pure rfl) rfl (.pure rfl)
namespace Zq20
theorem cK {p q:Prop} (k:q) (e:p=q:=by simp only [e1,e2,e3,e4,p1,p2,p3,q1,q2,q3,l1,t0,t1,r1,r2,r3,r4,Nat.zero_add,Nat.reduceMul,Nat.reduceAdd,b1,b2,b3,b4,b5,b6,i1,i2,i3,i4,i5,i6,Nat.reduceBEq,eQ,ej,ek];exact rfl):p:=e.mpr k
end Zq20
open Zq20 in
theorem zG (m n:Nat) (hla:(aZ m).length≤1099511627776) (hlb:(aZ n).length≤1099511627776):aN Tryz.prog 66 [bQ m,bQ n] (iL (kY m n)):=by
 refine dJ Tryz.func66 ?_
 have ej:True:=trivial
 have ek:True:=trivial
 refine iR ?_
 refine aQ rfl (fun h10r h10=>?_) (fun h10r h10=>?_)
 ·refine cG ?_
  refine aQ rfl (fun h15r h15=>?_) (fun h15r h15=>?_)
  ·have hE:=o7 (m:=m) (n:=n) (by omega)
   refine eI ?_
   first | (rw [f9 hE];exact b8 rfl (.pure rfl)) | (rw [gZ hE];exact b8 rfl (.pure rfl)) | (rw [iG hE];exact b8 rfl (.pure rfl))
  ·have hE:=o7 (m:=n) (n:=m) (by omega)
   refine eP ?_
   first | (rw [f9 hE];exact b8 rfl (.pure rfl)) | (rw [gZ hE];exact b8 rfl (.pure rfl)) | (rw [iG hE];exact b8 rfl (.pure rfl))
 ·have hlen:(aZ m).length=(aZ n).length:=by omega
  clear h10 h10r
  refine cH ?_
  refine lO (fun(k:Nat) L=>((((St.mk L.slot (hp [])).put (some 0) (bQ m)).put (some 1) (bQ n)).put (some 5) (iL ((k:Int)-1)))) (fun k=>k≤(aZ m).length∧(aZ m).drop k=(aZ n).drop k) (fun k=>k) ((aZ m).length) ⟨Nat.le_refl _,by rw [List.drop_length,List.drop_of_length_le (by omega)]⟩ ?_
  rintro k L1 ⟨hk,hd⟩
  refine dP ?_
  refine aQ rfl (fun h20r h20=>?_) (fun h20r h20=>?_)
  ·obtain⟨j,rfl⟩:∃ j,k=j+1:=⟨k-1,by omega⟩
   have ej:(((j+1:Nat):Int)-1).toNat=j:=by omega
   have ek:(((j+1:Nat):Int)-1)=j:=by omega
   refine bY ?_
   refine aP 9 (by decide +kernel) ?_
   refine cQ ?_
   refine aQ rfl (fun h31r h31=>?_) (fun h31r h31=>?_)
   ·have hE:=jA (aW m) (k:=j) (by omega) (by omega) hd (by omega)
    rw [aX,aX] at hE
    refine cH ?_
    first | (rw [f9 hE];exact b8 rfl (.pure rfl)) | (rw [gZ hE];exact b8 rfl (.pure rfl)) | (rw [iG hE];exact b8 rfl (.pure rfl))
   ·refine dI ?_
    refine aP 9 (by decide +kernel) ?_
    refine cQ ?_
    refine aQ rfl (fun h40r h40=>?_) (fun h40r h40=>?_)
    ·have hE:=jA (aW n) (k:=j) (by omega) (by omega) hd.symm (by omega)
     rw [aX,aX] at hE
     refine cQ ?_
     first | (rw [f9 hE];exact b8 rfl (.pure rfl)) | (rw [gZ hE];exact b8 rfl (.pure rfl)) | (rw [iG hE];exact b8 rfl (.pure rfl))
    ·refine eP ?_
     exact kE j ⟨by omega,vL (by omega) (by omega) hd (by omega)⟩
  ·obtain rfl:k=0:=by omega
   rw [List.drop_zero,List.drop_zero] at hd
   have hE:m=n:=by have:=congrArg val hd;rwa [aX,aX] at this
   refine cQ ?_
   first | (rw [f9 hE];exact b8 rfl (.pure rfl)) | (rw [gZ hE];exact b8 rfl (.pure rfl)) | (rw [iG hE];exact b8 rfl (.pure rfl))
namespace Zq18
theorem cK {p q:Prop} (k:q) (e:p=q:=by simp only [e1,e2,e3,e4,p1,p2,p3,q1,q2,q3,l1,t0,t1,r1,r2,r3,r4,Nat.zero_add,Nat.reduceMul,Nat.reduceAdd,b1,b2,b3,b4,b5,b6,i1,i2,i3,i4,i5,i6,Nat.reduceBEq,eQ,List.take_zero,List.take_nil,List.nil_append,aC cV,LV.kill,cJ,eA,dC,List.length_cons,List.length_nil];exact rfl):p:=e.mpr k
end Zq18
open Zq18 in
theorem aJG (m n:Nat) (hla:(aZ m).length≤1099511627776) (hlb:(aZ n).length≤1099511627776):aN Tryz.prog 139 [bQ m,bQ n] (bQ (m+n)):=by
 refine dJ Tryz.func139 ?_
 refine aJ6 ?_
 refine fV (a7.own (t:=5) 50 1 rfl rfl) ?_
 refine wE (fun(o:List Nat) (c:Nat) L=>((((((St.mk L.slot (hp [(50,⟨1,o.map bX,true⟩)])).put (some 0) (bQ m)).put (some 1) (bQ n)).put (some 5) (.ref 50 1 0 o.length)).put (some 6) (dL c)).put (some 7) (aG o.length))) (fun o c=>c≤1∧fA o∧(o.length≤max (aZ m).length (aZ n).length∨(o.length=max (aZ m).length (aZ n).length+1∧c=0))∧val o+4294967296 ^ o.length*c=val ((aZ m).take o.length)+val ((aZ n).take o.length)∧(o.length=max (aZ m).length (aZ n).length+1→4294967296 ^ (o.length-1)≤m+n)) (fun o c=>max (aZ m).length (aZ n).length+2-o.length) ([]) 0 ⟨by omega,(by intro x hx;cases hx),.inl (Nat.zero_le _),by simp [val],by simp⟩ ?_
 rintro o c L1 ⟨hc,hlo,hol,hv,hge⟩
 have hxk:=bM m o.length
 have hyk:=bM n o.length
 refine cU ?_
 refine eH (fun L=>∃ (t:Bool) (L1:St),(t=decide (o.length<max (aZ m).length (aZ n).length∨c≠0))∧L=(((((((St.mk L1.slot (hp [(50,⟨1,o.map bX,true⟩)])).put (some 0) (bQ m)).put (some 1) (bQ n)).put (some 5) (.ref 50 1 0 o.length)).put (some 6) (dL c)).put (some 7) (aG o.length)).put (some 21) (bL t))) ?_ ?_
 ·refine bY ?_
  refine eD 12 rfl (fun h12r h12=>?_) (fun h12r h12=>?_)
  ·refine cQ ?_
   exact⟨true,_,by symm;rw [decide_eq_true_iff];omega,((aA (aA (aA (aA (aA (aA (bB cl) cl) cl) cl) cl) cl) cl)).symm⟩
  ·refine bY ?_
   refine eD 18 rfl (fun h18r h18=>?_) (fun h18r h18=>?_)
   ·refine dX ?_
    exact⟨true,_,by symm;rw [decide_eq_true_iff];omega,((aA (aA (aA (aA (aA (aA (bB cl) cl) cl) cl) cl) cl) cl)).symm⟩
   ·refine dX ?_
    exact⟨((c:Int) != 0),_,by rw [Bool.eq_iff_iff,bne_iff_ne,decide_eq_true_iff];omega,((aA (aA (aA (aA (aA (aA (bB cl) cl) cl) cl) cl) cl) cl)).symm⟩
 ·rintro _ ⟨t,LR4,ht,rfl⟩
  refine bD ?_
  refine aQ rfl (fun h21r h21=>?_) (fun h21r h21=>?_)
  ·rw [ht,decide_eq_true_iff] at h21r
   have hg:=h21r
   refine fI ?_
   refine eH (fun L=>∃ (s1:Nat) (L1:St),(s1=c+(aZ m).getD o.length 0)∧L=((((((St.mk L1.slot (hp [(50,⟨1,o.map bX,true⟩)])).put (some 0) (bQ m)).put (some 1) (bQ n)).put (some 5) (.ref 50 1 0 o.length)).put (some 6) (dL s1)).put (some 7) (aG o.length))) ?_ ?_
   ·refine aQ rfl (fun h27r h27=>?_) (fun h27r h27=>?_)
    ·refine cQ ?_
     exact⟨c+(aZ m).getD o.length 0,_,rfl,((aA (aA (aA (aA (aA (bB cl) cl) cl) cl) cl) cl)).symm⟩
    ·refine cU ?_
     exact⟨c,_,by rw [iF (aZ m) o.length (by omega)];rfl,((aA (aA (aA (aA (aA (bB cl) cl) cl) cl) cl) cl)).symm⟩
   ·rintro _ ⟨s1,LC27,hs1,rfl⟩
    refine cG ?_
    refine eH (fun L=>∃ (s:Nat) (L1:St),(s=c+(aZ m).getD o.length 0+(aZ n).getD o.length 0)∧L=((((((St.mk L1.slot (hp [(50,⟨1,o.map bX,true⟩)])).put (some 0) (bQ m)).put (some 1) (bQ n)).put (some 5) (.ref 50 1 0 o.length)).put (some 6) (dL s)).put (some 7) (aG o.length))) ?_ ?_
    ·refine aQ rfl (fun h38r h38=>?_) (fun h38r h38=>?_)
     ·refine cQ ?_
      exact⟨s1+(aZ n).getD o.length 0,_,by rw [hs1],((aA (aA (aA (aA (aA (bB cl) cl) cl) cl) cl) cl)).symm⟩
     ·refine cU ?_
      exact⟨s1,_,by rw [hs1,iF (aZ n) o.length (by omega)];rfl,((aA (aA (aA (aA (aA (bB cl) cl) cl) cl) cl) cl)).symm⟩
    ·rintro _ ⟨s,LC38,hs,rfl⟩
     refine dP ?_
     refine bC rfl (.app (news:=[bX (s % 4294967296)]) rfl rfl rfl rfl rfl (by simp) (.inl rfl) (by decide) Tryz.underlying29 Tryz.underlying29 z7 kM rfl aBw (.inl ⟨49,0,_,rfl,by decide,rfl,rfl,by simp,rfl,rfl⟩) (by simp;omega) (by simp;omega) (by decide)) ?_
     refine dI ?_
     refine bG (a7.kill _ 49) ?_
     refine cH ?_
     exact qI (o++[s % 4294967296]) (s/4294967296) ⟨by omega,v8 hlo (by omega),by rw [dC];exact aFu hc hol hg hs,by rw [dC];exact aGN hv hs,by rw [dC];exact aHz hv hol hg⟩ (hm:=by rw [dC];omega)
  ·rw [ht,decide_eq_false_iff_not] at h21r
   have hN:=aFr hc hlo hol hv hge h21r
   refine cH ?_
   skip
   exact jV [50] rfl rfl (by rw [show bQ (m+n)=.list 1 (o.map bX) by rw [←hN];rfl];exact cC cV rfl rfl rfl)
namespace Zq29
theorem cK {p q:Prop} (k:q) (e:p=q:=by simp only [e1,e2,e3,e4,p1,p2,p3,q1,q2,q3,l1,t0,t1,r1,r2,r3,r4,Nat.zero_add,Nat.reduceMul,Nat.reduceAdd,b1,b2,b3,b4,b5,b6,i1,i2,i3,i4,i5,i6,Nat.reduceBEq,eQ];exact rfl):p:=e.mpr k
end Zq29
open Zq29 in
theorem wZ (m n:Nat) (hla:(aZ m).length≤1099511627776) (hlb:(aZ n).length≤1099511627776) (hle:n≤m):aN Tryz.prog 231 [bQ m,bQ n] (bQ (m-n)):=by
 have hbl:=cP hle
 refine dJ Tryz.func231 ?_
 refine eP ?_
 refine b9 rfl rfl (.mkE (n:=(aZ m).length) (m:=(aZ m).length) ml ml om om om) ?_
 refine iR ?_
 refine lp3 (fun(k:Nat) (o:List Nat) (br:Nat) L=>((((((St.mk L.slot (hp [(12,⟨1,o.map bX,true⟩)])).put (some 0) (bQ m)).put (some 1) (bQ n)).put (some 5) (.ref 12 1 0 (aZ m).length)).put (some 6) (dL br)).put (some 7) (aG k))) (fun k o br=>k≤(aZ m).length∧o.length=(aZ m).length∧br≤1∧fA o∧val (o.take k)+val ((aZ n).take k)=val ((aZ m).take k)+4294967296 ^ k*br) (fun k o br=>(aZ m).length-k) 0 (List.replicate (aZ m).length 0) 0 ⟨Nat.zero_le _,by simp,by omega,fW _,by simp [val]⟩ ?_
 rintro k o br L1 ⟨hk,hol,hbr,hlo,hv⟩
 have hxk:=bM m k
 have hyk:=bM n k
 refine eP ?_
 refine aQ rfl (fun h16r h16=>?_) (fun h16r h16=>?_)
 ·refine qG ?_
  refine eH (fun L=>∃ (x:Nat) (L1:St),(x=br+(aZ n).getD k 0)∧L=(((((((St.mk L1.slot (hp [(12,⟨1,o.map bX,true⟩)])).put (some 0) (bQ m)).put (some 1) (bQ n)).put (some 5) (.ref 12 1 0 (aZ m).length)).put (some 6) (dL br)).put (some 7) (aG k)).put (some 8) (dL x))) ?_ ?_
  ·refine aQ rfl (fun h23r h23=>?_) (fun h23r h23=>?_)
   ·refine cQ ?_
    exact⟨br+(aZ n).getD k 0,_,rfl,((aA (aA (aA (aA (aA (aA (bB cl) cl) cl) cl) cl) cl) cl)).symm⟩
   ·refine cU ?_
    exact⟨br,_,by rw [iF _ k (by omega)];rfl,((aA (aA (aA (aA (aA (aA (bB cl) cl) cl) cl) cl) cl) cl)).symm⟩
  ·rintro _ ⟨x,LC23,hx,rfl⟩
   refine aBC ?_
   refine eH (fun L=>∃ (y2:Nat) (br2:Nat) (L1:St),(((aZ m).getD k 0<x∧y2=(aZ m).getD k 0+4294967296∧br2=1)∨(x≤(aZ m).getD k 0∧y2=(aZ m).getD k 0∧br2=0))∧L=((((((((St.mk L1.slot (hp [(12,⟨1,o.map bX,true⟩)])).put (some 0) (bQ m)).put (some 1) (bQ n)).put (some 5) (.ref 12 1 0 (aZ m).length)).put (some 6) (dL br2)).put (some 7) (aG k)).put (some 8) (dL x)).put (some 9) (dL y2))) ?_ ?_
   ·refine aQ rfl (fun h38r h38=>?_) (fun h38r h38=>?_)
    ·refine cQ ?_
     exact⟨(aZ m).getD k 0+4294967296,1,_,.inl ⟨by omega,rfl,rfl⟩,((aA (aA (aA (aA (aA (aA (aA (bB cl) cl) cl) cl) cl) cl) cl) cl)).symm⟩
    ·refine cU ?_
     exact⟨(aZ m).getD k 0,0,_,.inr ⟨by omega,rfl,rfl⟩,((aA (aA (aA (aA (aA (aA (aA (bB cl) cl) cl) cl) cl) cl) cl) cl)).symm⟩
   ·rintro _ ⟨y2,br2,LC38,hf,rfl⟩
    obtain⟨hf1,hf2,hf3,hf4⟩:=aGa (by omega) hlo hbr hxk hyk hv hx hf
    refine qG ?_
    exact nx3 (k+1) (o.set k ((y2-x) % 4294967296)) br2 ⟨by omega,by simp [hol],hf2,hf3,hf4⟩
 ·obtain rfl:k=(aZ m).length:=by omega
  refine eI ?_
  refine cpf [12] fm1 (iU _ (by first | assumption | exact aW _) (by first | omega | (simp;done) | (simp;omega))) ?_
  refine cB ?_
  have e:=aDv (aW m) hlo hol hbl (by rw [aX,aX];exact hle) hv
  rw [fY hlo,aX,aX] at e
  have e2:=congrArg val e
  rw [aX,aX] at e2
  rw [←e2]
  exact b8 rfl (by first | exact .pure rfl | exact .pure (bF _) | exact .pure (aR _) | exact .pure (aD.pure _) | exact .pure (aJ cV _ _) | exact .pure (aJ aD _ _))
open H0 in
theorem aEF (m n:Nat) (hla:(aZ m).length≤1099511627776) (hlb:(aZ n).length≤1099511627776):aN Tryz.prog 140 [bQ m,bQ n] (.tup [fF (aEx m n),iL (aCg m n)]):=by
 refine dJ Tryz.func140 ?_
 refine cQ ?_
 refine cp bI (zG _ _ (by omega) (by omega)) ?_
 refine dI ?_
 refine aQ rfl (fun h9r h9=>?_) (fun h9r h9=>?_)
 ·have hlt:m<n:=by unfold kY at h9;split at h9;assumption;split at h9<;>omega
  refine eI ?_
  rw [aEx,if_pos hlt,aCg,if_pos hlt]
  exact pM rfl (.nil 1) rfl (.pure rfl)
 ·have hle:n≤m:=by
   rcases Nat.lt_or_ge m n with h | h
   ·rw [f9 h] at h9;omega
   ·exact h
  refine bY ?_
  refine cp bI (wZ _ _ (by omega) (by omega) (by omega)) ?_
  refine dX ?_
  rw [rH hle,aCt.2 hle]
  exact pM rfl (.pure (aR _)) rfl (.pure rfl)
theorem aEs {x:Nat} (h:0<x):eC x=eC (x/2 ^ 1)+1:=by
 have:=rJ (n:=x) (k:=1)
 rcases Nat.lt_or_ge x 2 with h1 | h1
 ·obtain rfl:x=1:=by omega
  rfl
 ·rw [this (by omega)];omega
namespace Zq23
theorem cK {p q:Prop} (k:q) (e:p=q:=by simp only [e1,e2,e3,e4,p1,p2,p3,q1,q2,q3,l1,t0,t1,r1,r2,r3,r4,Nat.zero_add,Nat.reduceMul,Nat.reduceAdd,b1,b2,b3,b4,b5,b6,i1,i2,i3,i4,i5,i6,Nat.reduceBEq,eQ,eij];exact rfl):p:=e.mpr k
end Zq23
open Zq23 in
theorem sG (m n:Nat) (hla:(aZ m).length≤1099511627776) (hlb:(aZ n).length≤1099511627776):aN Tryz.prog 136 [bQ m,bQ n] (bQ (m*n)):=by
 refine dJ Tryz.func136 ?_
 have eij:True:=trivial
 refine cH ?_
 refine b9 rfl rfl (.mkE (n:=(aZ m).length+(aZ n).length) (m:=(aZ m).length+(aZ n).length) ml ml om om om) ?_
 refine cG ?_
 refine wE (fun(i:Nat) (o:List Nat) L=>(((((St.mk L.slot (hp [(14,⟨1,o.map bX,true⟩)])).put (some 0) (bQ m)).put (some 1) (bQ n)).put (some 5) (.ref 14 1 0 ((aZ m).length+(aZ n).length))).put (some 6) (aG i))) (fun i o=>i≤(aZ m).length∧o.length=(aZ m).length+(aZ n).length∧fA o∧val o=val ((aZ m).take i)*val (aZ n)∧∀ p,i+(aZ n).length≤p→o.getD p 0=0) (fun i o=>(aZ m).length-i) 0 (List.replicate ((aZ m).length+(aZ n).length) 0) ⟨Nat.zero_le _,by simp,fW _,by simp [val,oQ],fun p _=>v7 _ _⟩ ?_
 rintro i o L1 ⟨hi,hol,hlo,hv,hz⟩
 have hxi:=bM m i
 refine eP ?_
 refine aQ rfl (fun h18r h18=>?_) (fun h18r h18=>?_)
 ·refine n8 ?_
  refine lp3 (fun(j:Nat) (o:List Nat) (c:Nat) L=>(((((((St.mk L.slot (hp [(14,⟨1,o.map bX,true⟩)])).put (some 0) (bQ m)).put (some 1) (bQ n)).put (some 5) (.ref 14 1 0 ((aZ m).length+(aZ n).length))).put (some 6) (aG i)).put (some 7) (dL c)).put (some 8) (aG j))) (fun j o c=>j≤(aZ n).length∧o.length=(aZ m).length+(aZ n).length∧fA o∧c<4294967296∧val o+4294967296 ^ (i+j)*c=val ((aZ m).take i)*val (aZ n)+4294967296 ^ i*((aZ m).getD i 0*val ((aZ n).take j))∧∀ p,i+(aZ n).length≤p→o.getD p 0=0) (fun j o c=>(aZ n).length-j) 0 o 0 ⟨Nat.zero_le _,hol,hlo,by omega,by rw [hv];simp [val],hz⟩ ?_
  rintro j o c L2 ⟨hj,hol,hlo,hc,hv,hz⟩
  have hyj:=bM n j
  have hzj:=cL hlo (i+j)
  have hs:=aBj hc hxi hyj hzj
  have eij:((i:Int)+(j:Int)).toNat=i+j:=by omega
  refine eP ?_
  refine aQ rfl (fun h24r h24=>?_) (fun h24r h24=>?_)
  ·refine dX ?_
   refine aP 22 (by decide +kernel) ?_
   refine aNz ?_
   exact nx3 (j+1) (o.set (i+j) ((c+((aZ m).getD i 0*(aZ n).getD j 0+o.getD (i+j) 0)) % 4294967296)) ((c+((aZ m).getD i 0*(aZ n).getD j 0+o.getD (i+j) 0))/4294967296) ⟨by omega,by simp [hol],eM hlo _ _ (Nat.mod_lt _ (by omega)),by omega,aC1 (by omega) hv rfl,xG (by omega) hz⟩
  ·obtain rfl:j=(aZ n).length:=by omega
   have eij2:((i:Int)+((aZ n).length:Int)).toNat=i+(aZ n).length:=by omega
   refine aBC ?_
   exact qI (i+1) (o.set (i+(aZ n).length) (c % 4294967296)) ⟨by omega,by simp [hol],eM hlo _ _ (Nat.mod_lt _ (by omega)),by rw [Nat.mod_eq_of_lt hc];exact aCD (by omega) (by omega) (hz _ (Nat.le_refl _)) rfl rfl hv,xS hz⟩
 ·obtain rfl:i=(aZ m).length:=by omega
  refine eI ?_
  refine cpf [14] fm1 (iU _ (by first | assumption | exact aW _) (by first | omega | (simp;done) | (simp;omega))) ?_
  refine cB ?_
  rw [List.take_length,aX,aX] at hv
  rw [←hv]
  exact b8 rfl (by first | exact .pure rfl | exact .pure (bF _) | exact .pure (aR _) | exact .pure (aD.pure _) | exact .pure (aJ cV _ _) | exact .pure (aJ aD _ _))
open H0 in
theorem aFi (m d:Nat) (hla:(aZ m).length≤549755813888) (hd:d<4294967296):aN Tryz.prog 272 [bQ m,oK d] (bQ (m*d)):=by
 have hld:(aZ d).length≤1:=eJ.2 hd
 refine dJ Tryz.func272 ?_
 refine cG ?_
 refine cp cS (vW _ (by omega)) ?_
 refine cp bI (sG _ _ (by omega) (by omega)) ?_
 refine cB ?_
 exact b8 rfl (by first | exact .pure rfl | exact .pure (bF _) | exact .pure (aR _) | exact .pure (aD.pure _) | exact .pure (aJ cV _ _) | exact .pure (aJ aD _ _))
namespace Zq27
theorem cK {p q:Prop} (k:q) (e:p=q:=by simp only [e1,e2,e3,e4,p1,p2,p3,q1,q2,q3,l1,t0,t1,r1,r2,r3,r4,Nat.zero_add,Nat.reduceMul,Nat.reduceAdd,b1,b2,b3,b4,b5,b6,i1,i2,i3,i4,i5,i6,Nat.reduceBEq,eQ,ej,ek];exact rfl):p:=e.mpr k
end Zq27
open Zq27 in
theorem aD4 (m d:Nat) (hla:(aZ m).length≤1099511627776) (hd0:0<d) (hd:d<4294967296):aN Tryz.prog 268 [bQ m,oK d] (.tup [bQ (m/d),oK (m % d)]):=by
 refine dJ Tryz.func268 ?_
 have ej:True:=trivial
 have ek:True:=trivial
 refine cG ?_
 refine b9 rfl rfl (.mkE (n:=(aZ m).length) (m:=(aZ m).length) ml ml om om om) ?_
 refine oB ?_
 refine lp3 (fun(k:Nat) (q:List Nat) (r:Nat) L=>((((((St.mk L.slot (hp [(11,⟨1,q.map bX,true⟩)])).put (some 0) (bQ m)).put (some 1) (oK d)).put (some 6) (.ref 11 1 0 (aZ m).length)).put (some 7) (dL r)).put (some 8) (iL ((k:Int)-1)))) (fun k q r=>k≤(aZ m).length∧q.length=(aZ m).length∧fA q∧r<d∧val (q.drop k)*d+r=val ((aZ m).drop k)) (fun k q r=>k) ((aZ m).length) (List.replicate (aZ m).length 0) 0 ⟨Nat.le_refl _,by simp,fW _,hd0,by simp [val]⟩ ?_
 rintro k q r L1 ⟨hk,hql,hlq,hr,hv⟩
 refine dP ?_
 refine aQ rfl (fun h16r h16=>?_) (fun h16r h16=>?_)
 ·obtain⟨j,rfl⟩:∃ j,k=j+1:=⟨k-1,by omega⟩
  have ej:(((j+1:Nat):Int)-1).toNat=j:=by omega
  have ek:(((j+1:Nat):Int)-1)=j:=by omega
  have hxj:=bM m j
  refine aBC ?_
  refine aB rfl (.bin rfl rfl (aBu (by omega) (by omega))) ?_
  refine nH ?_
  exact nx3 j (q.set j ((r*4294967296+(aZ m).getD j 0)/d % 4294967296)) ((r*4294967296+(aZ m).getD j 0) % d) ⟨by omega,by simp [hql],eM hlq _ _ (Nat.mod_lt _ (by omega)),Nat.mod_lt _ hd0,by rw [Nat.mod_eq_of_lt (aAp hr hxj)];exact xP (by omega) hql hv rfl⟩
 ·obtain rfl:k=0:=by omega
  refine eI ?_
  refine cpf [11] fm1 (iU _ (by first | assumption | exact aW _) (by first | omega | (simp;done) | (simp;omega))) ?_
  refine dP ?_
  obtain⟨E1,E2⟩:=xJ hd0 hr hlq hv
  rw [fY hlq] at E1
  have E3:=congrArg val E1
  rw [aX,aX,aX] at E3
  rw [aX] at E2
  rw [←E3,←E2]
  have E4:r % 4294967296=r:=Nat.mod_eq_of_lt (by omega)
  refine pM rfl (.pure (aR _)) rfl ?_
  show Imm _ (oK (r % 4294967296)) (oK r)
  rw [E4]
  exact .pure rfl
namespace Zq19
theorem cK {p q:Prop} (k:q) (e:p=q:=by simp only [e1,e2,e3,e4,p1,p2,p3,q1,q2,q3,l1,t0,t1,r1,r2,r3,r4,Nat.zero_add,Nat.reduceMul,Nat.reduceAdd,b1,b2,b3,b4,b5,b6,i1,i2,i3,i4,i5,i6,Nat.reduceBEq,eQ,ej];exact rfl):p:=e.mpr k
end Zq19
open Zq19 in
theorem aIQ (m:Nat) (hla:(aZ m).length≤1099511627776):aN Tryz.prog 269 [bQ m] (iL (eC m)):=by
 refine dJ Tryz.func269 ?_
 have ej:True:=trivial
 refine fI ?_
 refine aQ rfl (fun h7r h7=>?_) (fun h7r h7=>?_)
 ·have hz:m=0:=eE.1 (List.eq_nil_of_length_eq_zero (by omega))
  subst hz
  refine dP ?_
  exact b8 rfl (by first | exact .pure rfl | exact .pure (bF _) | exact .pure (aR _) | exact .pure (aD.pure _) | exact .pure (aJ cV _ _) | exact .pure (aJ aD _ _))
 ·have hpos:0<(aZ m).length:=by omega
  have ej:(((aZ m).length:Int)-1).toNat=(aZ m).length-1:=by omega
  have hz:=aAA hpos
  have hlim:=bM m ((aZ m).length-1)
  have hb32:eC ((aZ m).getD ((aZ m).length-1) 0)≤32:=iS.2 hlim
  refine aBC ?_
  refine wE (fun(x q:Nat) L=>(((St.mk L.slot (hp [])).put (some 3) (aG q)).put (some 4) (oK x))) (fun x q=>q+eC x=eC m∧x<4294967296∧eC m≤35184372088832) (fun x q=>x) ((aZ m).getD ((aZ m).length-1) 0) (32*((aZ m).length-1)) ⟨hz,hlim,by omega⟩ ?_
  rintro x q L1 ⟨hq,hx,hbm⟩
  refine dP ?_
  refine aQ rfl (fun h19r h19=>?_) (fun h19r h19=>?_)
  ·have hx0:0<x:=by omega
   refine fI ?_
   refine aB rfl (.sh rfl rfl (aGu (m:=1) (by decide))) ?_
   refine dI ?_
   exact qI (x/2 ^ 1) (q+1) ⟨by have:=aEs hx0;omega,by omega,hbm⟩
  ·obtain rfl:x=0:=by omega
   have hb0:eC 0=0:=rfl
   obtain rfl:q=eC m:=by omega
   refine cH ?_
   exact b8 rfl (by first | exact .pure rfl | exact .pure (bF _) | exact .pure (aR _) | exact .pure (aD.pure _) | exact .pure (aJ cV _ _) | exact .pure (aJ aD _ _))
end Go.Proofs.YtckppbhafancnaaGreat
namespace Go.Lg
open Go.Proofs.YtckppbhafancnaaGreat in
theorem a7.mv {L:St} {t b sz off len:Nat} {blk:Blk} (d:Nat) (hb0:b≠0) (hd0:d≠0) (hbd:b≠d) (h:L.slot t=.ref b sz off len) (hb:L.heap b=some blk) (hd:L.heap d=none) :
  a7 L (((L.kill b).setB d (some ⟨blk.sz,bH b blk.vals,blk.mt⟩)).put (some t) (.ref d sz off len)):=by
 rintro n W X Z0 a w ⟨hdf,hsz,μ,Z,hc,hr⟩
 have hμd:=jD hc hd
 have hk:=hc.kill b hb0
 have hkr:=nU b hr
 let μ':Nat→Option Nat:=fun c=>if c=d then μ b else f4 μ b c
 have hm:∀ c id,f4 μ b c=some id→μ' c=some id:=fun c id hh=>by
  have:c≠d:=by
   rintro rfl
   unfold f4 at hh;split at hh
   ·cases hh
   ·rw [hμd] at hh;cases hh
  simp only [μ',if_neg this];exact hh
 have hinv:∀ c id,μ' c=some id→(c=d∧μ b=some id)∨(c≠d∧f4 μ b c=some id):=fun c id hh=>by
  simp only [μ'] at hh;split at hh
  ·rename_i e;exact .inl ⟨e,hh⟩
  ·rename_i e;exact .inr ⟨e,hh⟩
 have hdr:∀ c id,f4 μ b c=some id→c≠b∧μ c=some id:=fun c id h=>by
  unfold f4 at h;split at h
  ·cases h
  ·exact⟨by assumption,h⟩
 have hbb:∀ id,f4 μ b b=some id→False:=fun id hh=>(hdr b id hh).1 rfl
 have hmono:∀ {bk:Blk} {id:Nat},kB Z (f4 μ b) w bk id→kB Z μ' w bk id:=fun hh=>kB.mono (fun _ h=>h) hm (Frame.refl _ _ _) rfl hh
 refine⟨hdf,hsz,μ',Z,?_,fun s=>?_⟩
 ·rw [eL]
  refine⟨hc.keep,hc.zone,hc.zsup,hc.zsub,?_,?_,?_,hc.xlt,?_,?_,?_,?_⟩
  ·intro c c' id h1 h2
   rcases hinv c id h1 with⟨e1,g1⟩ | ⟨e1,g1⟩<;>rcases hinv c' id h2 with⟨e2,g2⟩ | ⟨e2,g2⟩
   ·rw [e1,e2]
   ·have:=hdr c' id g2;exact absurd (hc.inj _ _ id this.2 g1) this.1
   ·have:=hdr c id g1;exact absurd (hc.inj _ _ id this.2 g2) this.1
   ·exact hc.inj c c' id (hdr c id g1).2 (hdr c' id g2).2
  ·intro c id h1
   rcases hinv c id h1 with⟨e1,g1⟩ | ⟨e1,g1⟩
   ·exact hc.own b id g1
   ·exact hc.own c id (hdr c id g1).2
  ·intro c id h1 hx
   rcases hinv c id h1 with⟨e1,g1⟩ | ⟨e1,g1⟩
   ·exact absurd (hc.x0 b id g1 hx) hb0
   ·exact hc.x0 c id (hdr c id g1).2 hx
  ·intro id hx
   have h0:=hk.x1 id hx
   exact hm 0 id h0
  ·intro c id bk h1 hbk hmt
   rcases hinv c id h1 with⟨e1,g1⟩ | ⟨e1,g1⟩
   ·subst e1
    simp only [St.setB,if_true,Option.some.injEq] at hbk
    subst hbk
    exact hc.mutz b id blk g1 hb hmt
   ·simp only [St.setB,if_neg e1] at hbk
    exact hk.mutz c id bk g1 hbk hmt
  ·intro c id bk h1 hbk hmt
   rcases hinv c id h1 with⟨e1,g1⟩ | ⟨e1,g1⟩
   ·subst e1
    simp only [St.setB,if_true,Option.some.injEq] at hbk
    subst hbk
    exact hc.frz b id blk g1 hb hmt
   ·simp only [St.setB,if_neg e1] at hbk
    exact hk.frz c id bk g1 hbk hmt
  ·intro c id h1
   rcases hinv c id h1 with⟨e1,g1⟩ | ⟨e1,g1⟩
   ·subst e1
    obtain⟨bk,q1,cc,T,part,rest,q2,q3,q4⟩:=hc.heap b id g1
    rw [hb] at q1;cases q1
    refine⟨⟨blk.sz,bH b blk.vals,blk.mt⟩,by simp [St.setB],hmono ⟨cc,T,part,rest,q2,q3,?_⟩⟩
    exact aM.kill (fun _ h=>h) (fun k id hk h=>by simp [f4,hk,h]) (Frame.refl _ _ _) _ _ q4
   ·obtain⟨bk,q1,q2⟩:=hk.heap c id g1
    exact⟨bk,by simp only [St.setB,if_neg e1];exact q1,hmono q2⟩
 ·rw [bU]
  split
  ·rename_i hst
   subst hst
   have e:=hr s
   rw [h] at e
   refine⟨by simp [LV.isAgg],fun hh=>?_⟩
   have e2:=e.2 rfl
   simp only [bZ] at e2 ⊢
   rcases e2 with e2 | ⟨id,cap,c,T,fz,q1,q2,q3⟩
   ·exact .inl e2
   ·exact .inr ⟨id,cap,c,T,fz,q1,by simp only [μ',if_true];exact q2,q3⟩
  ·exact bP.mono (fun _ h=>h) hm (Frame.refl _ _ _) (hkr s)
end Go.Lg
namespace Go.Proofs.YtckppbhafancnaaGreat
open Go.Lg
theorem aGH {s:Nat} (h:s<32):dU .quo .i64 (s:Nat) 32=some (.int .i64 0):=by
 have:((s:Int)).tdiv 32=0:=by rw [Int.tdiv_eq_ediv_of_nonneg (by omega)];omega
 simp [dU,this,IntWalk.i64_in]
theorem aJe {s:Nat} (h:s<32):dU .rem .i64 (s:Nat) 32=some (.int .i64 (s:Nat)):=by
 have:((s:Int)).tmod 32=s:=by rw [Int.tmod_eq_emod_of_nonneg (by omega)];omega
 simp [dU,this]
theorem aKy {m s c x:Nat} {o:List Nat} (hv:val o+4294967296 ^ o.length*c=val ((aZ m).take o.length)*2 ^ s) (hx:x=(aZ m).getD o.length 0*2 ^ s+c) :
  val (o++[x % 4294967296])+4294967296 ^ (o.length+1)*(x/4294967296)=val ((aZ m).take (o.length+1))*2 ^ s:=by
 rw [wT,cI,Nat.pow_succ,Nat.add_mul,Nat.mul_assoc (4294967296 ^ o.length) ((aZ m).getD o.length 0)]
 have h1:=iW (4294967296 ^ o.length) x
 have h2:4294967296 ^ o.length*x=4294967296 ^ o.length*((aZ m).getD o.length 0*2 ^ s)+4294967296 ^ o.length*c:=by rw [hx,Nat.mul_add]
 omega
theorem aKP {m s c:Nat} {o:List Nat} (hv:val o+4294967296 ^ o.length*c=val ((aZ m).take o.length)*2 ^ s) (ho:o.length=(aZ m).length) (hc:c<4294967296):val (o++[c % 4294967296])=m*2 ^ s:=by
 rw [wT,Nat.mod_eq_of_lt hc,hv,oC (by omega)]
theorem aL4 {s x y:Nat} (hs:s<32) (hx:x<4294967296):(y*4294967296+x)/2 ^ s % 4294967296=x/2 ^ s+y % 2 ^ s*2 ^ (32-s):=by
 have hd:4294967296=2 ^ (32-s)*2 ^ s:=by rw [←Nat.pow_add,show 32-s+s=32 by omega]
 have hp:0<2 ^ s:=Nat.pow_pos (by omega)
 obtain⟨_,h2⟩:=z5 (z:=y) (show s≤32 by omega) hx
 have e1:(y*4294967296+x)/2 ^ s=y*2 ^ (32-s)+x/2 ^ s:=by
  rw [show y*4294967296+x=x+(y*2 ^ (32-s))*2 ^ s by rw [Nat.mul_assoc,←hd];omega,Nat.add_mul_div_right _ _ hp];omega
 have e2:y*2 ^ (32-s)=y % 2 ^ s*2 ^ (32-s)+4294967296*(y/2 ^ s):=by
  have e3:y*2 ^ (32-s)=(2 ^ s*(y/2 ^ s)+y % 2 ^ s)*2 ^ (32-s):=by rw [Nat.div_add_mod]
  rw [e3,Nat.add_mul,hd,Nat.mul_right_comm,Nat.mul_comm (2 ^ s) (2 ^ (32-s))];omega
 rw [e1,e2,show y % 2 ^ s*2 ^ (32-s)+4294967296*(y/2 ^ s)+x/2 ^ s=(y % 2 ^ s*2 ^ (32-s)+x/2 ^ s)+4294967296*(y/2 ^ s) by omega,Nat.add_mul_mod_self_left,Nat.mod_eq_of_lt h2]
 omega
theorem aJN {i s:Nat} {w o:List Nat} (hi:i<w.length) (hs:s<32) (hv:2 ^ s*val (w.take i)=val (o.take i)+4294967296 ^ i*(o.getD i 0 % 2 ^ s)) :
  2 ^ s*val ((w.set i (o.getD i 0/2 ^ s+o.getD (i+1) 0 % 2 ^ s*2 ^ (32-s))).take (i+1))=val (o.take (i+1))+4294967296 ^ (i+1)*(o.getD (i+1) 0 % 2 ^ s):=by
 have hd:4294967296=2 ^ s*2 ^ (32-s):=by rw [←Nat.pow_add,show s+(32-s)=32 by omega]
 rw [f3 _ _ _ hi,Nat.mul_add,hv,cI,Nat.pow_succ]
 have h1:=Nat.div_add_mod (o.getD i 0) (2 ^ s)
 generalize o.getD i 0/2 ^ s=q at *
 generalize o.getD i 0 % 2 ^ s=t at *
 generalize o.getD (i+1) 0 % 2 ^ s=u at *
 generalize 4294967296 ^ i=p at *
 rw [←h1]
 have e1:2 ^ s*(p*(q+u*2 ^ (32-s)))=p*(2 ^ s*q)+p*4294967296*u:=by
  rw [hd,Nat.mul_add,Nat.mul_add]
  simp only [Nat.mul_assoc,Nat.mul_left_comm,Nat.mul_comm]
 rw [e1,Nat.mul_add]
 omega
theorem aKm {r s:Nat} {o:List Nat} (hol:o.length=(aZ (r*2 ^ s)).length) (hv:2 ^ s*val (o.take (aZ (r*2 ^ s)).length)=val ((aZ (r*2 ^ s)).take (aZ (r*2 ^ s)).length)+4294967296 ^ (aZ (r*2 ^ s)).length*((aZ (r*2 ^ s)).getD (aZ (r*2 ^ s)).length 0 % 2 ^ s)):val o=r:=by
 rw [iF _ _ (Nat.le_refl _),Nat.zero_mod,Nat.mul_zero,Nat.add_zero,List.take_length,←hol,List.take_length,aX,Nat.mul_comm r] at hv
 exact Nat.eq_of_mul_eq_mul_left (Nat.pow_pos (by omega)) hv
theorem aGf (k:Nat):((List.replicate k 0).map bX).take k=(List.replicate k 0).map bX:=by rw [List.take_of_length_le (by simp)]
theorem aEi {m:Nat} (k:Nat) (h:0<(aZ m).length):aZ (m*4294967296 ^ k)=List.replicate k 0++aZ m:=by
 have hv:val (List.replicate k 0++aZ m)=m*4294967296 ^ k:=by rw [lR,oQ,aX];simp [Nat.mul_comm]
 refine(aGm (uR (fW k) (aW m)) hv (.inr ?_)).symm
 have:=tY h
 simp only [List.length_append,List.length_replicate]
 rw [show k+(aZ m).length-1=(aZ m).length-1+k by omega,Nat.pow_add]
 exact Nat.mul_le_mul_right _ this
namespace Zq34
theorem cK {p q:Prop} (k:q) (e:p=q:=by simp only [e1,e2,e3,e4,p1,p2,p3,q1,q2,q3,l1,t0,t1,r1,r2,r3,r4,Nat.zero_add,Nat.reduceMul,Nat.reduceAdd,b1,b2,b3,b4,b5,b6,i1,i2,i3,i4,i5,i6,Nat.reduceBEq,eQ,List.take_zero,List.take_nil,List.nil_append,aC cV,LV.kill,cJ,eA,dC,List.length_cons,List.length_nil];exact rfl):p:=e.mpr k
end Zq34
open Zq34 in
theorem aI2 (m s:Nat) (hla:(aZ m).length≤549755813888) (hs:s<32):aN Tryz.prog 270 [bQ m,aG s] (bQ (m*2 ^ s)):=by
 obtain⟨hp1,hp2⟩:=aAz hs
 refine dJ Tryz.func270 ?_
 refine eI ?_
 refine aB rfl (.bin rfl rfl (aGH hs)) ?_
 refine b9 rfl rfl (.mkE (n:=0) (m:=0) ml ml om om om) ?_
 refine iR ?_
 refine fV (a7.mv (t:=5) (b:=10) 31 (by decide) (by decide) (by decide) rfl rfl rfl) ?_
 refine wE (fun(o:List Nat) (c:Nat) L=>((((((St.mk L.slot (hp [(31,⟨1,o.map bX,true⟩)])).put (some 0) (bQ m)).put (some 1) (aG s)).put (some 5) (.ref 31 1 0 o.length)).put (some 6) (dL c)).put (some 7) (aG o.length))) (fun o c=>o.length≤(aZ m).length∧c<2 ^ s∧fA o∧val o+4294967296 ^ o.length*c=val ((aZ m).take o.length)*2 ^ s) (fun o c=>(aZ m).length-o.length) ([]) 0 ⟨Nat.zero_le _,hp2,(by intro x hx;cases hx),by simp [val]⟩ ?_
 rintro o c L1 ⟨hol,hc,hlo,hv⟩
 have hxk:=bM m o.length
 have hsx:=aHg hxk hp1
 refine eP ?_
 refine aQ rfl (fun h14r h14=>?_) (fun h14r h14=>?_)
 ·refine fI ?_
  refine aB rfl (.bin rfl rfl (aJe hs)) ?_
  refine aB rfl (.sh rfl rfl (aLc (by omega) (by(try simp only [t1,eQ]);omega))) ?_
  refine aB rfl (.bin rfl rfl (orV hc (by(try simp only [t1,eQ]);omega))) ?_
  refine eP ?_
  refine bC rfl (.app (news:=[bX (((aZ m).getD o.length 0*2 ^ s+c) % 4294967296)]) rfl rfl rfl rfl rfl (by simp) (.inl rfl) (by decide) Tryz.underlying29 Tryz.underlying29 z7 kM rfl aBw (.inl ⟨30,0,_,rfl,by decide,rfl,rfl,by simp,rfl,rfl⟩) (by simp;omega) (by simp;omega) (by decide)) ?_
  refine dI ?_
  refine bG (a7.kill _ 30) ?_
  refine cH ?_
  exact qI (o++[((aZ m).getD o.length 0*2 ^ s+c) % 4294967296]) (((aZ m).getD o.length 0*2 ^ s+c)/4294967296) ⟨by rw [dC];omega,aBr hxk hc,v8 hlo (by omega),by rw [dC];exact aKy hv rfl⟩ (hm:=by rw [dC];omega)
 ·have hoe:o.length=(aZ m).length:=by omega
  have hV:=aKP hv hoe (show c<4294967296 by omega)
  refine cQ ?_
  refine bC rfl (.app (news:=[bX (c % 4294967296)]) rfl rfl rfl rfl rfl (by simp) (.inr rfl) (by decide) Tryz.underlying29 Tryz.underlying29 z7 kM rfl aBw (.inl ⟨37,0,_,rfl,by decide,rfl,rfl,by simp,rfl,rfl⟩) (by simp;omega) (by simp;omega) (by decide)) ?_
  simp only [aC cV,cJ,eA,dC,List.length_cons,List.length_nil]
  refine cpf [38] fm1 (iU (o++[c % 4294967296]) (v8 hlo (by omega)) (by rw [dC];omega)) ?_
  refine cB ?_
  rw [←hV]
  exact b8 rfl (by first | exact .pure rfl | exact .pure (bF _) | exact .pure (aR _) | exact .pure (aD.pure _) | exact .pure (aJ cV _ _) | exact .pure (aJ aD _ _))
namespace Zq28
theorem cK {p q:Prop} (k:q) (e:p=q:=by simp only [e1,e2,e3,e4,p1,p2,p3,q1,q2,q3,l1,t0,t1,r1,r2,r3,r4,Nat.zero_add,Nat.reduceMul,Nat.reduceAdd,b1,b2,b3,b4,b5,b6,i1,i2,i3,i4,i5,i6,Nat.reduceBEq,eQ,List.drop_zero,ei1,eyy];exact rfl):p:=e.mpr k
end Zq28
open Zq28 in
theorem aHk (r s:Nat) (hla:(aZ (r*2 ^ s)).length≤549755813888) (hs:s<32):aN Tryz.prog 273 [bQ (r*2 ^ s),aG s] (bQ r):=by
 obtain⟨hp1,hp2⟩:=aAz hs
 have hlow:=aBk (l:=aZ (r*2 ^ s)) (r:=r) (show s≤32 by omega) (aX _)
 refine dJ Tryz.func273 ?_
 have ei1:True:=trivial
 have eyy:True:=trivial
 refine eP ?_
 refine aB rfl (.bin rfl rfl (aGH hs)) ?_
 refine dX ?_
 refine aQ rfl (fun h12r h12=>?_) (fun h12r h12=>?_)
 ·have hm:r*2 ^ s=0:=eE.1 (List.eq_nil_of_length_eq_zero (by omega))
  have hr0:r=0:=by rcases Nat.mul_eq_zero.1 hm with h | h<;>omega
  subst hr0
  refine dP ?_
  exact b8 rfl (.nil 1)
 ·refine bY ?_
  refine aB rfl (.bin rfl rfl (aGH hs)) ?_
  refine aB rfl (.sliceLl (a:=0) cV rfl Tryz.underlying29 kM rfl om) ?_
  refine dP ?_
  refine b9 rfl rfl (.mkE (n:=(aZ (r*2 ^ s)).length) (m:=(aZ (r*2 ^ s)).length) ml ml om om om) ?_
  refine cG ?_
  refine wE (fun(i:Nat) (o:List Nat) L=>(((((St.mk L.slot (hp [(19,⟨1,o.map bX,true⟩)])).put (some 0) (bQ (r*2 ^ s))).put (some 1) (aG s)).put (some 5) (.ref 19 1 0 (aZ (r*2 ^ s)).length)).put (some 6) (aG i))) (fun i o=>i≤(aZ (r*2 ^ s)).length∧o.length=(aZ (r*2 ^ s)).length∧fA o∧2 ^ s*val (o.take i)=val ((aZ (r*2 ^ s)).take i)+4294967296 ^ i*((aZ (r*2 ^ s)).getD i 0 % 2 ^ s)) (fun i o=>(aZ (r*2 ^ s)).length-i) 0 (List.replicate (aZ (r*2 ^ s)).length 0) ⟨Nat.zero_le _,by simp,fW _,by rw [hlow];simp [val]⟩ ?_
  rintro i o L1 ⟨hi,hol,hlo,hv⟩
  have ei1:((i:Int)+1).toNat=i+1:=by omega
  have hxi:=bM (r*2 ^ s) i
  have hyi:=bM (r*2 ^ s) (i+1)
  obtain⟨hh1,hh2⟩:=z5 (z:=(aZ (r*2 ^ s)).getD (i+1) 0) (show s≤32 by omega) hxi
  refine eP ?_
  refine aQ rfl (fun h23r h23=>?_) (fun h23r h23=>?_)
  ·refine aBC ?_
   refine eH (fun L=>∃ (y:Nat) (L1:St),(y=(aZ (r*2 ^ s)).getD (i+1) 0*4294967296+(aZ (r*2 ^ s)).getD i 0)∧L=((((((St.mk L1.slot (hp [(19,⟨1,o.map bX,true⟩)])).put (some 0) (bQ (r*2 ^ s))).put (some 1) (aG s)).put (some 5) (.ref 19 1 0 (aZ (r*2 ^ s)).length)).put (some 6) (aG i)).put (some 7) (dL y))) ?_ ?_
   ·refine aQ rfl (fun h35r h35=>?_) (fun h35r h35=>?_)
    ·refine eI ?_
     refine aB rfl (.sh rfl rfl (aA4 (by(try simp only [t1,eQ,ei1]);omega))) ?_
     refine aB rfl (.bin rfl rfl (orC (by(try simp only [t1,eQ]);omega) (by(try simp only [t1,eQ,ei1]);omega))) ?_
     refine dI ?_
     exact⟨(aZ (r*2 ^ s)).getD (i+1) 0*4294967296+(aZ (r*2 ^ s)).getD i 0,_,rfl,((aA (aA (aA (aA (aA (bB cl) cl) cl) cl) cl) cl)).symm⟩
    ·refine cU ?_
     exact⟨(aZ (r*2 ^ s)).getD i 0,_,by rw [iF _ (i+1) (by omega),Nat.zero_mul,Nat.zero_add],((aA (aA (aA (aA (aA (bB cl) cl) cl) cl) cl) cl)).symm⟩
   ·rintro _ ⟨y,LC35,hy,rfl⟩
    have eyy:y/2 ^ s % 4294967296=((aZ (r*2 ^ s)).getD i 0/2 ^ s+(aZ (r*2 ^ s)).getD (i+1) 0 % 2 ^ s*2 ^ (32-s)):=by rw [hy];exact aL4 hs hxi
    refine bY ?_
    refine aB rfl (.bin rfl rfl (aJe hs)) ?_
    refine aB rfl (.sh rfl rfl (aGu (m:=s) (by show s≤64;omega))) ?_
    refine cH ?_
    exact qI (i+1) (o.set i ((aZ (r*2 ^ s)).getD i 0/2 ^ s+(aZ (r*2 ^ s)).getD (i+1) 0 % 2 ^ s*2 ^ (32-s))) ⟨by omega,by simp [hol],eM hlo _ _ (by omega),aJN (by omega) hs hv⟩
  ·obtain rfl:i=(aZ (r*2 ^ s)).length:=by omega
   refine eI ?_
   refine cpf [19] fm1 (iU _ (by first | assumption | exact aW _) (by first | omega | (simp;done) | (simp;omega))) ?_
   refine cB ?_
   have hV:=aKm hol hv
   rw [←hV]
   exact b8 rfl (by first | exact .pure rfl | exact .pure (bF _) | exact .pure (aR _) | exact .pure (aD.pure _) | exact .pure (aJ cV _ _) | exact .pure (aJ aD _ _))
namespace Zq32
theorem cK {p q:Prop} (k:q) (e:p=q:=by simp only [e1,e2,e3,e4,p1,p2,p3,q1,q2,q3,l1,t0,t1,r1,r2,r3,r4,Nat.zero_add,Nat.reduceMul,Nat.reduceAdd,b1,b2,b3,b4,b5,b6,i1,i2,i3,i4,i5,i6,Nat.reduceBEq,List.take_zero,List.take_nil,List.nil_append,aC cV,LV.kill,cJ,eA,dC,List.length_cons,List.length_nil,aGf,←List.map_append];exact rfl):p:=e.mpr k
end Zq32
open Zq32 in
theorem wX (m k:Nat) (hla:(aZ m).length≤1099511627776) (hk:k≤1099511627776):aN Tryz.prog 271 [bQ m,aG k] (bQ (m*4294967296 ^ k)):=by
 refine dJ Tryz.func271 ?_
 refine fI ?_
 refine aQ rfl (fun h7r h7=>?_) (fun h7r h7=>?_)
 ·have hm:m=0:=eE.1 (List.eq_nil_of_length_eq_zero (by omega))
  subst hm
  refine dP ?_
  rw [Nat.zero_mul]
  exact b8 rfl (.nil 1)
 ·have hE:=aEi k (show 0<(aZ m).length by omega)
  refine dX ?_
  refine b9 rfl rfl (.mkE (n:=k) (m:=k) ml ml om om om) ?_
  refine bD ?_
  refine bC rfl (.app (news:=(aZ m).map bX) rfl rfl rfl rfl rfl (by simp) (.inr rfl) (by decide) Tryz.underlying29 Tryz.underlying29 z7 kM rfl aBw (.inr (.inl rfl)) (by simp;omega) (by simp;omega) (by decide)) ?_
  refine cB ?_
  rw [show bQ (m*4294967296 ^ k)=.list 1 ((List.replicate k 0++aZ m).map bX) by rw [←hE];rfl]
  exact jV [11] rfl rfl (cC cV rfl rfl (by simp))
theorem xD (l:List Nat) (k:Nat):val l=val (l.take k)+4294967296 ^ k*val (l.drop k):=by
 rcases Nat.le_total k l.length with h | h
 ·exact fR l k h
 ·rw [List.take_of_length_le h,List.drop_of_length_le h];simp [val]
theorem qZ (l:List Nat) (k:Nat):val (l.drop k)=l.getD k 0+4294967296*val (l.drop (k+1)):=by
 rcases Nat.lt_or_ge k l.length with h | h
 ·exact eW h
 ·rw [List.drop_of_length_le h,List.drop_of_length_le (by omega),iF _ _ h];rfl
theorem iJ {a:Nat} (h:1≤a) (h2:a≤9223372036854775807):dU .sub .i64 (a:Nat) 1=some (.int .i64 ((a-1:Nat):Int)):=by
 rw [lI (by omega) (by omega)];congr 2;omega
theorem aDP {n:Nat} (h:0<(aZ n).length):(aZ n).drop ((aZ n).length-1)=aZ ((aZ n).getD ((aZ n).length-1) 0):=by
 have h1:=kG (rD n) h
 have h2:=bM n ((aZ n).length-1)
 rw [lF (by omega) h2]
 rw [List.drop_eq_getElem_cons (by omega),List.drop_of_length_le (by omega),List.getD_eq_getElem?_getD,List.getElem?_eq_getElem (by omega)]
 rfl
theorem aKO {R V n j:Nat} (hn:(aZ V).length=n+1) (hlt:R<V*4294967296 ^ (j+1)) (hv:0<(aZ V).getD n 0) :
  R/4294967296 ^ j/V≤min (((aZ R).getD (j+(n+1)) 0*4294967296+(aZ R).getD (j+n) 0)/(aZ V).getD n 0) 4294967295:=by
 have hV0:0<V:=Nat.pos_of_ne_zero (fun h=>by rw [h,hY] at hn;cases hn)
 have hVn:V<4294967296 ^ (n+1):=dO (by omega)
 have hz:=tZ (ul:=aZ R) (n:=n+1) (j:=j) hVn (by rw [aX];exact hlt)
 have hq2:R/4294967296 ^ j/V<4294967296:=by
  rw [Nat.div_lt_iff_lt_mul hV0,Nat.div_lt_iff_lt_mul (jZ j),Nat.mul_comm 4294967296,Nat.mul_assoc,←Nat.pow_succ']
  exact hlt
 refine Nat.le_min.2 ⟨?_,by omega⟩
 rw [Nat.le_div_iff_mul_le hv]
 have hVs:=fR (aZ V) n (by omega)
 have hVd:val ((aZ V).drop n)=(aZ V).getD n 0:=by
  rw [eW (by omega),List.drop_of_length_le (by omega)];simp [val]
 rw [hVd,aX] at hVs
 have hR:R/4294967296 ^ (j+n)=(aZ R).getD (j+(n+1)) 0*4294967296+(aZ R).getD (j+n) 0:=by
  have e:=xD (aZ R) (j+n)
  rw [aX] at e
  have hl:val ((aZ R).take (j+n))<4294967296 ^ (j+n):=eY (iB (aW R) _) (by simp;omega)
  have hd:val ((aZ R).drop (j+n))=(aZ R).getD (j+(n+1)) 0*4294967296+(aZ R).getD (j+n) 0:=by
   have z:val ((aZ R).drop (j+n+2))=0:=jI (fun p=>by rw [mM];exact hz _ (by omega))
   rw [qZ,qZ,z,show j+n+1=j+(n+1) by omega];omega
  rw [←hd]
  conv=>lhs;rw [e]
  rw [Nat.add_mul_div_left _ _ (jZ _),Nat.div_eq_of_lt hl,Nat.zero_add]
 rw [←hR,Nat.pow_add,←Nat.div_div_eq_div_mul,Nat.le_div_iff_mul_le (jZ n),Nat.mul_assoc]
 refine Nat.le_trans (Nat.mul_le_mul_left _ ?_) (Nat.div_mul_le_self (R/4294967296 ^ j) V)
 rw [Nat.mul_comm]
 omega
theorem aL3 {R V j d:Nat} (hV:0<V) (h:R<V*d*4294967296 ^ j):R/4294967296 ^ j/V<d:=by
 rw [Nat.div_lt_iff_lt_mul hV,Nat.div_lt_iff_lt_mul (jZ j),Nat.mul_comm d V];exact h
theorem aMc {R V j d:Nat} (hV:0<V) (h:V*d*4294967296 ^ j≤R):d≤R/4294967296 ^ j/V:=by
 rw [Nat.le_div_iff_mul_le hV,Nat.le_div_iff_mul_le (jZ j),Nat.mul_comm d V];exact h
theorem aH1 {R V j d A:Nat} {ql:List Nat} (hV:0<V) (hd:d=R/4294967296 ^ j/V) (hp:V*d*4294967296 ^ j≤R) (hj:j<ql.length) (hv:R+V*4294967296 ^ (j+1)*val (ql.drop (j+1))=A) :
  R-V*d*4294967296 ^ j+V*4294967296 ^ j*val ((ql.set j d).drop j)=A∧R-V*d*4294967296 ^ j<V*4294967296 ^ j:=by
 have:=aDa (ul:=aZ (R-V*d*4294967296 ^ j)) (ul0:=aZ R) (ql:=ql) (x:=d) (j:=j) (U0:=A) hV (by rw [aX];exact hd) (by rw [aX,aX,Nat.mul_comm d V,Nat.mul_comm (4294967296 ^ j)];omega) hj (by rw [aX];exact hv)
 rw [aX] at this
 exact this
theorem aFy {m n L K s:Nat} (hL:(aZ (n*2 ^ s)).length=L) (h0:0<L) (hK:K+L=(aZ (m*2 ^ s)).length+1):m*2 ^ s<n*2 ^ s*4294967296 ^ K:=by
 have h1:m*2 ^ s<4294967296 ^ (aZ (m*2 ^ s)).length:=dO (Nat.le_refl _)
 have h2:=tY (m:=n*2 ^ s) (by omega)
 refine Nat.lt_of_lt_of_le h1 ?_
 rw [show (aZ (m*2 ^ s)).length=(L-1)+K by omega,Nat.pow_add,←hL]
 exact Nat.mul_le_mul_right _ h2
theorem aHm {m s k:Nat} (h:(aZ m).length≤k) (hs:s<32):(aZ (m*2 ^ s)).length≤k+1 :=
 cO h (eJ.2 (by have:=aAz hs;omega))
theorem aBs (k:Nat):(aZ (4294967296 ^ k)).length≤k+1:=eO (Nat.pow_lt_pow_right (by omega) (by omega))
theorem aJo {V j d:Nat} (h:1≤d):V*d*4294967296 ^ j-V*4294967296 ^ j=V*(d-1)*4294967296 ^ j:=by
 obtain⟨e,rfl⟩:∃ e,d=e+1:=⟨d-1,by omega⟩
 rw [Nat.add_sub_cancel,Nat.mul_add,Nat.mul_one,Nat.add_mul];omega
theorem aJO {V j d:Nat} (h:1≤d):V*4294967296 ^ j≤V*d*4294967296 ^ j:=by
 refine Nat.mul_le_mul_right _ ?_
 have:=Nat.mul_le_mul_left V h
 omega
namespace Zq21
theorem cK {p q:Prop} (k:q) (e:p=q:=by simp only [e1,e2,e3,e4,p1,p2,p3,q1,q2,q3,l1,t0,t1,r1,r2,r3,r4,Nat.zero_add,Nat.reduceMul,Nat.reduceAdd,b1,b2,b3,b4,b5,b6,i1,i2,i3,i4,i5,i6,Nat.reduceBEq,eQ,aX,eln,edz,esm,esn,eLn,edm,ek,ej1,ej2,eL1,ed,tz0,edd,es];exact rfl):p:=e.mpr k
end Zq21
open Zq21 in
theorem aCr (m n:Nat) (hla:(aZ m).length≤68719476736) (hlb:(aZ n).length≤68719476736) (hn0:0<n):aN Tryz.prog 230 [bQ m,bQ n] (.tup [bQ (m/n),bQ (m % n),iL 0]):=by
 refine dJ Tryz.func230 ?_
 have eln:True:=trivial
 have edz:True:=trivial
 have esm:True:=trivial
 have esn:True:=trivial
 have eLn:True:=trivial
 have edm:True:=trivial
 have ek:True:=trivial
 have ej1:True:=trivial
 have ej2:True:=trivial
 have eL1:True:=trivial
 have ed:True:=trivial
 have edd:True:=trivial
 have es:True:=trivial
 refine iR ?_
 refine aQ rfl (fun h21r h21=>?_) (fun h21r h21=>?_)
 ·have hnz:=eE.1 (List.eq_nil_of_length_eq_zero (show (aZ n).length=0 by omega))
  omega
 ·refine dP ?_
  refine cp bI (zG _ _ (by omega) (by omega)) ?_
  refine dI ?_
  refine aQ rfl (fun h25r h25=>?_) (fun h25r h25=>?_)
  ·have hlt:m<n:=by unfold kY at h25;split at h25;assumption;split at h25<;>omega
   refine dI ?_
   refine cp cS (iU _ (by first | assumption | exact aW _) (by omega)) ?_
   refine dP ?_
   rw [Nat.div_eq_of_lt hlt,Nat.mod_eq_of_lt hlt]
   exact pQ [] rfl rfl (.nil 1) rfl (.pure (aR _)) rfl (.pure rfl)
  ·have hge:n≤m:=by
    rcases Nat.lt_or_ge m n with h | h
    ·rw [f9 h] at h25;omega
    ·exact h
   have hmono:=cP hge
   refine bY ?_
   refine cp cS (qQ _ (by omega)) ?_
   refine cH ?_
   refine aQ rfl (fun h33r h33=>?_) (fun h33r h33=>?_)
   ·have hm64:m<18446744073709551616:=by simpa using h33r
    have esm:(if m<18446744073709551616 then m else 0)=m:=if_pos hm64
    have esn:(if n<18446744073709551616 then n else 0)=n:=if_pos (by omega)
    have hq64:m/n≤m:=Nat.div_le_self _ _
    have hr64:=Nat.mod_lt m hn0
    refine dI ?_
    refine cp cS (qQ _ (by omega)) ?_
    refine eI ?_
    refine aP 11 (by decide +kernel) ?_
    refine cU ?_
    refine aB rfl (.bin rfl rfl (aBu (by omega) (by omega))) ?_
    refine cp cS (vW _ (by omega)) ?_
    refine cU ?_
    refine aB rfl (.bin rfl rfl (aKr (by omega))) ?_
    refine cp cS (vW _ (by omega)) ?_
    refine dP ?_
    exact pQ [] rfl rfl (.pure (aR _)) rfl (.pure (aR _)) rfl (.pure rfl)
   ·refine cG ?_
    refine aQ rfl (fun h49r h49=>?_) (fun h49r h49=>?_)
    ·have hn1:=lW (n:=n) (by omega)
     have eLn:=hn1.1
     have hn2:=eJ.1 (show (aZ n).length≤1 by omega)
     have hr1:=Nat.mod_lt m hn0
     refine bY ?_
     simp only [tz0,eQ,eLn]
     refine cp bI (aD4 m n (by omega) hn0 hn2) ?_
     refine cH ?_
     refine cp cS (vW _ (by omega)) ?_
     refine dP ?_
     exact pQ [] rfl rfl (.pure (aR _)) rfl (.pure (aR _)) rfl (.pure rfl)
    ·obtain⟨ln,hL⟩:∃ ln,(aZ n).length=ln+1:=⟨(aZ n).length-1,by omega⟩
     have eL1:(aZ n).length-1=ln:=by omega
     have hdl:=aDP (n:=n) (by omega)
     rw [eL1] at hdl
     have htop:=kG (rD n) (show 0<(aZ n).length by omega)
     rw [eL1] at htop
     have htl:=bM n ln
     have htb:eC ((aZ n).getD ln 0)≤32:=iS.2 htl
     have htbl:(aZ ((aZ n).getD ln 0)).length≤1:=eJ.2 htl
     obtain⟨s,hs⟩:∃ s,s=32-eC ((aZ n).getD ln 0):=⟨_,rfl⟩
     have es:(32:Int)-((eC ((aZ n).getD ln 0):Nat):Int)=((s:Nat):Int):=by rw [aLS htb,hs]
     obtain⟨hs32,enV,hVge,hVlt⟩:=aDm (n:=ln) hL hs
     have hV0:0<n*2 ^ s:=Nat.mul_pos hn0 (Nat.pow_pos (by omega))
     have hvt:0<(aZ (n*2 ^ s)).getD ln 0:=by have:=aI7 enV hVge;omega
     have hUl:=aHm hla hs32
     have hUV:(aZ (n*2 ^ s)).length≤(aZ (m*2 ^ s)).length:=cP (Nat.mul_le_mul_right _ hge)
     obtain⟨K,hK⟩:∃ K,K+ln=(aZ (m*2 ^ s)).length:=⟨(aZ (m*2 ^ s)).length-ln,by omega⟩
     have hst:=aFy (m:=m) (n:=n) (s:=s) (K:=K) enV (by omega) (by omega)
     refine dP ?_
     refine aB rfl (.bin rfl rfl (iJ (by omega) (by omega))) ?_
     refine aB rfl (.sliceLl (a:=(aZ n).length-1) cV rfl Tryz.underlying29 kM rfl om) ?_
     rw [eL1,hdl]
     refine cp cS (aIQ _ (by omega)) ?_
     refine eI ?_
     refine cp bI (aI2 _ _ (by omega) hs32) ?_
     refine cU ?_
     refine cp bI (aI2 _ _ (by omega) hs32) ?_
     refine oB ?_
     refine b9 rfl rfl (.mkE (n:=K) (m:=K) ml ml om om om) ?_
     refine eX ?_
     refine lp3 (fun(k R:Nat) (ql:List Nat) L=>(((((((St.mk L.slot (hp [(82,⟨1,ql.map bX,true⟩)])).put (some 1) (bQ (n*2 ^ s))).put (some 4) (.ref 82 1 0 K)).put (some 13) (aG s)).put (some 14) (aG (ln+1))).put (some 5) (bQ R)).put (some 15) (iL ((k:Int)-1)))) (fun k R ql=>k≤K∧ql.length=K∧fA ql∧R≤m*2 ^ s∧R+(n*2 ^ s)*4294967296 ^ k*val (ql.drop k)=m*2 ^ s∧R<(n*2 ^ s)*4294967296 ^ k) (fun k R ql=>k) K (m*2 ^ s) (List.replicate K 0) ⟨Nat.le_refl _,by simp,fW _,Nat.le_refl _,by rw [List.drop_of_length_le (by simp)];simp [val],hst⟩ ?_
     rintro k R ql L1 ⟨hk,hql,hlq,hRU,hv,hlt⟩
     refine dP ?_
     refine aQ rfl (fun h88r h88=>?_) (fun h88r h88=>?_)
     ·obtain⟨j,rfl⟩:∃ j,k=j+1:=⟨k-1,by omega⟩
      have ek:(((j+1:Nat):Int)-1)=(j:Int):=by omega
      have ej1:((j:Int)+((ln+1:Nat):Int)).toNat=j+(ln+1):=by omega
      have ej2:((j:Int)+((ln+1:Nat):Int)-1).toNat=j+ln:=by omega
      have hRl:=cP hRU
      have eln:(((ln+1:Nat):Int)-1).toNat=ln:=by omega
      have hr1:=bM R (j+(ln+1))
      have hr2:=bM R (j+ln)
      have hest:=aKO (R:=R) (n:=ln) (j:=j) enV hlt hvt
      have hvl:=bM (n*2 ^ s) ln
      refine nH ?_
      refine eH (fun L=>∃ (hi:Nat) (L1:St),(hi=(aZ R).getD (j+(ln+1)) 0)∧L=((((((((St.mk L1.slot (hp [(82,⟨1,ql.map bX,true⟩)])).put (some 1) (bQ (n*2 ^ s))).put (some 4) (.ref 82 1 0 K)).put (some 13) (aG s)).put (some 14) (aG (ln+1))).put (some 5) (bQ R)).put (some 15) (iL (((j+1:Nat):Int)-1))).put (some 16) (dL hi))) ?_ ?_
      ·refine aQ rfl (fun h96r h96=>?_) (fun h96r h96=>?_)
       ·refine cQ ?_
        exact⟨(aZ R).getD (j+(ln+1)) 0,_,rfl,((aA (aA (aA (aA (aA (aA (aA (bB cl) cl) cl) cl) cl) cl) cl) cl)).symm⟩
       ·refine cU ?_
        exact⟨0,_,(iF _ _ (by omega)).symm,((aA (aA (aA (aA (aA (aA (aA (bB cl) cl) cl) cl) cl) cl) cl) cl)).symm⟩
      ·rintro _ ⟨hi,LC96,hhi,rfl⟩
       refine fI ?_
       refine eH (fun L=>∃ (top:Nat) (L1:St),(top=((aZ R).getD (j+(ln+1)) 0*4294967296+(aZ R).getD (j+ln) 0))∧L=((((((((St.mk L1.slot (hp [(82,⟨1,ql.map bX,true⟩)])).put (some 1) (bQ (n*2 ^ s))).put (some 4) (.ref 82 1 0 K)).put (some 13) (aG s)).put (some 14) (aG (ln+1))).put (some 5) (bQ R)).put (some 15) (iL (((j+1:Nat):Int)-1))).put (some 16) (dL top))) ?_ ?_
       ·refine aQ rfl (fun h110r h110=>?_) (fun h110r h110=>?_)
        ·refine cU ?_
         refine aB rfl (.sh rfl rfl (aA4 (by omega))) ?_
         refine eI ?_
         refine aB rfl (.bin rfl rfl (orU (by simp only [t1,eQ,ej2];omega) (by omega))) ?_
         refine dI ?_
         exact⟨hi*4294967296+(aZ R).getD (j+ln) 0,_,by rw [hhi],((aA (aA (aA (aA (aA (aA (aA (bB cl) cl) cl) cl) cl) cl) cl) cl)).symm⟩
        ·refine cU ?_
         refine aB rfl (.sh rfl rfl (aA4 (by omega))) ?_
         refine dI ?_
         exact⟨hi*4294967296,_,by rw [hhi,iF (aZ R) (j+ln) (by omega)];exact(Nat.add_zero _).symm,((aA (aA (aA (aA (aA (aA (aA (bB cl) cl) cl) cl) cl) cl) cl) cl)).symm⟩
       ·rintro _ ⟨top,LC110,htp,rfl⟩
        have hdle:top/(aZ (n*2 ^ s)).getD ln 0≤top:=Nat.div_le_self _ _
        have edm:(if (4294967295:Int)<((top/(aZ (n*2 ^ s)).getD ln 0:Nat):Int) then(4294967295:Int) else((top/(aZ (n*2 ^ s)).getD ln 0:Nat):Int))=((min (top/(aZ (n*2 ^ s)).getD ln 0) 4294967295:Nat):Int):=by split<;>omega
        subst htp
        obtain⟨d0,hd0⟩:∃ d0,d0=min (((aZ R).getD (j+(ln+1)) 0*4294967296+(aZ R).getD (j+ln) 0)/(aZ (n*2 ^ s)).getD ln 0) 4294967295:=⟨_,rfl⟩
        rw [←hd0] at hest edm
        have hdz:d0<4294967296:=by rw [hd0];exact Nat.lt_of_le_of_lt (Nat.min_le_right _ _) (by decide)
        clear hd0
        have edz:d0 % 4294967296=d0:=Nat.mod_eq_of_lt hdz
        have hlz:=cO (Nat.le_of_eq enV) (eJ.2 hdz)
        refine cG ?_
        refine aB rfl (.bin rfl rfl (aBu (by simp only [t1,eQ,eln];omega) (by omega))) ?_
        refine eP ?_
        refine cp bI (aFi _ _ (by omega) (by omega)) ?_
        refine bD ?_
        refine cp bI (wX _ _ (by rw [edz];omega) (by omega)) ?_
        refine dX ?_
        refine lO (fun(d:Nat) L=>(((((((((St.mk L.slot (hp [(82,⟨1,ql.map bX,true⟩)])).put (some 1) (bQ (n*2 ^ s))).put (some 4) (.ref 82 1 0 K)).put (some 13) (aG s)).put (some 14) (aG (ln+1))).put (some 5) (bQ R)).put (some 15) (iL (((j+1:Nat):Int)-1))).put (some 17) (dL d)).put (some 18) (bQ ((n*2 ^ s)*d*4294967296 ^ j)))) (fun d=>R/4294967296 ^ j/(n*2 ^ s)≤d∧d<4294967296) (fun d=>d) d0 ⟨hest,hdz⟩ ?_
        rintro d L2 ⟨hdq,hdB⟩
        have hl1:=cO (Nat.le_of_eq enV) (eJ.2 hdB)
        have hl2:=cO hl1 (aBs j)
        have hl3:=cO (Nat.le_of_eq enV) (aBs j)
        refine dX ?_
        refine cp bI (zG _ _ (by omega) (by omega)) ?_
        refine dI ?_
        refine aQ rfl (fun h142r h142=>?_) (fun h142r h142=>?_)
        ·have hgt:R<n*2 ^ s*d*4294967296 ^ j:=by unfold kY at h142;split at h142;omega;split at h142;assumption;omega
         have hdq:=aL3 hV0 hgt
         have hd0:1≤d:=Nat.lt_of_le_of_lt (Nat.zero_le _) hdq
         have hle3:=aJO (V:=n*2 ^ s) (j:=j) hd0
         have edd:=aJo (V:=n*2 ^ s) (j:=j) hd0
         refine eX ?_
         refine cp bI (wX _ _ (by omega) (by omega)) ?_
         refine cp bI (wZ _ _ (by omega) (by omega) hle3) ?_
         refine cB ?_
         exact kE (d-1) ⟨by omega,by omega⟩
        ·have hpl:n*2 ^ s*d*4294967296 ^ j≤R:=by
          rcases Nat.lt_or_ge R (n*2 ^ s*d*4294967296 ^ j) with h | h
          ·rw [gZ h] at h142;omega
          ·exact h
         have hdE:=Nat.le_antisymm (aMc hV0 hpl) hdq
         obtain⟨hn1,hn2⟩:=aH1 hV0 hdE hpl (show j<ql.length by omega) hv
         have ed:d % 4294967296=d:=Nat.mod_eq_of_lt hdB
         refine oB ?_
         refine cp bI (wZ _ _ (by omega) (by omega) hpl) ?_
         refine cG ?_
         exact nx3 j (R-(n*2 ^ s)*d*4294967296 ^ j) (ql.set j d) ⟨by omega,by simp [hql],eM hlq _ _ hdB,Nat.le_trans (Nat.sub_le _ _) hRU,hn1,hn2⟩
     ·obtain rfl:k=0:=by omega
      rw [List.drop_zero,Nat.pow_zero,Nat.mul_one] at hv
      rw [Nat.pow_zero,Nat.mul_one] at hlt
      have hRl:=cP hRU
      obtain⟨hqf,hRf⟩:=aGd (ul:=aZ R) (ql:=ql) (A:=m) (s:=s) hn0 (by rw [aX];exact hv) (by rw [aX];exact hlt)
      rw [aX] at hRf
      refine eI ?_
      refine cpf [82] fm1 (iU _ (by first | assumption | exact aW _) (by omega)) ?_
      refine cU ?_
      rw [hRf]
      refine cp bI (aHk (m % n) s (by rw [←hRf];omega) hs32) ?_
      refine bY ?_
      rw [←hqf]
      exact pQ [] rfl rfl (.pure (aR _)) rfl (.pure (aR _)) rfl (.pure rfl)
namespace Zq22
theorem cK {p q:Prop} (k:q) (e:p=q:=by simp only [e1,e2,e3,e4,p1,p2,p3,q1,q2,q3,l1,t0,t1,r1,r2,r3,r4,Nat.zero_add,Nat.reduceMul,Nat.reduceAdd,b1,b2,b3,b4,b5,b6,i1,i2,i3,i4,i5,i6,Nat.reduceBEq,eQ,aX,esm,esn];exact rfl):p:=e.mpr k
end Zq22
open Zq22 in
theorem aKw (m n:Nat) (hla:(aZ m).length≤68719476736) (hlb:(aZ n).length≤68719476736):aN Tryz.prog 204 [bQ m,bQ n] (bQ (Nat.gcd m n)):=by
 refine dJ Tryz.func204 ?_
 have esm:True:=trivial
 have esn:True:=trivial
 refine eI ?_
 refine cp cS (iU _ (aW _) (by omega)) ?_
 refine bD ?_
 refine cp cS (iU _ (aW _) (by omega)) ?_
 refine bY ?_
 refine wE (fun(x y:Nat) L=>(((St.mk L.slot (hp [])).put (some 0) (bQ x)).put (some 1) (bQ y))) (fun x y=>Nat.gcd x y=Nat.gcd m n∧(aZ x).length≤68719476736∧(aZ y).length≤68719476736) (fun x y=>y) m n ⟨rfl,hla,hlb⟩ ?_
 rintro x y L1 ⟨hg,hx,hy⟩
 refine eI ?_
 refine aQ rfl (fun h18r h18=>?_) (fun h18r h18=>?_)
 ·have hy0:0<y:=Nat.pos_of_ne_zero (fun h=>by rw [h,hY] at h18;simp at h18)
  refine bY ?_
  refine cp cS (qQ _ (by omega)) ?_
  refine cG ?_
  refine cp cS (qQ _ (by omega)) ?_
  refine eP ?_
  refine eH (fun L=>∃ (t:Bool) (L1:St),(t=decide (x<18446744073709551616∧y<18446744073709551616))∧L=((((((St.mk L1.slot (hp [])).put (some 0) (bQ x)).put (some 1) (bQ y)).put (some 5) (dL (if x<18446744073709551616 then x else 0))).put (some 7) (dL (if y<18446744073709551616 then y else 0))).put (some 32) (bL t))) ?_ ?_
  ·refine dI ?_
   refine eD 30 rfl (fun h30r h30=>?_) (fun h30r h30=>?_)
   ·refine cB ?_
    exact⟨decide (y<18446744073709551616),_,by rw [decide_eq_decide];omega,((aA (aA (aA (aA (aA (bB cl) cl) cl) cl) cl) cl)).symm⟩
   ·refine cB ?_
    exact⟨false,_,by symm;rw [decide_eq_false_iff_not];omega,((aA (aA (aA (aA (aA (bB cl) cl) cl) cl) cl) cl)).symm⟩
  ·rintro _ ⟨t,LR5,ht,rfl⟩
   refine bD ?_
   refine aQ rfl (fun h32r h32=>?_) (fun h32r h32=>?_)
   ·rw [ht,decide_eq_true_iff] at h32r
    obtain⟨hx64,hy64⟩:=h32r
    have esm:(if x<18446744073709551616 then x else 0)=x:=if_pos hx64
    have esn:(if y<18446744073709551616 then y else 0)=y:=if_pos hy64
    refine cU ?_
    refine wE (fun(p q:Nat) L=>(((St.mk L.slot (hp [])).put (some 5) (dL p)).put (some 7) (dL q))) (fun p q=>Nat.gcd p q=Nat.gcd m n∧p<18446744073709551616∧q<18446744073709551616) (fun p q=>q) x y ⟨hg,hx64,hy64⟩ ?_
    rintro p q L2 ⟨hg3,hm,hn⟩
    refine dP ?_
    refine aQ rfl (fun h34r h34=>?_) (fun h34r h34=>?_)
    ·refine dI ?_
     refine aP 6 (by decide +kernel) ?_
     refine eP ?_
     exact qI q (p % q) ⟨by rw [Nat.gcd_comm,←Nat.gcd_rec,Nat.gcd_comm];exact hg3,hn,by have:=Nat.mod_lt p (show q > 0 by omega);omega⟩ (hm:=Nat.mod_lt _ (by omega))
    ·obtain rfl:q=0:=by omega
     refine eI ?_
     refine cp cS (vW _ (by omega)) ?_
     refine eP ?_
     rw [←hg3,Nat.gcd_zero_right]
     exact b8 rfl (by first | exact .pure rfl | exact .pure (bF _) | exact .pure (aR _) | exact .pure (aD.pure _) | exact .pure (aJ cV _ _) | exact .pure (aJ aD _ _))
   ·refine bY ?_
    refine cp bI (aCr _ _ (by omega) (by omega) (by first | assumption | omega)) ?_
    refine jT ?_
    exact qI y (x % y) ⟨by rw [Nat.gcd_comm,←Nat.gcd_rec,Nat.gcd_comm];exact hg,hy,Nat.le_trans (cP (Nat.le_of_lt (Nat.mod_lt x hy0))) hy⟩ (hm:=Nat.mod_lt _ hy0)
 ·have hy0:y=0:=eE.1 (List.eq_nil_of_length_eq_zero (by omega))
  refine cH ?_
  subst hy0
  rw [←hg,Nat.gcd_zero_right]
  exact b8 rfl (by first | exact .pure rfl | exact .pure (bF _) | exact .pure (aR _) | exact .pure (aD.pure _) | exact .pure (aJ cV _ _) | exact .pure (aJ aD _ _))
end Go.Proofs.YtckppbhafancnaaGreat
end
