/- Texts LgTy, N1, N2, N3, N4, N5, N6, N7, N8, N9, N10, N11, R1, R2, R3, R4, R5 of this proof, joined. -/
import Derived.Test.YtckppbhafancnaaGreatQN3
import Derived.Test.YtckppbhafancnaaGreatChecked
set_option linter.unusedVariables false
set_option linter.unusedSimpArgs false
section
set_option linter.unusedVariables false
set_option linter.unusedSimpArgs false
set_option maxHeartbeats 8000000
set_option maxRecDepth 100000
namespace Go.Proofs.YtckppbhafancnaaGreat
open Go.Lg
theorem fol:Tryz.prog.follows .mixedOrders=true:=by kernel_rfl
theorem T2:bo Tryz.prog 2 1 false:=⟨by kernel_rfl,_,Tryz.underlying2,rfl⟩
theorem B2:kS Tryz.prog 2 8:=⟨Tryz.t2,by kernel_rfl,rfl⟩
theorem Z2:cU Tryz.prog 2 (.v (.int .i64 0)):=⟨Tryz.t2,_,by kernel_rfl,rfl,rfl,fun _ _ _=>fq rfl⟩
instance:TI Tryz.prog 2 1 false:=⟨T2⟩
theorem T3:bo Tryz.prog 3 1 false:=⟨by kernel_rfl,_,Tryz.underlying3,rfl⟩
theorem B3:kS Tryz.prog 3 8:=⟨Tryz.t3,by kernel_rfl,rfl⟩
theorem Z3:cU Tryz.prog 3 (.v (.int .i64 0)):=⟨Tryz.t3,_,by kernel_rfl,rfl,rfl,fun _ _ _=>fq rfl⟩
instance:TI Tryz.prog 3 1 false:=⟨T3⟩
instance:ZI Tryz.prog 3 (.v (.int .i64 0)):=⟨Z3⟩
instance:UN Tryz.prog 4 .bool:=⟨Tryz.underlying4⟩
theorem T4:bo Tryz.prog 4 1 false:=⟨by kernel_rfl,_,Tryz.underlying4,rfl⟩
instance:TI Tryz.prog 4 1 false:=⟨T4⟩
instance:UN Tryz.prog 5 (.int .u8):=⟨Tryz.underlying5⟩
instance:UN Tryz.prog 22 (.slice 3):=⟨Tryz.underlying22⟩
theorem T22:bo Tryz.prog 22 1 false:=⟨by kernel_rfl,_,Tryz.underlying22,rfl⟩
instance:TI Tryz.prog 22 1 false:=⟨T22⟩
instance:UN Tryz.prog 25 (.slice 31):=⟨Tryz.underlying25⟩
theorem T25:bo Tryz.prog 25 1 false:=⟨by kernel_rfl,_,Tryz.underlying25,rfl⟩
instance:TI Tryz.prog 25 1 false:=⟨T25⟩
instance:UN Tryz.prog 26 (.slice 42):=⟨Tryz.underlying26⟩
theorem T26:bo Tryz.prog 26 1 false:=⟨by kernel_rfl,_,Tryz.underlying26,rfl⟩
instance:TI Tryz.prog 26 1 false:=⟨T26⟩
theorem jH:bo Tryz.prog 28 3 true:=⟨by kernel_rfl,_,Tryz.underlying28,rfl⟩
theorem B28:kS Tryz.prog 28 56:=⟨Tryz.t28,by kernel_rfl,rfl⟩
theorem Z28:cU Tryz.prog 28 (.agg [.v (.int .i64 0),.v (.slice none 0 0),.v (.slice none 0 0)]):=⟨Tryz.t28,_,by kernel_rfl,rfl,rfl,fun _ _ _=>ef (bn (c1:=[.int .i64 0]) rfl (fq rfl) (bn (c1:=[.slice none 0 0]) rfl (fq rfl) (bn (c1:=[.slice none 0 0]) rfl (fq rfl) (eo))))⟩
instance:TI Tryz.prog 28 3 true:=⟨jH⟩
instance:ZI Tryz.prog 28 (.agg [.v (.int .i64 0),.v (.slice none 0 0),.v (.slice none 0 0)]):=⟨Z28⟩
theorem auq:ka Tryz.prog 28 [(1,false),(1,false),(1,false)]:=⟨_,Tryz.underlying28,⟨rfl,T3,⟨rfl,T25,⟨rfl,T26,trivial⟩⟩⟩,by decide⟩
instance:SI Tryz.prog 28 [(1,false),(1,false),(1,false)]:=⟨auq⟩
instance:UN Tryz.prog 29 (.slice 202):=⟨Tryz.underlying29⟩
theorem T29:bo Tryz.prog 29 1 false:=⟨by kernel_rfl,_,Tryz.underlying29,rfl⟩
instance:TI Tryz.prog 29 1 false:=⟨T29⟩
theorem cK:bo Tryz.prog 31 3 true:=⟨by kernel_rfl,_,Tryz.underlying31,rfl⟩
theorem kA:kS Tryz.prog 31 56:=⟨Tryz.t31,by kernel_rfl,rfl⟩
theorem Z31:cU Tryz.prog 31 (ae 0):=⟨Tryz.t31,_,by kernel_rfl,rfl,ao.pure 0,fun _ _ _=>cZ⟩
theorem ko:cU Tryz.prog 31 (.agg [.v (.bool false),.list 1 [],.list 1 []]):=nP ▸ Z31
instance:TI Tryz.prog 31 3 true:=⟨cK⟩
instance:BI Tryz.prog 31 56:=⟨kA⟩
instance:ZI Tryz.prog 31 (.agg [.v (.bool false),.list 1 [],.list 1 []]):=⟨ko⟩
theorem aoj:ka Tryz.prog 31 [(1,false),(1,false),(1,false)]:=⟨_,Tryz.underlying31,⟨rfl,T4,⟨rfl,T29,⟨rfl,T29,trivial⟩⟩⟩,by decide⟩
instance:SI Tryz.prog 31 [(1,false),(1,false),(1,false)]:=⟨aoj⟩
theorem T35:bo Tryz.prog 35 5 true:=⟨by kernel_rfl,_,Tryz.underlying35,rfl⟩
theorem Z35:cU Tryz.prog 35 (.agg [.v (.int .i64 0),.v (.int .i64 0),ae 0]):=⟨Tryz.t35,_,by kernel_rfl,rfl,by simp [LV.pure,aG,ao.pure],fun _ _ _=>ef (bn (c1:=[.int .i64 0]) rfl (fq rfl) (bn (c1:=[.int .i64 0]) rfl (fq rfl) (bn (c1:=[.bool false,.slice none 0 0,.slice none 0 0]) cm (cZ) (eo))))⟩
instance:TI Tryz.prog 35 5 true:=⟨T35⟩
instance:ZI Tryz.prog 35 (.agg [.v (.int .i64 0),.v (.int .i64 0),ae 0]):=⟨Z35⟩
theorem af5:ka Tryz.prog 35 [(1,false),(1,false),(3,true)]:=⟨_,Tryz.underlying35,⟨rfl,T3,⟨rfl,T3,⟨rfl,cK,trivial⟩⟩⟩,by decide⟩
instance:SI Tryz.prog 35 [(1,false),(1,false),(3,true)]:=⟨af5⟩
instance:UN Tryz.prog 40 (.array 3 31):=⟨Tryz.underlying40⟩
theorem ig:bo Tryz.prog 40 9 true:=⟨by kernel_rfl,_,Tryz.underlying40,rfl⟩
theorem B40:kS Tryz.prog 40 168:=⟨Tryz.t40,by kernel_rfl,rfl⟩
theorem Z40:cU Tryz.prog 40 (.agg [ae 0,ae 0,ae 0]):=⟨Tryz.t40,_,by kernel_rfl,rfl,by simp [LV.pure,aG,ao.pure],fun _ _ _=>ef (bn (c1:=[.bool false,.slice none 0 0,.slice none 0 0]) cm (cZ) (bn (c1:=[.bool false,.slice none 0 0,.slice none 0 0]) cm (cZ) (bn (c1:=[.bool false,.slice none 0 0,.slice none 0 0]) cm (cZ) (eo))))⟩
instance:TI Tryz.prog 40 9 true:=⟨ig⟩
instance:ZI Tryz.prog 40 (.agg [ae 0,ae 0,ae 0]):=⟨Z40⟩
theorem rQ:bo Tryz.prog 42 12 true:=⟨by kernel_rfl,_,Tryz.underlying42,rfl⟩
theorem B42:kS Tryz.prog 42 224:=⟨Tryz.t42,by kernel_rfl,rfl⟩
theorem Z42:cU Tryz.prog 42 (.agg [.agg [ae 0,ae 0,ae 0],ae 0]):=⟨Tryz.t42,_,by kernel_rfl,rfl,by simp [LV.pure,aG,ao.pure],fun _ _ _=>ef (bn (c1:=[.bool false,.slice none 0 0,.slice none 0 0,.bool false,.slice none 0 0,.slice none 0 0,.bool false,.slice none 0 0,.slice none 0 0]) cm (ef (bn (c1:=[.bool false,.slice none 0 0,.slice none 0 0]) cm (cZ) (bn (c1:=[.bool false,.slice none 0 0,.slice none 0 0]) cm (cZ) (bn (c1:=[.bool false,.slice none 0 0,.slice none 0 0]) cm (cZ) (eo))))) (bn (c1:=[.bool false,.slice none 0 0,.slice none 0 0]) cm (cZ) (eo)))⟩
instance:TI Tryz.prog 42 12 true:=⟨rQ⟩
instance:ZI Tryz.prog 42 (.agg [.agg [ae 0,ae 0,ae 0],ae 0]):=⟨Z42⟩
theorem atY:ka Tryz.prog 42 [(9,true),(3,true)]:=⟨_,Tryz.underlying42,⟨rfl,ig,⟨rfl,cK,trivial⟩⟩,by decide⟩
instance:SI Tryz.prog 42 [(9,true),(3,true)]:=⟨atY⟩
instance:UN Tryz.prog 43 (.slice 51):=⟨Tryz.underlying43⟩
theorem T43:bo Tryz.prog 43 1 false:=⟨by kernel_rfl,_,Tryz.underlying43,rfl⟩
instance:TI Tryz.prog 43 1 false:=⟨T43⟩
instance:UN Tryz.prog 49 (.slice 54):=⟨Tryz.underlying49⟩
theorem T49:bo Tryz.prog 49 1 false:=⟨by kernel_rfl,_,Tryz.underlying49,rfl⟩
instance:TI Tryz.prog 49 1 false:=⟨T49⟩
theorem nS:bo Tryz.prog 51 4 true:=⟨by kernel_rfl,_,Tryz.underlying51,rfl⟩
theorem B51:kS Tryz.prog 51 64:=⟨Tryz.t51,by kernel_rfl,rfl⟩
theorem Z51:cU Tryz.prog 51 (.agg [.v (.slice none 0 0),.v (.slice none 0 0),.v (.int .i64 0),.v (.int .i64 0)]):=⟨Tryz.t51,_,by kernel_rfl,rfl,rfl,fun _ _ _=>ef (bn (c1:=[.slice none 0 0]) rfl (fq rfl) (bn (c1:=[.slice none 0 0]) rfl (fq rfl) (bn (c1:=[.int .i64 0]) rfl (fq rfl) (bn (c1:=[.int .i64 0]) rfl (fq rfl) (eo)))))⟩
instance:TI Tryz.prog 51 4 true:=⟨nS⟩
instance:ZI Tryz.prog 51 (.agg [.v (.slice none 0 0),.v (.slice none 0 0),.v (.int .i64 0),.v (.int .i64 0)]):=⟨Z51⟩
theorem as3:ka Tryz.prog 51 [(1,false),(1,false),(1,false),(1,false)]:=⟨_,Tryz.underlying51,⟨rfl,T49,⟨rfl,T49,⟨rfl,T3,⟨rfl,T3,trivial⟩⟩⟩⟩,by decide⟩
instance:SI Tryz.prog 51 [(1,false),(1,false),(1,false),(1,false)]:=⟨as3⟩
theorem lD:bo Tryz.prog 54 6 true:=⟨by kernel_rfl,_,Tryz.underlying54,rfl⟩
theorem B54:kS Tryz.prog 54 112:=⟨Tryz.t54,by kernel_rfl,rfl⟩
theorem Z54:cU Tryz.prog 54 (.agg [ae 0,ae 0]):=⟨Tryz.t54,_,by kernel_rfl,rfl,by simp [LV.pure,aG,ao.pure],fun _ _ _=>ef (bn (c1:=[.bool false,.slice none 0 0,.slice none 0 0]) cm (cZ) (bn (c1:=[.bool false,.slice none 0 0,.slice none 0 0]) cm (cZ) (eo)))⟩
instance:TI Tryz.prog 54 6 true:=⟨lD⟩
instance:ZI Tryz.prog 54 (.agg [ae 0,ae 0]):=⟨Z54⟩
theorem amU:ka Tryz.prog 54 [(3,true),(3,true)]:=⟨_,Tryz.underlying54,⟨rfl,cK,⟨rfl,cK,trivial⟩⟩,by decide⟩
instance:SI Tryz.prog 54 [(3,true),(3,true)]:=⟨amU⟩
instance:UN Tryz.prog 66 (.array 3 40):=⟨Tryz.underlying66⟩
theorem T66:bo Tryz.prog 66 27 true:=⟨by kernel_rfl,_,Tryz.underlying66,rfl⟩
theorem Z66:cU Tryz.prog 66 (.agg [.agg [ae 0,ae 0,ae 0],.agg [ae 0,ae 0,ae 0],.agg [ae 0,ae 0,ae 0]]):=⟨Tryz.t66,_,by kernel_rfl,rfl,by simp [LV.pure,aG,ao.pure],fun _ _ _=>ef (bn (c1:=[.bool false,.slice none 0 0,.slice none 0 0,.bool false,.slice none 0 0,.slice none 0 0,.bool false,.slice none 0 0,.slice none 0 0]) cm (ef (bn (c1:=[.bool false,.slice none 0 0,.slice none 0 0]) cm (cZ) (bn (c1:=[.bool false,.slice none 0 0,.slice none 0 0]) cm (cZ) (bn (c1:=[.bool false,.slice none 0 0,.slice none 0 0]) cm (cZ) (eo))))) (bn (c1:=[.bool false,.slice none 0 0,.slice none 0 0,.bool false,.slice none 0 0,.slice none 0 0,.bool false,.slice none 0 0,.slice none 0 0]) cm (ef (bn (c1:=[.bool false,.slice none 0 0,.slice none 0 0]) cm (cZ) (bn (c1:=[.bool false,.slice none 0 0,.slice none 0 0]) cm (cZ) (bn (c1:=[.bool false,.slice none 0 0,.slice none 0 0]) cm (cZ) (eo))))) (bn (c1:=[.bool false,.slice none 0 0,.slice none 0 0,.bool false,.slice none 0 0,.slice none 0 0,.bool false,.slice none 0 0,.slice none 0 0]) cm (ef (bn (c1:=[.bool false,.slice none 0 0,.slice none 0 0]) cm (cZ) (bn (c1:=[.bool false,.slice none 0 0,.slice none 0 0]) cm (cZ) (bn (c1:=[.bool false,.slice none 0 0,.slice none 0 0]) cm (cZ) (eo))))) (eo))))⟩
instance:TI Tryz.prog 66 27 true:=⟨T66⟩
theorem uE:bo Tryz.prog 68 36 true:=⟨by kernel_rfl,_,Tryz.underlying68,rfl⟩
theorem Z68:cU Tryz.prog 68 (.agg [.agg [.agg [ae 0,ae 0,ae 0],.agg [ae 0,ae 0,ae 0],.agg [ae 0,ae 0,ae 0]],.agg [ae 0,ae 0,ae 0]]):=⟨Tryz.t68,_,by kernel_rfl,rfl,by simp [LV.pure,aG,ao.pure],fun _ _ _=>ef (bn (c1:=[.bool false,.slice none 0 0,.slice none 0 0,.bool false,.slice none 0 0,.slice none 0 0,.bool false,.slice none 0 0,.slice none 0 0,.bool false,.slice none 0 0,.slice none 0 0,.bool false,.slice none 0 0,.slice none 0 0,.bool false,.slice none 0 0,.slice none 0 0,.bool false,.slice none 0 0,.slice none 0 0,.bool false,.slice none 0 0,.slice none 0 0,.bool false,.slice none 0 0,.slice none 0 0]) cm (ef (bn (c1:=[.bool false,.slice none 0 0,.slice none 0 0,.bool false,.slice none 0 0,.slice none 0 0,.bool false,.slice none 0 0,.slice none 0 0]) cm (ef (bn (c1:=[.bool false,.slice none 0 0,.slice none 0 0]) cm (cZ) (bn (c1:=[.bool false,.slice none 0 0,.slice none 0 0]) cm (cZ) (bn (c1:=[.bool false,.slice none 0 0,.slice none 0 0]) cm (cZ) (eo))))) (bn (c1:=[.bool false,.slice none 0 0,.slice none 0 0,.bool false,.slice none 0 0,.slice none 0 0,.bool false,.slice none 0 0,.slice none 0 0]) cm (ef (bn (c1:=[.bool false,.slice none 0 0,.slice none 0 0]) cm (cZ) (bn (c1:=[.bool false,.slice none 0 0,.slice none 0 0]) cm (cZ) (bn (c1:=[.bool false,.slice none 0 0,.slice none 0 0]) cm (cZ) (eo))))) (bn (c1:=[.bool false,.slice none 0 0,.slice none 0 0,.bool false,.slice none 0 0,.slice none 0 0,.bool false,.slice none 0 0,.slice none 0 0]) cm (ef (bn (c1:=[.bool false,.slice none 0 0,.slice none 0 0]) cm (cZ) (bn (c1:=[.bool false,.slice none 0 0,.slice none 0 0]) cm (cZ) (bn (c1:=[.bool false,.slice none 0 0,.slice none 0 0]) cm (cZ) (eo))))) (eo))))) (bn (c1:=[.bool false,.slice none 0 0,.slice none 0 0,.bool false,.slice none 0 0,.slice none 0 0,.bool false,.slice none 0 0,.slice none 0 0]) cm (ef (bn (c1:=[.bool false,.slice none 0 0,.slice none 0 0]) cm (cZ) (bn (c1:=[.bool false,.slice none 0 0,.slice none 0 0]) cm (cZ) (bn (c1:=[.bool false,.slice none 0 0,.slice none 0 0]) cm (cZ) (eo))))) (eo)))⟩
instance:TI Tryz.prog 68 36 true:=⟨uE⟩
theorem awa:ka Tryz.prog 68 [(27,true),(9,true)]:=⟨_,Tryz.underlying68,⟨rfl,T66,⟨rfl,ig,trivial⟩⟩,by decide⟩
instance:SI Tryz.prog 68 [(27,true),(9,true)]:=⟨awa⟩
theorem Z83:cU Tryz.prog 83 (.agg [.agg [.v (.int .i64 0),.v (.slice none 0 0),.v (.slice none 0 0)],.agg [.v (.int .i64 0),.v (.slice none 0 0),.v (.slice none 0 0)]]):=⟨Tryz.t83,_,by kernel_rfl,rfl,rfl,fun _ _ _=>ef (bn (c1:=[.int .i64 0,.slice none 0 0,.slice none 0 0]) rfl (ef (bn (c1:=[.int .i64 0]) rfl (fq rfl) (bn (c1:=[.slice none 0 0]) rfl (fq rfl) (bn (c1:=[.slice none 0 0]) rfl (fq rfl) (eo))))) (bn (c1:=[.int .i64 0,.slice none 0 0,.slice none 0 0]) rfl (ef (bn (c1:=[.int .i64 0]) rfl (fq rfl) (bn (c1:=[.slice none 0 0]) rfl (fq rfl) (bn (c1:=[.slice none 0 0]) rfl (fq rfl) (eo))))) (eo)))⟩
theorem Z87:cU Tryz.prog 87 (.agg [.agg [.v (.int .i64 0),.v (.int .i64 0),ae 0],.v (.slice none 0 0),.v (.int .i64 0)]):=⟨Tryz.t87,_,by kernel_rfl,rfl,by simp [LV.pure,aG,ao.pure],fun _ _ _=>ef (bn (c1:=[.int .i64 0,.int .i64 0,.bool false,.slice none 0 0,.slice none 0 0]) cm (ef (bn (c1:=[.int .i64 0]) rfl (fq rfl) (bn (c1:=[.int .i64 0]) rfl (fq rfl) (bn (c1:=[.bool false,.slice none 0 0,.slice none 0 0]) cm (cZ) (eo))))) (bn (c1:=[.slice none 0 0]) rfl (fq rfl) (bn (c1:=[.int .i64 0]) rfl (fq rfl) (eo))))⟩
theorem aln:ka Tryz.prog 87 [(5,true),(1,false),(1,false)]:=⟨_,Tryz.underlying87,⟨rfl,T35,⟨rfl,T43,⟨rfl,T3,trivial⟩⟩⟩,by decide⟩
instance:SI Tryz.prog 87 [(5,true),(1,false),(1,false)]:=⟨aln⟩
instance:UN Tryz.prog 88 (.slice 28):=⟨Tryz.underlying88⟩
theorem T92:bo Tryz.prog 92 3 true:=⟨by kernel_rfl,_,Tryz.underlying92,rfl⟩
theorem Z92:cU Tryz.prog 92 (.agg [.v (.bool false),.v (.int .i64 0),.v (.int .i64 0)]):=⟨Tryz.t92,_,by kernel_rfl,rfl,rfl,fun _ _ _=>ef (bn (c1:=[.bool false]) rfl (fq rfl) (bn (c1:=[.int .i64 0]) rfl (fq rfl) (bn (c1:=[.int .i64 0]) rfl (fq rfl) (eo))))⟩
instance:TI Tryz.prog 92 3 true:=⟨T92⟩
instance:ZI Tryz.prog 92 (.agg [.v (.bool false),.v (.int .i64 0),.v (.int .i64 0)]):=⟨Z92⟩
theorem at0:ka Tryz.prog 92 [(1,false),(1,false),(1,false)]:=⟨_,Tryz.underlying92,⟨rfl,T4,⟨rfl,T3,⟨rfl,T3,trivial⟩⟩⟩,by decide⟩
instance:SI Tryz.prog 92 [(1,false),(1,false),(1,false)]:=⟨at0⟩
instance:UN Tryz.prog 97 (.array 3 54):=⟨Tryz.underlying97⟩
theorem T97:bo Tryz.prog 97 18 true:=⟨by kernel_rfl,_,Tryz.underlying97,rfl⟩
theorem Z97:cU Tryz.prog 97 (.agg [.agg [ae 0,ae 0],.agg [ae 0,ae 0],.agg [ae 0,ae 0]]):=⟨Tryz.t97,_,by kernel_rfl,rfl,by simp [LV.pure,aG,ao.pure],fun _ _ _=>ef (bn (c1:=[.bool false,.slice none 0 0,.slice none 0 0,.bool false,.slice none 0 0,.slice none 0 0]) cm (ef (bn (c1:=[.bool false,.slice none 0 0,.slice none 0 0]) cm (cZ) (bn (c1:=[.bool false,.slice none 0 0,.slice none 0 0]) cm (cZ) (eo)))) (bn (c1:=[.bool false,.slice none 0 0,.slice none 0 0,.bool false,.slice none 0 0,.slice none 0 0]) cm (ef (bn (c1:=[.bool false,.slice none 0 0,.slice none 0 0]) cm (cZ) (bn (c1:=[.bool false,.slice none 0 0,.slice none 0 0]) cm (cZ) (eo)))) (bn (c1:=[.bool false,.slice none 0 0,.slice none 0 0,.bool false,.slice none 0 0,.slice none 0 0]) cm (ef (bn (c1:=[.bool false,.slice none 0 0,.slice none 0 0]) cm (cZ) (bn (c1:=[.bool false,.slice none 0 0,.slice none 0 0]) cm (cZ) (eo)))) (eo))))⟩
instance:TI Tryz.prog 97 18 true:=⟨T97⟩
instance:ZI Tryz.prog 97 (.agg [.agg [ae 0,ae 0],.agg [ae 0,ae 0],.agg [ae 0,ae 0]]):=⟨Z97⟩
instance:UN Tryz.prog 116 (.array 4 31):=⟨Tryz.underlying116⟩
theorem aiw:bo Tryz.prog 116 12 true:=⟨by kernel_rfl,_,Tryz.underlying116,rfl⟩
theorem axs:cU Tryz.prog 116 (.agg [ae 0,ae 0,ae 0,ae 0]):=⟨Tryz.t116,_,by kernel_rfl,rfl,by simp [LV.pure,aG,ao.pure],fun _ _ _=>ef (bn (c1:=[.bool false,.slice none 0 0,.slice none 0 0]) cm (cZ) (bn (c1:=[.bool false,.slice none 0 0,.slice none 0 0]) cm (cZ) (bn (c1:=[.bool false,.slice none 0 0,.slice none 0 0]) cm (cZ) (bn (c1:=[.bool false,.slice none 0 0,.slice none 0 0]) cm (cZ) (eo)))))⟩
instance:TI Tryz.prog 116 12 true:=⟨aiw⟩
instance:ZI Tryz.prog 116 (.agg [ae 0,ae 0,ae 0,ae 0]):=⟨axs⟩
theorem awC:cU Tryz.prog 120 (.agg [.v (.slice none 0 0),.v (.int .i64 0)]):=⟨Tryz.t120,_,by kernel_rfl,rfl,rfl,fun _ _ _=>ef (bn (c1:=[.slice none 0 0]) rfl (fq rfl) (bn (c1:=[.int .i64 0]) rfl (fq rfl) (eo)))⟩
theorem an7:ka Tryz.prog 120 [(1,false),(1,false)]:=⟨_,Tryz.underlying120,⟨rfl,T22,⟨rfl,T3,trivial⟩⟩,by decide⟩
instance:SI Tryz.prog 120 [(1,false),(1,false)]:=⟨an7⟩
instance:UN Tryz.prog 123 (.slice 2):=⟨Tryz.underlying123⟩
instance:UN Tryz.prog 134 (.int .u64):=⟨Tryz.underlying134⟩
instance:UN Tryz.prog 137 (.slice 159):=⟨Tryz.underlying137⟩
theorem aoK:bo Tryz.prog 137 1 false:=⟨by kernel_rfl,_,Tryz.underlying137,rfl⟩
instance:TI Tryz.prog 137 1 false:=⟨aoK⟩
theorem af3:bo Tryz.prog 139 3 true:=⟨by kernel_rfl,_,Tryz.underlying139,rfl⟩
theorem axH:cU Tryz.prog 139 (.agg [.v (.int .i64 0),.v (.slice none 0 0),.v (.slice none 0 0)]):=⟨Tryz.t139,_,by kernel_rfl,rfl,rfl,fun _ _ _=>ef (bn (c1:=[.int .i64 0]) rfl (fq rfl) (bn (c1:=[.slice none 0 0]) rfl (fq rfl) (bn (c1:=[.slice none 0 0]) rfl (fq rfl) (eo))))⟩
instance:TI Tryz.prog 139 3 true:=⟨af3⟩
instance:ZI Tryz.prog 139 (.agg [.v (.int .i64 0),.v (.slice none 0 0),.v (.slice none 0 0)]):=⟨axH⟩
theorem aCm:ka Tryz.prog 139 [(1,false),(1,false),(1,false)]:=⟨_,Tryz.underlying139,⟨rfl,T3,⟨rfl,T25,⟨rfl,aoK,trivial⟩⟩⟩,by decide⟩
instance:SI Tryz.prog 139 [(1,false),(1,false),(1,false)]:=⟨aCm⟩
theorem va:bo Tryz.prog 147 3 true:=⟨by kernel_rfl,_,Tryz.underlying147,rfl⟩
theorem aBr:kS Tryz.prog 147 56:=⟨Tryz.t147,by kernel_rfl,rfl⟩
theorem azo:cU Tryz.prog 147 (.agg [.v (.slice none 0 0),.v (.int .i64 0),.v (.slice none 0 0)]):=⟨Tryz.t147,_,by kernel_rfl,rfl,rfl,fun _ _ _=>ef (bn (c1:=[.slice none 0 0]) rfl (fq rfl) (bn (c1:=[.int .i64 0]) rfl (fq rfl) (bn (c1:=[.slice none 0 0]) rfl (fq rfl) (eo))))⟩
instance:TI Tryz.prog 147 3 true:=⟨va⟩
instance:ZI Tryz.prog 147 (.agg [.v (.slice none 0 0),.v (.int .i64 0),.v (.slice none 0 0)]):=⟨azo⟩
theorem azi:ka Tryz.prog 147 [(1,false),(1,false),(1,false)]:=⟨_,Tryz.underlying147,⟨rfl,T49,⟨rfl,T3,⟨rfl,T22,trivial⟩⟩⟩,by decide⟩
instance:SI Tryz.prog 147 [(1,false),(1,false),(1,false)]:=⟨azi⟩
instance:UN Tryz.prog 148 (.slice 147):=⟨Tryz.underlying148⟩
instance:UN Tryz.prog 155 (.slice 31):=⟨Tryz.underlying155⟩
theorem aCt:bo Tryz.prog 155 1 false:=⟨by kernel_rfl,_,Tryz.underlying155,rfl⟩
instance:TI Tryz.prog 155 1 false:=⟨aCt⟩
instance:UN Tryz.prog 156 (.array 4 155):=⟨Tryz.underlying156⟩
theorem arH:bo Tryz.prog 156 4 true:=⟨by kernel_rfl,_,Tryz.underlying156,rfl⟩
theorem asb:cU Tryz.prog 156 (.agg [.v (.slice none 0 0),.v (.slice none 0 0),.v (.slice none 0 0),.v (.slice none 0 0)]):=⟨Tryz.t156,_,by kernel_rfl,rfl,rfl,fun _ _ _=>ef (bn (c1:=[.slice none 0 0]) rfl (fq rfl) (bn (c1:=[.slice none 0 0]) rfl (fq rfl) (bn (c1:=[.slice none 0 0]) rfl (fq rfl) (bn (c1:=[.slice none 0 0]) rfl (fq rfl) (eo)))))⟩
instance:TI Tryz.prog 156 4 true:=⟨arH⟩
instance:ZI Tryz.prog 156 (.agg [.v (.slice none 0 0),.v (.slice none 0 0),.v (.slice none 0 0),.v (.slice none 0 0)]):=⟨asb⟩
instance:UN Tryz.prog 159 (.array 4 31):=⟨Tryz.underlying159⟩
theorem yN:bo Tryz.prog 159 12 true:=⟨by kernel_rfl,_,Tryz.underlying159,rfl⟩
theorem aqM:kS Tryz.prog 159 224:=⟨Tryz.t159,by kernel_rfl,rfl⟩
theorem aea:cU Tryz.prog 159 (.agg [ae 0,ae 0,ae 0,ae 0]):=⟨Tryz.t159,_,by kernel_rfl,rfl,by simp [LV.pure,aG,ao.pure],fun _ _ _=>ef (bn (c1:=[.bool false,.slice none 0 0,.slice none 0 0]) cm (cZ) (bn (c1:=[.bool false,.slice none 0 0,.slice none 0 0]) cm (cZ) (bn (c1:=[.bool false,.slice none 0 0,.slice none 0 0]) cm (cZ) (bn (c1:=[.bool false,.slice none 0 0,.slice none 0 0]) cm (cZ) (eo)))))⟩
instance:TI Tryz.prog 159 12 true:=⟨yN⟩
instance:ZI Tryz.prog 159 (.agg [ae 0,ae 0,ae 0,ae 0]):=⟨aea⟩
instance:UN Tryz.prog 165 (.slice 40):=⟨Tryz.underlying165⟩
theorem ajU:bo Tryz.prog 165 1 false:=⟨by kernel_rfl,_,Tryz.underlying165,rfl⟩
instance:TI Tryz.prog 165 1 false:=⟨ajU⟩
instance:UN Tryz.prog 169 (.array 2 54):=⟨Tryz.underlying169⟩
theorem apD:bo Tryz.prog 169 12 true:=⟨by kernel_rfl,_,Tryz.underlying169,rfl⟩
theorem aqX:cU Tryz.prog 169 (.agg [.agg [ae 0,ae 0],.agg [ae 0,ae 0]]):=⟨Tryz.t169,_,by kernel_rfl,rfl,by simp [LV.pure,aG,ao.pure],fun _ _ _=>ef (bn (c1:=[.bool false,.slice none 0 0,.slice none 0 0,.bool false,.slice none 0 0,.slice none 0 0]) cm (ef (bn (c1:=[.bool false,.slice none 0 0,.slice none 0 0]) cm (cZ) (bn (c1:=[.bool false,.slice none 0 0,.slice none 0 0]) cm (cZ) (eo)))) (bn (c1:=[.bool false,.slice none 0 0,.slice none 0 0,.bool false,.slice none 0 0,.slice none 0 0]) cm (ef (bn (c1:=[.bool false,.slice none 0 0,.slice none 0 0]) cm (cZ) (bn (c1:=[.bool false,.slice none 0 0,.slice none 0 0]) cm (cZ) (eo)))) (eo)))⟩
instance:TI Tryz.prog 169 12 true:=⟨apD⟩
instance:UN Tryz.prog 170 (.array 2 169):=⟨Tryz.underlying170⟩
theorem azc:cU Tryz.prog 170 (.agg [.agg [.agg [ae 0,ae 0],.agg [ae 0,ae 0]],.agg [.agg [ae 0,ae 0],.agg [ae 0,ae 0]]]):=⟨Tryz.t170,_,by kernel_rfl,rfl,by simp [LV.pure,aG,ao.pure],fun _ _ _=>ef (bn (c1:=[.bool false,.slice none 0 0,.slice none 0 0,.bool false,.slice none 0 0,.slice none 0 0,.bool false,.slice none 0 0,.slice none 0 0,.bool false,.slice none 0 0,.slice none 0 0]) cm (ef (bn (c1:=[.bool false,.slice none 0 0,.slice none 0 0,.bool false,.slice none 0 0,.slice none 0 0]) cm (ef (bn (c1:=[.bool false,.slice none 0 0,.slice none 0 0]) cm (cZ) (bn (c1:=[.bool false,.slice none 0 0,.slice none 0 0]) cm (cZ) (eo)))) (bn (c1:=[.bool false,.slice none 0 0,.slice none 0 0,.bool false,.slice none 0 0,.slice none 0 0]) cm (ef (bn (c1:=[.bool false,.slice none 0 0,.slice none 0 0]) cm (cZ) (bn (c1:=[.bool false,.slice none 0 0,.slice none 0 0]) cm (cZ) (eo)))) (eo)))) (bn (c1:=[.bool false,.slice none 0 0,.slice none 0 0,.bool false,.slice none 0 0,.slice none 0 0,.bool false,.slice none 0 0,.slice none 0 0,.bool false,.slice none 0 0,.slice none 0 0]) cm (ef (bn (c1:=[.bool false,.slice none 0 0,.slice none 0 0,.bool false,.slice none 0 0,.slice none 0 0]) cm (ef (bn (c1:=[.bool false,.slice none 0 0,.slice none 0 0]) cm (cZ) (bn (c1:=[.bool false,.slice none 0 0,.slice none 0 0]) cm (cZ) (eo)))) (bn (c1:=[.bool false,.slice none 0 0,.slice none 0 0,.bool false,.slice none 0 0,.slice none 0 0]) cm (ef (bn (c1:=[.bool false,.slice none 0 0,.slice none 0 0]) cm (cZ) (bn (c1:=[.bool false,.slice none 0 0,.slice none 0 0]) cm (cZ) (eo)))) (eo)))) (eo)))⟩
theorem aAa:bo Tryz.prog 181 2 true:=⟨by kernel_rfl,_,Tryz.underlying181,rfl⟩
theorem av8:cU Tryz.prog 181 (.agg [.v (.slice none 0 0),.v (.slice none 0 0)]):=⟨Tryz.t181,_,by kernel_rfl,rfl,rfl,fun _ _ _=>ef (bn (c1:=[.slice none 0 0]) rfl (fq rfl) (bn (c1:=[.slice none 0 0]) rfl (fq rfl) (eo)))⟩
instance:TI Tryz.prog 181 2 true:=⟨aAa⟩
instance:ZI Tryz.prog 181 (.agg [.v (.slice none 0 0),.v (.slice none 0 0)]):=⟨av8⟩
theorem azP:ka Tryz.prog 181 [(1,false),(1,false)]:=⟨_,Tryz.underlying181,⟨rfl,ajU,⟨rfl,ajU,trivial⟩⟩,by decide⟩
instance:SI Tryz.prog 181 [(1,false),(1,false)]:=⟨azP⟩
instance:UN Tryz.prog 202 (.int .u32):=⟨Tryz.underlying202⟩
theorem pJ:bo Tryz.prog 202 1 false:=⟨by kernel_rfl,_,Tryz.underlying202,rfl⟩
theorem zw:kS Tryz.prog 202 4:=⟨Tryz.t202,by kernel_rfl,rfl⟩
theorem zZ:cU Tryz.prog 202 (.v (.int .u32 0)):=⟨Tryz.t202,_,by kernel_rfl,rfl,rfl,fun _ _ _=>fq rfl⟩
instance:TI Tryz.prog 202 1 false:=⟨pJ⟩
instance:BI Tryz.prog 202 4:=⟨zw⟩
instance:UN Tryz.prog 212 (.array 2 31):=⟨Tryz.underlying212⟩
theorem azX:bo Tryz.prog 212 6 true:=⟨by kernel_rfl,_,Tryz.underlying212,rfl⟩
theorem aua:cU Tryz.prog 212 (.agg [ae 0,ae 0]):=⟨Tryz.t212,_,by kernel_rfl,rfl,by simp [LV.pure,aG,ao.pure],fun _ _ _=>ef (bn (c1:=[.bool false,.slice none 0 0,.slice none 0 0]) cm (cZ) (bn (c1:=[.bool false,.slice none 0 0,.slice none 0 0]) cm (cZ) (eo)))⟩
instance:TI Tryz.prog 212 6 true:=⟨azX⟩
instance:ZI Tryz.prog 212 (.agg [ae 0,ae 0]):=⟨aua⟩
instance:UN Tryz.prog 230 (.array 3 155):=⟨Tryz.underlying230⟩
theorem alU:bo Tryz.prog 230 3 true:=⟨by kernel_rfl,_,Tryz.underlying230,rfl⟩
theorem avi:cU Tryz.prog 230 (.agg [.v (.slice none 0 0),.v (.slice none 0 0),.v (.slice none 0 0)]):=⟨Tryz.t230,_,by kernel_rfl,rfl,rfl,fun _ _ _=>ef (bn (c1:=[.slice none 0 0]) rfl (fq rfl) (bn (c1:=[.slice none 0 0]) rfl (fq rfl) (bn (c1:=[.slice none 0 0]) rfl (fq rfl) (eo))))⟩
instance:TI Tryz.prog 230 3 true:=⟨alU⟩
instance:ZI Tryz.prog 230 (.agg [.v (.slice none 0 0),.v (.slice none 0 0),.v (.slice none 0 0)]):=⟨avi⟩
instance:UN Tryz.prog 261 (.array 3 212):=⟨Tryz.underlying261⟩
theorem asf:cU Tryz.prog 261 (.agg [.agg [ae 0,ae 0],.agg [ae 0,ae 0],.agg [ae 0,ae 0]]):=⟨Tryz.t261,_,by kernel_rfl,rfl,by simp [LV.pure,aG,ao.pure],fun _ _ _=>ef (bn (c1:=[.bool false,.slice none 0 0,.slice none 0 0,.bool false,.slice none 0 0,.slice none 0 0]) cm (ef (bn (c1:=[.bool false,.slice none 0 0,.slice none 0 0]) cm (cZ) (bn (c1:=[.bool false,.slice none 0 0,.slice none 0 0]) cm (cZ) (eo)))) (bn (c1:=[.bool false,.slice none 0 0,.slice none 0 0,.bool false,.slice none 0 0,.slice none 0 0]) cm (ef (bn (c1:=[.bool false,.slice none 0 0,.slice none 0 0]) cm (cZ) (bn (c1:=[.bool false,.slice none 0 0,.slice none 0 0]) cm (cZ) (eo)))) (bn (c1:=[.bool false,.slice none 0 0,.slice none 0 0,.bool false,.slice none 0 0,.slice none 0 0]) cm (ef (bn (c1:=[.bool false,.slice none 0 0,.slice none 0 0]) cm (cZ) (bn (c1:=[.bool false,.slice none 0 0,.slice none 0 0]) cm (cZ) (eo)))) (eo))))⟩
instance:ZI Tryz.prog 261 (.agg [.agg [ae 0,ae 0],.agg [ae 0,ae 0],.agg [ae 0,ae 0]]):=⟨asf⟩
theorem y9:cU Tryz.prog 54 (aD (0,0)):=by rw [vF];exact Z54
instance:EC Tryz.prog 2 eW 1 false 0:=⟨m9,Z2,T2⟩
instance:EC Tryz.prog 3 eW 1 false 0:=⟨m9,Z3,T3⟩
instance:EC Tryz.prog 31 ae 3 true 0:=⟨ao,Z31,cK⟩
instance:EC Tryz.prog 40 aS 9 true ⟨0,0,0⟩:=⟨bg,Z40,ig⟩
instance:EC Tryz.prog 42 aT 12 true ⟨⟨0,0,0⟩,0⟩:=⟨bw,Z42,rQ⟩
instance:EC Tryz.prog 54 aD 6 true (0,0):=⟨bS,y9,lD⟩
instance:AE Tryz.prog 54 aD 6 true (0,0):=⟨bS,y9⟩
instance:EC Tryz.prog 202 bh 1 false 0:=⟨ff,zZ,pJ⟩
section
variable {f:FuncId} {fn:Func} {c:Code} {args:List LV} {r:LV}
theorem aN (hf:Tryz.prog.funcs[f]?=some fn)
  (h:cy Tryz.prog c (fun e L=>match e with | .exit _=>False | _=>nt Tryz.prog fn.results.toList L r []) (St.mk (fun t=>args.getD t .any) (hp [])))
  (hb:fn.body=some c:=by exact rfl) (hn:(fn.name== "runtime.NumGoroutine")=false:=by decide +kernel) (hd:jN fn.ntmps c=true:=by decide +kernel) (hlen:args.length<=fn.ntmps:=by exact Nat.le_of_ble_eq_true rfl) (ht:∀ g,r.bJ g=r:=by exact tm0):av Tryz.prog f args r:=ave fol hf hb hn hd hlen ht h
theorem fnO {bs:List a8} (hf:Tryz.prog.funcs[f]?=some fn)
  (h:cy Tryz.prog c (fun e L=>match e with | .exit _=>False | _=>nt Tryz.prog fn.results.toList L r bs) (St.mk (fun t=>args.getD t .any) (hp [])))
  (hb:fn.body=some c:=by exact rfl) (hn:(fn.name== "runtime.NumGoroutine")=false:=by decide +kernel) (hd:jN fn.ntmps c=true:=by decide +kernel) (hlen:args.length<=fn.ntmps:=by exact Nat.le_of_ble_eq_true rfl):mP Tryz.prog f args r bs:=asd fol hf hb hn hd hlen h
theorem tD {blk blk':a8} (hf:Tryz.prog.funcs[f]?=some fn)
  (h:cy Tryz.prog c (fun e L=>match e with | .exit _=>False | _=>vf Tryz.prog fn.results.toList L r blk') (St.mk (fun t=>args.getD t .any) (hp [(0,blk)])))
  (hb:fn.body=some c:=by exact rfl) (hn:(fn.name== "runtime.NumGoroutine")=false:=by decide +kernel) (hd:jN fn.ntmps c=true:=by decide +kernel) (hlen:args.length<=fn.ntmps:=by exact Nat.le_of_ble_eq_true rfl) (eA:blk.mt=true:=by exact rfl):lE Tryz.prog f blk args r blk':=atx fol hf hb hn hd hlen eA h
end
end Go.Proofs.YtckppbhafancnaaGreat
end
section
set_option linter.unusedVariables false
set_option linter.unusedSimpArgs false
set_option maxHeartbeats 8000000
set_option maxRecDepth 100000
attribute [local irreducible] Go.Lg.opsL Go.Lg.cy Go.Lg.mR Go.Lg.oF
namespace Go.Proofs.YtckppbhafancnaaGreat
open Go.Lg
namespace akE
theorem tM {p q:Prop} (k:q) (e:p=q:=by simp only [e1,e2,e3,e4,p1,p2,p3,q1,q2,q3,l1,t0,t1,r1,r2,r3,r4,Nat.zero_add,Nat.reduceMul,Nat.reduceAdd,b1,b2,b3,b4,b5,b6,i1,i2,i3,i4,i5,i6,Nat.reduceBEq,ej,ek];exact rfl):p:=e.mpr k
theorem rB {p:Prop} (h:p:=by first | (refine tM ?_;exact rfl) | exact rfl):p:=h
theorem agq {p q:Prop} (k:q) (e:p=q:=by simp only [e1,e2,e3,e4,p1,p2,p3,q1,q2,q3,l1,t0,t1,r1,r2,r3,r4,Nat.zero_add,Nat.reduceMul,Nat.reduceAdd,b1,b2,b3,b4,b5,b6,i1,i2,i3,i4,i5,i6,Nat.reduceBEq,ek];exact rfl):p:=e.mpr k
theorem nf2 {p:Prop} (h:p:=by first | (refine agq ?_;exact rfl) | exact rfl):p:=h
end akE
open akE H0 in
theorem ars (l:List Nat) (hl:l.length<=4611686018427387904):av Tryz.prog 149 [eg l] (eg (vv l)):=by
 unfold eg vv
 refine aN Tryz.func149 ?_
 refine dk ?_
 refine dJ (fun(k:Nat) L=>(((St.mk L.slot (hp [])).put (some 0) (.list 1 (l.map bh))).put (some 3) (ah k))) (fun k=>k<=l.length/\ie l.length l=ie k l) (fun k=>k) l.length ⟨Nat.le_refl _,rfl⟩ ?_
 rintro k L1 ⟨hk,tJ⟩
 refine aA ?_
 refine dy 8 rfl ?_ ?_<;>intro ni h8
 ·obtain⟨j,rfl⟩:∃ j,k=j+1:=⟨k-1,J⟩
  have ej:(((j+1:Nat):Int)-1).toNat=j:=by omega
  have ek:(((j+1:Nat):Int)-1)=j:=by omega
  refine aR ?_
  refine qj rB ?_
  refine ar ?_
  refine aC rfl ?_ ?_<;>intro nB k6
  ·refine aR ?_
   refine qj nf2 ?_
   refine aL ?_
   exact iG j ⟨J,tJ.trans (by simp only [ie];rw [if_pos (by simpa using k6)])⟩
  ·refine bq ?_
   refine ak rfl abF ?_
   refine ax ?_
   rw [tJ,ie,if_neg (by simpa using k6)]
   exact dA rfl (.pure (et ff _ _))
 ·have kG:k=0:=by omega
  subst kG
  have ej:True:=trivial
  have ek:True:=trivial
  refine aR ?_
  refine qj rB ?_
  refine bp ?_
  refine ak rfl abF ?_
  refine ax ?_
  rw [tJ]
  exact dA rfl (.pure (et ff _ _))
namespace aaV
theorem aH {p q:Prop} (k:q) (e:p=q:=by simp only [e1,e2,e3,e4,p1,p2,p3,q1,q2,q3,l1,t0,t1,r1,r2,r3,r4,Nat.zero_add,Nat.reduceMul,Nat.reduceAdd,b1,b2,b3,b4,b5,b6,i1,i2,i3,i4,i5,i6,Nat.reduceBEq,fb];exact rfl):p:=e.mpr k
end aaV
open aaV in
theorem agp (a b:List Nat) (ha:bM a) (hb:bM b) (eZ:a.length<=1099511627776) (lg:b.length<=1099511627776):av Tryz.prog 248 [eg a,eg b] (ba (val a+val b)):=by
 unfold eg ba
 refine aN Tryz.func248 ?_
 refine gz ?_
 refine fT (fun L=>∃ (x:List Nat) (y:List Nat) (L1:St),(bM x/\bM y/\x.length<=1099511627776/\y.length<=x.length/\val a+val b=val x+val y)/\L=(((St.mk L1.slot (hp [])).put (some 0) (.list 1 (x.map bh))).put (some 1) (.list 1 (y.map bh)))) ?_ ?_
 ·refine aC rfl ?_ ?_<;>intro adZ h13
  ·refine aR ?_
   exact⟨b,a,_,⟨hb,ha,lg,J,Nat.add_comm _ _⟩,((aj (aj (bz cl) cl) cl)).symm⟩
  ·refine aL ?_
   exact⟨a,b,_,⟨ha,hb,eZ,J,rfl⟩,((aj (aj (bz cl) cl) cl)).symm⟩
 ·rintro _ ⟨x,y,aC6,⟨hx,hy,hlx,hyx,hxy⟩,rfl⟩
  rw [hxy]
  refine aA ?_
  refine eH rfl rfl (.kM (n:=x.length+1) (m:=x.length+1) ml ml om om om) ?_
  refine im ?_
  refine rH (fun(k:Nat) (o:List Nat) (c:Nat) L=>((((((((St.mk L.slot (hp [(19,⟨1,o.map bh,true⟩)])).put (some 0) (.list 1 (x.map bh))).put (some 1) (.list 1 (y.map bh))).put (some 5) (.ref 19 1 0 (x.length+1))).put (some 6) (cC c)).put (some 20) (.list 1 (x.map bh))).put (some 21) (ah x.length)).put (some 22) (ah k))) (fun k o c=>k<=x.length/\o.length=x.length+1/\c<=1/\bM o/\val (o.take k)+4294967296 ^ k*c=val (x.take k)+val (y.take k)) (fun k o c=>x.length-k) 0 (List.replicate (x.length+1) 0) 0 ⟨Nat.zero_le _,by simp,J,sT _,by simp [val]⟩ ?_
  rintro k o c L1 ⟨hk,cJ,hc,bX,hv⟩
  have rP:=gS hx k
  have hyk:=gS hy k
  refine aA ?_
  refine aC rfl ?_ ?_<;>intro qt oL
  ·refine akC ?_
   refine aC rfl ?_ ?_<;>intro aeB yh
   ·refine awy ?_
    exact p7 (k+1) (o.set k ((c+x.getD k 0+y.getD k 0) % 4294967296)) ((c+x.getD k 0+y.getD k 0)/4294967296) ⟨J,by simp [cJ],J,kZ bX _ _ (Nat.mod_lt _ J),arM J hv rfl⟩
   ·refine yd ?_
    exact p7 (k+1) (o.set k ((c+x.getD k 0) % 4294967296)) ((c+x.getD k 0)/4294967296) ⟨J,by simp [cJ],J,kZ bX _ _ (Nat.mod_lt _ J),arM J hv (by rw [rN y k J];rfl)⟩
  ·obtain rfl:k=x.length:=by omega
   refine mV ?_
   refine pC [19] pv (ars _ qK) ?_
   refine ax ?_
   rw [<-axG (c:=c % 4294967296) hyx cJ bX J (by rw [Nat.mod_eq_of_lt J];exact hv)]
   exact dA rfl (.pure (wy _))
theorem oP (l:List Nat) (h:bM l) (hl:l.length<=4611686018427387904):av Tryz.prog 149 [eg l] (ba (val l)):=by
 have:=ars l hl
 rwa [sO h] at this
namespace ac2
theorem aH {p q:Prop} (k:q) (e:p=q:=by simp only [e1,e2,e3,e4,p1,p2,p3,q1,q2,q3,l1,t0,t1,r1,r2,r3,r4,Nat.zero_add,Nat.reduceMul,Nat.reduceAdd,b1,b2,b3,b4,b5,b6,i1,i2,i3,i4,i5,i6,Nat.reduceBEq,fb,ej];exact rfl):p:=e.mpr k
end ac2
open ac2 in
theorem as2 (a:List Nat) (hl:a.length<=4611686018427387904):av Tryz.prog 147 [eg a] (bL (decide (a.length=0\/a.getD (a.length-1) 0≠0))):=by
 unfold eg
 refine aN Tryz.func147 ?_
 have ej:True:=trivial
 refine bp ?_
 refine dy 6 rfl ?_ ?_<;>intro tj h6
 ·have ej:True:=trivial
  refine bu ?_
  refine dA ?_ (.pure rfl)
  simp only [e1,e2,e3,e4,p1,p2,p3,q1,q2,q3,Nat.reduceBEq]
  congr 2
  first | (symm;rw [decide_eq_true_iff];omega) | (rw [Bool.eq_iff_iff,bne_iff_ne,decide_eq_true_iff];omega)
 ·have ej:((a.length:Int)-1).toNat=a.length-1:=by omega
  refine bu ?_
  refine dA ?_ (.pure rfl)
  simp only [e1,e2,e3,e4,p1,p2,p3,q1,q2,q3,Nat.reduceBEq]
  congr 2
  first | (symm;rw [decide_eq_true_iff];omega) | (rw [Bool.eq_iff_iff,bne_iff_ne,decide_eq_true_iff];omega)
namespace abe
theorem aH {p q:Prop} (k:q) (e:p=q:=by simp only [e1,e2,e3,e4,p1,p2,p3,q1,q2,q3,l1,t0,t1,r1,r2,r3,r4,Nat.zero_add,Nat.reduceMul,Nat.reduceAdd,b1,b2,b3,b4,b5,b6,i1,i2,i3,i4,i5,i6,Nat.reduceBEq,fb,ej,ek];exact rfl):p:=e.mpr k
end abe
open abe in
theorem anm (a:List Nat) (h:bM a) (hl:a.length<=2):av Tryz.prog 237 [eg a] (cC (val a)):=by
 unfold eg
 refine aN Tryz.func237 ?_
 have ej:True:=trivial
 have ek:True:=trivial
 refine nj ?_
 refine jP (fun(k n:Nat) L=>((((St.mk L.slot (hp [])).put (some 0) (.list 1 (a.map bh))).put (some 3) (cC n)).put (some 4) (iL ((k:Int)-1)))) (fun k n=>k<=a.length/\n=val (a.drop k)) (fun k n=>k) a.length 0 ⟨Nat.le_refl _,by simp [val]⟩ ?_
 rintro k n L1 ⟨hk,hn⟩
 refine aR ?_
 refine aC rfl ?_ ?_<;>intro tf h9
 ·obtain⟨j,rfl⟩:∃ j,k=j+1:=⟨k-1,J⟩
  have ej:(((j+1:Nat):Int)-1).toNat=j:=by omega
  have ek:(((j+1:Nat):Int)-1)=j:=by omega
  have hb:=gS h j
  have lr:n<4294967296:=by have:=arJ h (k:=j+1) (j:=1) J;rw [hn];simpa using this
  refine xL ?_
  exact fZ j (n*4294967296+a.getD j 0) ⟨J,by rw [nv J,hn];omega⟩
 ·obtain rfl:k=0:=by omega
  have ej:True:=trivial
  have ek:True:=trivial
  rw [List.drop_zero] at hn
  rw [<-hn]
  refine bu ?_
  exact dF
open abe in
theorem acG (a b:List Nat) (ha:bM a) (hb:bM b) (eZ:a.length<=1099511627776) (lg:b.length<=1099511627776):av Tryz.prog 173 [eg a,eg b] (iL (iR (val a) (val b))):=by
 refine aN Tryz.func173 ?_
 have ej:True:=trivial
 have ek:True:=trivial
 refine bf ?_
 refine cp aK (oP _ gZ J) ?_
 refine ar ?_
 refine cp aK (oP _ gZ J) ?_
 refine dk ?_
 refine aC rfl ?_ ?_<;>intro ot jS
 ·have zh:(al (val a)).length<=1099511627776:=by rw [<-sO ha];unfold vv;simp;omega
  refine bC ?_
  refine aC rfl ?_ ?_<;>intro aeg h19
  ·have hE:=af7 (m:=val a) (n:=val b) J
   refine bf ?_
   first | (rw [ox hE];exact dA rfl (.pure rfl)) | (rw [qL hE];exact dA rfl (.pure rfl)) | (rw [rz hE];exact dA rfl (.pure rfl))
  ·have hE:=af7 (m:=val b) (n:=val a) J
   refine bq ?_
   first | (rw [ox hE];exact dA rfl (.pure rfl)) | (rw [qL hE];exact dA rfl (.pure rfl)) | (rw [rz hE];exact dA rfl (.pure rfl))
 ·have hlen:(al (val a)).length=(al (val b)).length:=by omega
  have zh:(al (val a)).length<=1099511627776:=by rw [<-sO ha];unfold vv;simp;omega
  clear jS ot
  refine bu ?_
  refine dJ (fun(k:Nat) L=>((((St.mk L.slot (hp [])).put (some 0) (ba (val a))).put (some 1) (ba (val b))).put (some 5) (iL ((k:Int)-1)))) (fun k=>k<=(al (val a)).length/\(al (val a)).drop k=(al (val b)).drop k) (fun k=>k) ((al (val a)).length) ⟨Nat.le_refl _,by rw [List.drop_length,List.drop_of_length_le J]⟩ ?_
  rintro k L1 ⟨hk,hd⟩
  refine aR ?_
  refine aC rfl ?_ ?_<;>intro pw rn
  ·obtain⟨j,rfl⟩:∃ j,k=j+1:=⟨k-1,J⟩
   have ej:(((j+1:Nat):Int)-1).toNat=j:=by omega
   have ek:(((j+1:Nat):Int)-1)=j:=by omega
   refine a6 ?_
   refine aY 9 an ?_
   refine bp ?_
   refine aC rfl ?_ ?_<;>intro w9 wQ
   ·refine aL ?_
    refine aY 9 an ?_
    refine bp ?_
    refine aC rfl ?_ ?_<;>intro awT h44
    ·have hE:=ad2 (cE (val a)) (k:=j) J J hd J
     rw [bU,bU] at hE
     refine bu ?_
     first | (rw [ox hE];exact dA rfl (.pure rfl)) | (rw [qL hE];exact dA rfl (.pure rfl)) | (rw [rz hE];exact dA rfl (.pure rfl))
    ·have hE:=ad2 (cE (val b)) (k:=j) J J hd.symm J
     rw [bU,bU] at hE
     refine dj ?_
     first | (rw [ox hE];exact dA rfl (.pure rfl)) | (rw [qL hE];exact dA rfl (.pure rfl)) | (rw [rz hE];exact dA rfl (.pure rfl))
   ·refine bq ?_
    exact iG j ⟨J,aj6 J J hd J⟩
  ·obtain rfl:k=0:=by omega
   have ej:True:=trivial
   have ek:True:=trivial
   rw [List.drop_zero,List.drop_zero] at hd
   have hE:val a=val b:=by have:=congrArg val hd;rwa [bU,bU] at this
   refine bp ?_
   first | (rw [ox hE];exact dA rfl (.pure rfl)) | (rw [qL hE];exact dA rfl (.pure rfl)) | (rw [rz hE];exact dA rfl (.pure rfl))
theorem arX {b:List Nat} (h:bM b):(al (val b)).length<=b.length:=by
 rw [<-sO h];unfold vv;simp;exact Nat.min_le_right _ _
open H0 in
theorem azR (a b:List Nat) (ha:bM a) (hb:bM b) (eZ:a.length<=1099511627776) (lg:b.length<=1099511627776) (bE:val a<val b):av Tryz.prog 249 [eg a,eg b] (.a7 [eg [],iL 7]):=by
 refine aN Tryz.func249 ?_
 refine bp ?_
 refine cp aq (acG _ _ gZ gZ J J) ?_
 refine aJ ?_
 refine aC rfl ?_ ?_<;>intro nB k6
 ·refine bf ?_
  exact tB rfl (.nil 1) rfl (.pure rfl)
 ·exfalso;rw [ox bE] at k6;omega
theorem aup {k br:Nat} {a b o:List Nat} (cJ:k<o.length) (mC:br<=1) (hx:a.getD k 0<4294967296) (hyb:b.getD k 0<4294967296) (bX:bM o) (hv:val (o.take k)+val (b.take k)=val (a.take k)+4294967296 ^ k*br) {y d:Nat}
  (hy:y=br+b.getD k 0) (hd:d=(18446744073709551616+a.getD k 0-y) % 18446744073709551616) :
  d/9223372036854775808<=1/\bM (o.set k (d % 4294967296))/\val ((o.set k (d % 4294967296)).take (k+1))+val (b.take (k+1))=val (a.take (k+1))+4294967296 ^ (k+1)*(d/9223372036854775808):=by
 refine⟨J,kZ bX _ _ J,?_⟩
 rcases Nat.lt_or_ge (a.getD k 0) y with h | h
 ·have h1:d % 4294967296=4294967296+a.getD k 0-y:=by omega
  have h2:d/9223372036854775808=1:=by omega
  rw [h1,h2]
  exact aqE cJ hv hy h J
 ·have h1:d % 4294967296=a.getD k 0-y:=by omega
  have h2:d/9223372036854775808=0:=by omega
  rw [h1,h2]
  exact akz cJ hv hy h
open aaV in
theorem atX (a b:List Nat) (ha:bM a) (hb:bM b) (eZ:a.length<=1099511627776) (lg:b.length<=1099511627776) (hle:val b<=val a):av Tryz.prog 249 [eg a,eg b] (.a7 [ba (val a-val b),iL 0]):=by
 have px:(al (val b)).length<=a.length:=by
  apply uI;exact Nat.lt_of_le_of_lt hle (zx ha)
 refine aN Tryz.func249 ?_
 refine bp ?_
 refine cp aq (acG _ _ gZ gZ J J) ?_
 refine aJ ?_
 refine aC rfl ?_ ?_<;>intro nB k6
 ·exfalso
  rcases Nat.lt_or_eq_of_le hle with h | h
  ·rw [qL h] at k6;omega
  ·rw [rz h.symm] at k6;omega
 ·refine a6 ?_
  refine cp aK (oP _ gZ J) ?_
  refine aR ?_
  refine eH rfl rfl (.kM (n:=a.length) (m:=a.length) ml ml om om om) ?_
  refine im ?_
  refine rH (fun(k:Nat) (o:List Nat) (br:Nat) L=>((((((((St.mk L.slot (hp [(20,⟨1,o.map bh,true⟩)])).put (some 0) (.list 1 (a.map bh))).put (some 1) (ba (val b))).put (some 6) (.ref 20 1 0 a.length)).put (some 7) (cC br)).put (some 21) (.list 1 (a.map bh))).put (some 22) (ah a.length)).put (some 23) (ah k))) (fun k o br=>k<=a.length/\o.length=a.length/\br<=1/\bM o/\val (o.take k)+val ((al (val b)).take k)=val (a.take k)+4294967296 ^ k*br) (fun k o br=>a.length-k) 0 (List.replicate a.length 0) 0 ⟨Nat.zero_le _,by simp,J,sT _,by simp [val]⟩ ?_
  rintro k o br L1 ⟨hk,cJ,mC,bX,hv⟩
  have rP:=gS ha k
  have hyk:=gH (val b) k
  refine aA ?_
  refine aC rfl ?_ ?_<;>intro pw rn
  ·refine ahJ ?_
   refine fT (fun L=>∃ (y:Nat) (L1:St),(y=br+(al (val b)).getD k 0)/\L=(((((((((((St.mk L1.slot (hp [(20,⟨1,o.map bh,true⟩)])).put (some 0) (.list 1 (a.map bh))).put (some 1) (ba (val b))).put (some 6) (.ref 20 1 0 a.length)).put (some 7) (cC br)).put (some 21) (.list 1 (a.map bh))).put (some 22) (ah a.length)).put (some 23) (ah k)).put (some 9) (bh (a.getD k 0))).put (some 8) (ah k)).put (some 10) (cC y))) ?_ ?_
   ·refine aC rfl ?_ ?_<;>intro aeS h32
    ·refine bp ?_
     exact⟨br+(al (val b)).getD k 0,_,rfl,((aj (aj (aj (aj (aj (aj (aj (aj (aj (aj (bz cl) cl) cl) cl) cl) cl) cl) cl) cl) cl) cl)).symm⟩
    ·refine aL ?_
     exact⟨br,_,by rw [rN _ k J];rfl,((aj (aj (aj (aj (aj (aj (aj (aj (aj (aj (bz cl) cl) cl) cl) cl) cl) cl) cl) cl) cl) cl)).symm⟩
   ·rintro _ ⟨y,aD5,hy,rfl⟩
    refine aA ?_
    refine ak rfl (.bin rfl rfl (ac0 J)) ?_
    refine tK ?_
    exact p7 (k+1) (o.set k ((18446744073709551616+a.getD k 0-y) % 18446744073709551616 % 4294967296)) ((18446744073709551616+a.getD k 0-y) % 18446744073709551616/9223372036854775808) ⟨J,by simp [cJ],aup J mC rP hyk bX hv hy rfl⟩
  ·obtain rfl:k=a.length:=by omega
   refine bf ?_
   refine pC [20] pv (oP _ gZ J) ?_
   refine a6 ?_
   have e:=aqh ha bX cJ px (by rw [bU];exact hle) hv
   rw [sO bX,bU] at e
   have e2:=congrArg val e
   rw [bU,bU] at e2
   rw [<-e2]
   exact tB rfl (.pure (iQ _)) rfl (.pure rfl)
theorem ao3 {c x y z:Nat} (hc:c<4294967296) (hx:x<4294967296) (hy:y<4294967296) (hz:z<4294967296):c+(x*y+z)<18446744073709551616:=by
 have:=s7 hx hy;omega
theorem mul_zero {i x:Nat} {a b o:List Nat} (hx:x=a.getD i 0) (h0:x=0) (hv:val o=val (a.take i)*val b):val o=val (a.take (i+1))*val b:=by
 rw [nC,<-hx,h0];simpa using hv
theorem ar0 {i m j x:Nat} {o:List Nat} (hj:j<m) (hz:∀ p,i+m<=p->o.getD p 0=0):∀ p,i+m<=p->(o.set (i+j) x).getD p 0=0:=fun p hp=>by
 rw [Go.Lg.getD_set_ne _ _ _ _ J];exact hz p hp
theorem aow {i m x:Nat} {o:List Nat} (hz:∀ p,i+m<=p->o.getD p 0=0):∀ p,i+1+m<=p->(o.set (i+m) x).getD p 0=0:=fun p hp=>by
 rw [Go.Lg.getD_set_ne _ _ _ _ J];exact hz p J
theorem anT (n p:Nat):(List.replicate n 0).getD p 0=0:=by
 rw [List.getD_eq_getElem?_getD,List.getElem?_replicate];split<;>rfl
namespace agi
theorem aH {p q:Prop} (k:q) (e:p=q:=by simp only [e1,e2,e3,e4,p1,p2,p3,q1,q2,q3,l1,t0,t1,r1,r2,r3,r4,Nat.zero_add,Nat.reduceMul,Nat.reduceAdd,b1,b2,b3,b4,b5,b6,i1,i2,i3,i4,i5,i6,Nat.reduceBEq,fb,iY];exact rfl):p:=e.mpr k
end agi
open agi in
theorem xa (a b:List Nat) (ha:bM a) (hb:bM b) (eZ:a.length<=1099511627776) (lg:b.length<=1099511627776):av Tryz.prog 174 [eg a,eg b] (ba (val a*val b)):=by
 unfold eg
 refine aN Tryz.func174 ?_
 have iY:True:=trivial
 refine bu ?_
 refine eH rfl rfl (.kM (n:=a.length+b.length) (m:=a.length+b.length) ml ml om om om) ?_
 refine bu ?_
 refine jP (fun(i:Nat) (o:List Nat) L=>(((((((St.mk L.slot (hp [(16,⟨1,o.map bh,true⟩)])).put (some 0) (.list 1 (a.map bh))).put (some 1) (.list 1 (b.map bh))).put (some 5) (.ref 16 1 0 (a.length+b.length))).put (some 17) (.list 1 (a.map bh))).put (some 18) (ah a.length)).put (some 19) (ah i))) (fun i o=>i<=a.length/\o.length=a.length+b.length/\bM o/\val o=val (a.take i)*val b/\∀ p,i+b.length<=p->o.getD p 0=0) (fun i o=>a.length-i) 0 (List.replicate (a.length+b.length) 0) ⟨Nat.zero_le _,by simp,sT _,by simp [val,aeR],fun p _=>anT _ _⟩ ?_
 rintro i o L1 ⟨hi,cJ,bX,hv,hz⟩
 have wc:=gS ha i
 have iY:True:=trivial
 refine aA ?_
 refine aC rfl ?_ ?_<;>intro xw yp
 ·refine nj ?_
  refine aC rfl ?_ ?_<;>intro adY yI
  ·refine bq ?_
   exact fZ (i+1) o ⟨J,cJ,bX,mul_zero rfl J hv,fun p hp=>hz p J⟩
  ·refine mA ?_
   refine rH (fun(j:Nat) (o:List Nat) (c:Nat) L=>(((((((((((((St.mk L.slot (hp [(16,⟨1,o.map bh,true⟩)])).put (some 0) (.list 1 (a.map bh))).put (some 1) (.list 1 (b.map bh))).put (some 5) (.ref 16 1 0 (a.length+b.length))).put (some 17) (.list 1 (a.map bh))).put (some 18) (ah a.length)).put (some 19) (ah i)).put (some 6) (ah i)).put (some 7) (bh (a.getD i 0))).put (some 8) (cC c)).put (some 26) (.list 1 (b.map bh))).put (some 27) (ah b.length)).put (some 28) (ah j))) (fun j o c=>j<=b.length/\o.length=a.length+b.length/\bM o/\c<4294967296/\val o+4294967296 ^ (i+j)*c=val (a.take i)*val b+4294967296 ^ i*(a.getD i 0*val (b.take j))/\∀ p,i+b.length<=p->o.getD p 0=0) (fun j o c=>b.length-j) 0 o 0 ⟨Nat.zero_le _,cJ,bX,J,by rw [hv];simp [val],hz⟩ ?_
   rintro j o c L2 ⟨hj,cJ,bX,hc,hv,hz⟩
   have hyj:=gS hb j
   have hzj:=gS bX (i+j)
   have hs:=ao3 hc wc hyj hzj
   have iY:((i:Int)+(j:Int)).toNat=i+j:=by omega
   refine aA ?_
   refine aC rfl ?_ ?_<;>intro zz xW
   ·refine ar9 ?_
    exact p7 (j+1) (o.set (i+j) ((c+(a.getD i 0*b.getD j 0+o.getD (i+j) 0)) % 4294967296)) ((c+(a.getD i 0*b.getD j 0+o.getD (i+j) 0))/4294967296) ⟨J,by simp [cJ],kZ bX _ _ (Nat.mod_lt _ J),J,al5 J hv rfl,ar0 J hz⟩
   ·obtain rfl:j=b.length:=by omega
    have aAH:((i:Int)+(b.length:Int)).toNat=i+b.length:=by omega
    refine xL ?_
    exact fZ (i+1) (o.set (i+b.length) (c % 4294967296)) ⟨J,by simp [cJ],kZ bX _ _ (Nat.mod_lt _ J),by rw [Nat.mod_eq_of_lt hc];exact ak5 J J (hz _ (Nat.le_refl _)) rfl rfl hv,aow hz⟩
 ·obtain rfl:i=a.length:=by omega
  refine bf ?_
  refine pC [16] pv (oP _ gZ qK) ?_
  refine ax ?_
  rw [List.take_length] at hv
  rw [<-hv]
  exact dF
open abe in
theorem axQ (a:List Nat) (d:Nat) (ha:bM a) (eZ:a.length<=1099511627776) (jv:0<d) (hd:d<4294967296):av Tryz.prog 275 [eg a,oe d] (.a7 [ba (val a/d),oe (val a % d)]):=by
 unfold eg
 refine aN Tryz.func275 ?_
 have ej:True:=trivial
 have ek:True:=trivial
 refine bC ?_
 refine eH rfl rfl (.kM (n:=a.length) (m:=a.length) ml ml om om om) ?_
 refine nn ?_
 refine rH (fun(k:Nat) (q:List Nat) (r:Nat) L=>((((((St.mk L.slot (hp [(11,⟨1,q.map bh,true⟩)])).put (some 0) (.list 1 (a.map bh))).put (some 1) (oe d)).put (some 6) (.ref 11 1 0 a.length)).put (some 7) (cC r)).put (some 8) (iL ((k:Int)-1)))) (fun k q r=>k<=a.length/\q.length=a.length/\bM q/\r<d/\val (q.drop k)*d+r=val (a.drop k)) (fun k q r=>k) a.length (List.replicate a.length 0) 0 ⟨Nat.le_refl _,by simp,sT _,jv,by simp [val]⟩ ?_
 rintro k q r L1 ⟨hk,iK,kv,hr,hv⟩
 refine aR ?_
 refine aC rfl ?_ ?_<;>intro yn vo
 ·obtain⟨j,rfl⟩:∃ j,k=j+1:=⟨k-1,J⟩
  have ej:(((j+1:Nat):Int)-1).toNat=j:=by omega
  have ek:(((j+1:Nat):Int)-1)=j:=by omega
  have hxj:=gS ha j
  refine yd ?_
  refine ak rfl adr ?_
  refine nj ?_
  exact p7 j (q.set j ((r*4294967296+a.getD j 0)/d % 4294967296)) ((r*4294967296+a.getD j 0) % d) ⟨J,by simp [iK],kZ kv _ _ (Nat.mod_lt _ J),Nat.mod_lt _ jv,by rw [Nat.mod_eq_of_lt (ak3 hr hxj)];exact aos J iK hv rfl⟩
 ·obtain rfl:k=0:=by omega
  have ej:True:=trivial
  have ek:True:=trivial
  refine bf ?_
  refine pC [11] pv (oP _ gZ qK) ?_
  refine aR ?_
  obtain⟨E1,E2⟩:=am6 jv hr kv hv
  rw [sO kv] at E1
  have E3:=congrArg val E1
  rw [bU,bU] at E3
  rw [<-E3,<-E2]
  have E4:r % 4294967296=r:=Nat.mod_eq_of_lt J
  refine tB rfl (.pure (iQ _)) rfl ?_
  show cG _ (oe (r % 4294967296)) (oe r)
  rw [E4]
  exact .pure rfl
theorem ac9 {s:Nat} (hs:s<32):2 ^ s<=2147483648/\0<2 ^ s:=⟨Nat.pow_le_pow_right (n:=2) J (show s<=31 by omega),Nat.pow_pos J⟩
theorem amy {m:Nat} (h:m<256):(0:Int)<=IntKind.u8.wrap (m:Int)/\(IntKind.u8.wrap (m:Int)).toNat=m:=by
 rw [IntKind.wrap_u8];omega
theorem amT {x p:Nat} (hx:x<4294967296) (hp:p<=2147483648):x*p<=9223372034707292160:=by
 have:=Nat.mul_le_mul (Nat.le_sub_one_of_lt hx) hp;simpa using this
theorem akU {x p c:Nat} (hx:x<4294967296) (hc:c<p):(x*p+c)/4294967296<p:=by
 rw [Nat.div_lt_iff_lt_mul J]
 have:(x+1)*p<=4294967296*p:=Nat.mul_le_mul_right _ hx
 rw [Nat.add_mul] at this
 rw [Nat.mul_comm p];omega
open aaV in
theorem auG (a:List Nat) (s:Nat) (ha:bM a) (eZ:a.length<=1099511627776) (hs:s<32):mP Tryz.prog 277 [eg a,ah s] (.ref 1 1 0 (a.length+1)) [⟨1,(gC (a.length+1) (val a*2 ^ s)).map bh,true⟩]:=by
 unfold eg
 refine fnO Tryz.func277 ?_
 refine bC ?_
 refine eH rfl rfl (.kM (n:=a.length+1) (m:=a.length+1) ml ml om om om) ?_
 refine im ?_
 refine rH (fun(k:Nat) (o:List Nat) (c:Nat) L=>((((((((St.mk L.slot (hp [(12,⟨1,o.map bh,true⟩)])).put (some 0) (.list 1 (a.map bh))).put (some 1) (ah s)).put (some 5) (.ref 12 1 0 (a.length+1))).put (some 6) (cC c)).put (some 13) (.list 1 (a.map bh))).put (some 14) (ah a.length)).put (some 15) (ah k))) (fun k o c=>k<=a.length/\o.length=a.length+1/\c<2 ^ s/\bM o/\val (o.take k)+4294967296 ^ k*c=val (a.take k)*2 ^ s) (fun k o c=>a.length-k) 0 (List.replicate (a.length+1) 0) 0 ⟨Nat.zero_le _,by simp,(ac9 hs).2,sT _,by simp [val]⟩ ?_
 rintro k o c L1 ⟨hk,cJ,hc,bX,hv⟩
 have rP:=gS ha k
 obtain⟨iT,pZ⟩:=ac9 hs
 have sX:=amT rP iT
 refine aA ?_
 refine aC rfl ?_ ?_<;>intro yn vo
 ·refine mV ?_
  refine ak rfl (.sh rfl rfl (arF J J)) ?_
  refine ak rfl (.bin rfl rfl (orV hc J)) ?_
  refine tK ?_
  exact p7 (k+1) (o.set k ((a.getD k 0*2 ^ s+c) % 4294967296)) ((a.getD k 0*2 ^ s+c)/4294967296) ⟨J,by simp [cJ],akU rP hc,kZ bX _ _ (Nat.mod_lt _ J),ayj J hv rfl⟩
 ·obtain rfl:k=a.length:=by omega
  refine xL ?_
  have x6:c % 4294967296=c:=Nat.mod_eq_of_lt J
  have E:=ayA cJ hv
  have E2:=afi (kZ bX a.length c J) (by simp only [List.length_set];exact cJ)
  rw [E] at E2
  rw [<-E2]
  simp only [x6]
  exact ab2 rfl rfl (aW ff _)
open H0 in
theorem ahw (n:Nat) (hn:n<18446744073709551616):av Tryz.prog 238 [cC n] (ba n):=by
 have hL:bM [n % 4294967296,n/4294967296 % 4294967296]:=by
  intro x hx;simp at hx;omega
 have hV:val [n % 4294967296,n/4294967296 % 4294967296]=n:=by rw [val_two];omega
 refine aN Tryz.func238 ?_
 refine dj ?_
 refine pC [8] pv (oP _ gZ qK) ?_
 refine ax ?_
 skip
 exact dA rfl (by rw [hV];exact .pure (iQ _))
namespace aon
theorem tM {p q:Prop} (k:q) (e:p=q:=by simp only [e1,e2,e3,e4,p1,p2,p3,q1,q2,q3,l1,t0,t1,r1,r2,r3,r4,Nat.zero_add,Nat.reduceMul,Nat.reduceAdd,b1,b2,b3,b4,b5,b6,i1,i2,i3,i4,i5,i6,Nat.reduceBEq,hbn];exact rfl):p:=e.mpr k
theorem rB {p:Prop} (h:p:=by first | (refine tM ?_;exact rfl) | exact rfl):p:=h
end aon
open aon H0 in
theorem anf (n:Nat) (hn:n<4294967296):av Tryz.prog 150 [oe n] (iL (di n)):=by
 refine aN Tryz.func150 ?_
 refine bu ?_
 refine fT (fun L=>∃ (m:Nat) (q:Nat) (L1:St),(di n=q+di m/\m<65536/\q<=16)/\L=(((St.mk L1.slot (hp [])).put (some 0) (oe m)).put (some 2) (iL q))) ?_ ?_
 ·refine aC rfl ?_ ?_<;>intro h4r h4
  ·refine aJ ?_
   refine ak rfl (.sh rfl rfl (adN (m:=16) ai)) ?_
   refine aR ?_
   exact⟨n/2 ^ 16,16,_,⟨aeJ J,J,J⟩,((aj (aj (bz cl) cl) cl)).symm⟩
  ·refine aL ?_
   exact⟨n,0,_,⟨J,J,J⟩,((aj (aj (bz cl) cl) cl)).symm⟩
 ·rintro _ ⟨m,q,LC4,⟨v8,hm,hq⟩,rfl⟩
  refine bf ?_
  refine fT (fun L=>∃ (m2:Nat) (q2:Nat) (L1:St),(di n=q2+di m2/\m2<256/\q2<=24)/\L=(((St.mk L1.slot (hp [])).put (some 0) (oe m2)).put (some 2) (iL q2))) ?_ ?_
  ·refine aC rfl ?_ ?_<;>intro ni h8
   ·refine aJ ?_
    refine ak rfl (.sh rfl rfl (adN (m:=8) ai)) ?_
    refine bq ?_
    exact⟨m/2 ^ 8,q+8,_,⟨by rw [v8,aeJ (n:=m) (k:=8) J];omega,J,J⟩,((aj (aj (bz cl) cl) cl)).symm⟩
   ·refine aL ?_
    exact⟨m,q,_,⟨v8,J,J⟩,((aj (aj (bz cl) cl) cl)).symm⟩
  ·rintro _ ⟨m2,q2,LC8,⟨ud,dZ,hq2⟩,rfl⟩
   have hb8:di m2<=8:=sJ.2 dZ
   have hbn:(UInt8.ofNat (di m2)).toNat=di m2:=(by decide:∀ k,k<=8->(UInt8.ofNat k).toNat=k) _ hb8
   refine aA ?_
   refine ak rfl (.afN (b:=UInt8.ofNat (di m2)) rfl Tryz.underlying9 rfl (amy dZ).1 (by rw [(amy dZ).2];exact tbl an dZ)) ?_
   refine ak rfl (.cvI Tryz.underlying5 Tryz.underlying3 rfl J J) ?_
   refine ak rfl wI ?_
   refine ar ?_
   refine qj rB ?_
   refine aL ?_
   rw [ud]
   exact dA rfl (by first | exact .pure rfl | (rw [hbn];exact .pure rfl))
open H0 in
theorem aBP (n:Nat) (hn:n<4294967296):av Tryz.prog 276 [oe n] (iL (32-di n)):=by
 have hb:di n<=32:=sJ.2 hn
 refine aN Tryz.func276 ?_
 refine bf ?_
 refine cp aK (anf _ J) ?_
 refine a6 ?_
 exact dF
theorem zM (l:List Nat) (h:bM l) (hl:l.length<=1099511627776):(al (val l)).length<=1099511627776:=Nat.le_trans (arX h) hl
theorem amq {n:Nat} (h:0<(al n).length):32*((al n).length-1)+di ((al n).getD ((al n).length-1) 0)=di n:=by
 have:=axU (cE n) (adk n) h
 rw [bU] at this;omega
open ac2 in
theorem aaS (a:List Nat) (ha:bM a) (eZ:a.length<=1099511627776):av Tryz.prog 81 [eg a] (iL (di (val a))):=by
 have bE:=zM a ha eZ
 refine aN Tryz.func81 ?_
 have ej:True:=trivial
 refine bf ?_
 refine cp aK (oP _ gZ qK) ?_
 refine bp ?_
 refine aC rfl ?_ ?_<;>intro h7r h7
 ·have h0:val a=0:=pW.1 (List.eq_nil_of_length_eq_zero J)
  have hz:di (val a)=0:=tZ.2 h0
  refine aR ?_
  rw [hz]
  exact dF
 ·have kJ:0<(al (val a)).length:=by omega
  have ej:(((al (val a)).length:Int)-1).toNat=(al (val a)).length-1:=by omega
  have hz:=amq kJ
  have aah:=gH (val a) ((al (val a)).length-1)
  have ahB:di ((al (val a)).getD ((al (val a)).length-1) 0)<=32:=sJ.2 aah
  refine dk ?_
  refine cp aK (anf _ (by rw [ej];exact aah)) ?_
  refine ak rfl (.bin rfl rfl (o6 (by simp only [ej,fb];omega) (by simp only [ej,fb];omega))) ?_
  refine ax ?_
  refine dA ?_ (.pure rfl)
  simp only [e1,e2,e3,e4,p1,p2,p3,q1,q2,q3,Nat.reduceBEq]
  congr 2
  omega
namespace ap4
theorem tM {p q:Prop} (k:q) (e:p=q:=by simp only [e1,e2,e3,e4,p1,p2,p3,q1,q2,q3,l1,t0,t1,r1,r2,r3,r4,Nat.zero_add,Nat.reduceMul,Nat.reduceAdd,b1,b2,b3,b4,b5,b6,i1,i2,i3,i4,i5,i6,Nat.reduceBEq,List.take_zero,List.take_nil,List.nil_append,aP ff,LV.kill];exact rfl):p:=e.mpr k
theorem rB {p:Prop} (h:p:=by first | (refine tM ?_;exact rfl) | exact rfl):p:=h
end ap4
open ap4 H0 in
theorem ab6 (a:List Nat) (eZ:a.length<=1099511627776):av Tryz.prog 235 [eg a] (eg a):=by
 unfold eg
 refine aN Tryz.func235 ?_
 refine aR ?_
 refine aeY (ax1 (sz:=1) (l:=a.map bh) rfl Tryz.underlying29 (fun b hb=>?_))
 refine ar ?_
 refine aC rfl ?_ ?_<;>intro h4r h4
 ·have acT:a=[]:=by simpa using hb h4r
  subst acT
  refine aR ?_
  exact dA rfl (.nil 1)
 ·refine aA ?_
  refine bI rfl (.app rfl rfl rfl rfl rfl (Nat.zero_le _) (.inr rfl) ai Tryz.underlying29 Tryz.underlying29 zZ pJ rfl zw (.inr (.inl rfl)) bm bm ai) ?_
  refine ar ?_
  refine qj rB ?_
  refine aL ?_
  exact mz [7] rfl rfl (eN ff rfl rfl aO)
open aaV in
theorem aeW (a b:List Nat) (eZ:a.length<=1099511627776) (lg:b.length<=1099511627776):av Tryz.prog 172 [eg a,eg b] (bL (decide (a=b))):=by
 unfold eg
 refine aN Tryz.func172 ?_
 refine gz ?_
 refine aC rfl ?_ ?_<;>intro l9 rR
 ·have hE:a≠b:=by rintro rfl;omega
  refine aR ?_
  first | (rw [decide_eq_true hE];exact dA rfl (.pure rfl)) | (rw [decide_eq_false hE];exact dA rfl (.pure rfl))
 ·have hl:a.length=b.length:=by omega
  clear rR l9
  refine bp ?_
  refine dJ (fun(k:Nat) L=>((((((St.mk L.slot (hp [])).put (some 0) (.list 1 (a.map bh))).put (some 1) (.list 1 (b.map bh))).put (some 11) (.list 1 (a.map bh))).put (some 12) (ah a.length)).put (some 13) (ah k))) (fun k=>k<=a.length/\a.take k=b.take k) (fun k=>a.length-k) 0 ⟨Nat.zero_le _,rfl⟩ ?_
  rintro k L1 ⟨hk,ht⟩
  refine aA ?_
  refine aC rfl ?_ ?_<;>intro ot jS
  ·refine bp ?_
   refine aY 9 an ?_
   refine bp ?_
   refine aC rfl ?_ ?_<;>intro pw rn
   ·have hE:a≠b:=by rintro rfl;omega
    refine bp ?_
    first | (rw [decide_eq_true hE];exact dA rfl (.pure rfl)) | (rw [decide_eq_false hE];exact dA rfl (.pure rfl))
   ·refine bf ?_
    exact iG (k+1) ⟨J,aBT J J ht J⟩
  ·obtain rfl:k=a.length:=by omega
   have hE:a=b:=by rw [List.take_length,hl,List.take_length] at ht;exact ht
   refine bp ?_
   first | (rw [decide_eq_true hE];exact dA rfl (.pure rfl)) | (rw [decide_eq_false hE];exact dA rfl (.pure rfl))
namespace aka
theorem aH {p q:Prop} (k:q) (e:p=q:=by simp only [e1,e2,e3,e4,p1,p2,p3,q1,q2,q3,l1,t0,t1,r1,r2,r3,r4,Nat.zero_add,Nat.reduceMul,Nat.reduceAdd,b1,b2,b3,b4,b5,b6,i1,i2,i3,i4,i5,i6,Nat.reduceBEq,ej,ek,fb];exact rfl):p:=e.mpr k
end aka
open aka in
theorem aCv (l:List Nat) (hl:l.length<=4611686018427387904) (h0:0<l.length):lE Tryz.prog 149 ⟨1,l.map bh,true⟩ [.ref 0 1 0 l.length] (.ref 0 1 0 (ie l.length l)) ⟨1,l.map bh,true⟩:=by
 refine tD Tryz.func149 ?_
 have ej:True:=trivial
 have ek:True:=trivial
 refine dk ?_
 refine dJ (fun(k:Nat) L=>(((St.mk L.slot (hp [(0,⟨1,l.map bh,true⟩)])).put (some 0) (.ref 0 1 0 l.length)).put (some 3) (ah k))) (fun k=>k<=l.length/\ie l.length l=ie k l) (fun k=>k) l.length ⟨Nat.le_refl _,rfl⟩ ?_
 rintro k L1 ⟨hk,tJ⟩
 refine aA ?_
 refine dy 8 rfl ?_ ?_<;>intro ni h8
 ·obtain⟨j,rfl⟩:∃ j,k=j+1:=⟨k-1,J⟩
  have ej:(((j+1:Nat):Int)-1).toNat=j:=by omega
  have ek:(((j+1:Nat):Int)-1)=j:=by omega
  refine bq ?_
  refine aC rfl ?_ ?_<;>intro nB k6
  ·refine bC ?_
   exact iG j ⟨J,tJ.trans (by simp only [ie];rw [if_pos (by simpa using k6)])⟩
  ·refine bq ?_
   refine ak rfl abF ?_
   refine ax ?_
   rw [tJ,ie,if_neg (by simpa using k6)]
   exact sB rfl .ref rfl rfl (aW ff _)
 ·have kG:k=0:=by omega
  subst kG
  refine mV ?_
  refine ak rfl abF ?_
  refine ax ?_
  rw [tJ]
  exact sB rfl .ref rfl rfl (aW ff _)
theorem aw9 (l:List Nat) (n:Nat) (hn:n=l.length) (hl:n<=4611686018427387904) (h0:0<n):lE Tryz.prog 149 ⟨1,l.map bh,true⟩ [.ref 0 1 0 n] (.ref 0 1 0 (ie n l)) ⟨1,l.map bh,true⟩:=by
 subst hn;exact aCv l hl h0
theorem akg (x s:Nat) (eZ:(al x).length<=1099511627776) (hs:s<32):mP Tryz.prog 277 [ba x,ah s] (.ref 1 1 0 ((al x).length+1)) [⟨1,(gC ((al x).length+1) (x*2 ^ s)).map bh,true⟩]:=by
 have:=auG (al x) s (cE x) eZ hs
 rw [bU] at this
 exact this
theorem val_one (x:Nat):val [x]=x:=by simp [val]
theorem apx {x:Nat} (h:x<=32):(32:Int)-(x:Int)=((32-x:Nat):Int):=by omega
namespace aap
theorem aH {p q:Prop} (k:q) (e:p=q:=by simp only [e1,e2,e3,e4,p1,p2,p3,q1,q2,q3,l1,t0,t1,r1,r2,r3,r4,Nat.zero_add,Nat.reduceMul,Nat.reduceAdd,b1,b2,b3,b4,b5,b6,i1,i2,i3,i4,i5,i6,Nat.reduceBEq,fb,bU,ej,ek,es,eV,nk,mg,oD,o8,qA,nm,nU,iY,qQ,rX,nz,oY,List.set_set,List.length_set,Nat.add_mod_mod,pQ,pB,kX,iP];exact rfl):p:=e.mpr k
theorem tM {p q:Prop} (k:q) (e:p=q:=by simp only [e1,e2,e3,e4,p1,p2,p3,q1,q2,q3,l1,t0,t1,r1,r2,r3,r4,Nat.zero_add,Nat.reduceMul,Nat.reduceAdd,b1,b2,b3,b4,b5,b6,i1,i2,i3,i4,i5,i6,Nat.reduceBEq,fb,bU,ej,ek,es,eV,nk,mg,oD,o8,qA,nm,nU,iY,qQ,rX,nz,oY,List.set_set,List.length_set,Nat.add_mod_mod,pQ,pB,kX,iP,qA];exact rfl):p:=e.mpr k
theorem rB {p:Prop} (h:p:=by first | (refine tM ?_;exact rfl) | exact rfl):p:=h
theorem agq {p q:Prop} (k:q) (e:p=q:=by simp only [e1,e2,e3,e4,p1,p2,p3,q1,q2,q3,l1,t0,t1,r1,r2,r3,r4,Nat.zero_add,Nat.reduceMul,Nat.reduceAdd,b1,b2,b3,b4,b5,b6,i1,i2,i3,i4,i5,i6,Nat.reduceBEq,fb,bU,ej,ek,es,eV,nk,mg,oD,o8,qA,nm,nU,iY,qQ,rX,nz,oY,List.set_set,List.length_set,Nat.add_mod_mod,pQ,pB,kX,iP,val_one];exact rfl):p:=e.mpr k
theorem nf2 {p:Prop} (h:p:=by first | (refine agq ?_;exact rfl) | exact rfl):p:=h
theorem aAf {p q:Prop} (k:q) (e:p=q:=by simp only [e1,e2,e3,e4,p1,p2,p3,q1,q2,q3,l1,t0,t1,r1,r2,r3,r4,Nat.zero_add,Nat.reduceMul,Nat.reduceAdd,b1,b2,b3,b4,b5,b6,i1,i2,i3,i4,i5,i6,Nat.reduceBEq,fb,bU,ej,ek,es,eV,nk,mg,oD,o8,qA,nm,nU,iY,qQ,rX,nz,oY,List.set_set,List.length_set,Nat.add_mod_mod,pQ,pB,kX,iP,abG,o8];exact rfl):p:=e.mpr k
theorem nf3 {p:Prop} (h:p:=by first | (refine aAf ?_;exact rfl) | exact rfl):p:=h
theorem aqd {p q:Prop} (k:q) (e:p=q:=by simp only [e1,e2,e3,e4,p1,p2,p3,q1,q2,q3,l1,t0,t1,r1,r2,r3,r4,Nat.zero_add,Nat.reduceMul,Nat.reduceAdd,b1,b2,b3,b4,b5,b6,i1,i2,i3,i4,i5,i6,Nat.reduceBEq,fb,bU,ej,ek,es,eV,nk,mg,oD,o8,qA,nm,nU,iY,qQ,rX,nz,oY,List.set_set,List.length_set,Nat.add_mod_mod,pQ,pB,kX,iP,iP];exact rfl):p:=e.mpr k
theorem nf4 {p:Prop} (h:p:=by first | (refine aqd ?_;exact rfl) | exact rfl):p:=h
theorem eB {p:Prop} (h:p:=by first | rfl | (refine aqd ?_;first | exact trivial | rfl | (congr 3<;>omega) | (congr 2<;>omega))):p:=h
theorem asN {p q:Prop} (k:q) (e:p=q:=by simp only [e1,e2,e3,e4,p1,p2,p3,q1,q2,q3,l1,t0,t1,r1,r2,r3,r4,Nat.zero_add,Nat.reduceMul,Nat.reduceAdd,b1,b2,b3,b4,b5,b6,i1,i2,i3,i4,i5,i6,Nat.reduceBEq,fb,bU,ej,ek,es,eV,nk,mg,oD,o8,qA,nm,nU,iY,qQ,rX,nz,oY,List.set_set,List.length_set,Nat.add_mod_mod,pQ,pB,kX,iP,iP,o8];exact rfl):p:=e.mpr k
theorem qC {p:Prop} (h:p:=by first | rfl | (refine asN ?_;first | exact trivial | rfl | (congr 3<;>omega) | (congr 2<;>omega))):p:=h
theorem awV {p q:Prop} (k:q) (e:p=q:=by simp only [e1,e2,e3,e4,p1,p2,p3,q1,q2,q3,l1,t0,t1,r1,r2,r3,r4,Nat.zero_add,Nat.reduceMul,Nat.reduceAdd,b1,b2,b3,b4,b5,b6,i1,i2,i3,i4,i5,i6,Nat.reduceBEq,fb,bU,ej,ek,es,eV,nk,mg,oD,o8,qA,nm,nU,iY,qQ,rX,nz,oY,List.set_set,List.length_set,Nat.add_mod_mod,pQ,pB,kX,iP,<-hT];exact rfl):p:=e.mpr k
theorem nf6 {p:Prop} (h:p:=by first | (refine awV ?_;exact rfl) | exact rfl):p:=h
end aap
open aap in
theorem ayn (b ul ql:List Nat) (n s m q0 j:Nat) (iP:(al (val b*2 ^ s)).length=n+2) (jc:n+2<=m) (mi:m<=1099511627776) (mS:q0=m+1-(n+2)) (hk:j+1<=q0) (ky:ul.length=m+1) (iK:ql.length=q0) (fA:bM ul) (kv:bM ql) (ry:2147483648<=(al (val b*2 ^ s)).getD (n+1) 0) (jM:0<(val b*2 ^ s)) (sK:(val b*2 ^ s)<4294967296 ^ (n+2)) (bE:val ul<(val b*2 ^ s)*4294967296 ^ (j+1)) {Q:iM->St->Prop} (L1:St)
  (hQ:∀ (x:Nat) (L2:St),(val ul/4294967296 ^ j/(val b*2 ^ s)<=x/\x<=val ul/4294967296 ^ j/(val b*2 ^ s)+1/\x<4294967296)->Q .normal ((((((((St.mk L2.slot (hp [(1001057,⟨1,ul.map bh,true⟩),(1001105,⟨1,(gC ((al (val b)).length+1) (val b*2 ^ s)).map bh,false⟩),(77,⟨1,ql.map bh,true⟩)])).put (some 4) (.ref 77 1 0 q0)).put (some 9) (ah s)).put (some 10) (.ref 1001057 1 0 (m+1))).put (some 11) (ba (val b*2 ^ s))).put (some 12) (ah (n+2))).put (some 13) (iL (((j+1:Nat):Int)-1))).put (some 15) (cC x))) :
  cy Tryz.prog ((zA Tryz.f236 [1,1,1,1,1,1,1,0,1,0,0,1,0,0,1,1,0]).getD .skip) Q (((((((((St.mk L1.slot (hp [(1001057,⟨1,ul.map bh,true⟩),(1001105,⟨1,(gC ((al (val b)).length+1) (val b*2 ^ s)).map bh,false⟩),(77,⟨1,ql.map bh,true⟩)])).put (some 4) (.ref 77 1 0 q0)).put (some 9) (ah s)).put (some 10) (.ref 1001057 1 0 (m+1))).put (some 11) (ba (val b*2 ^ s))).put (some 12) (ah (n+2))).put (some 13) (iL (((j+1:Nat):Int)-1))).put (some 15) (cC ((ul.getD (n+2+j) 0*4294967296+ul.getD (n+1+j) 0)/(al (val b*2 ^ s)).getD (n+1) 0))).put (some 16) (cC ((ul.getD (n+2+j) 0*4294967296+ul.getD (n+1+j) 0) % (al (val b*2 ^ s)).getD (n+1) 0))):=by
 have ej:True:=trivial
 have ek:True:=trivial
 have es:True:=trivial
 have eV:True:=trivial
 have nk:True:=trivial
 have mg:True:=trivial
 have oD:True:=trivial
 have o8:True:=trivial
 have qA:True:=trivial
 have nm:True:=trivial
 have nU:True:=trivial
 have iY:True:=trivial
 have qQ:True:=trivial
 have rX:True:=trivial
 have nz:True:=trivial
 have oY:True:=trivial
 have pQ:True:=trivial
 have pB:True:=trivial
 have kX:True:=trivial
 have nk:((j:Int)+((n+2:Nat):Int)).toNat=n+2+j:=by omega
 have mg:((j:Int)+((n+2:Nat):Int)-1).toNat=n+1+j:=by omega
 have oD:((j:Int)+((n+2:Nat):Int)-2).toNat=n+j:=by omega
 have nm:(((n+2:Nat):Int)-1).toNat=n+1:=by omega
 have nU:(((n+2:Nat):Int)-2).toNat=n:=by omega
 have ek:(((j+1:Nat):Int)-1)=(j:Int):=by omega
 have acX:=gH ((val b*2 ^ s)) (n+1)
 have yz:=gH ((val b*2 ^ s)) n
 have hu0:=gS fA (n+2+j)
 have vg:=gS fA (n+1+j)
 have rL:=gS fA (n+j)
 obtain⟨vl,rl,pj,lf,hVe,hRe,hRV⟩:=agv (j:=j) iP J fA bE
 have hun:=awL hVe hRe pj yz hRV
 have ajN:=ax3 hVe hRe lf rL J
 have hqB:val ul/4294967296 ^ j/(val b*2 ^ s)<4294967296:=by rw [Nat.div_lt_iff_lt_mul jM,Nat.mul_comm];exact hRV
 refine abX rfl ?_
 refine ar ?_
 refine jP (fun(x rest:Nat) L=>(((((((((St.mk L.slot (hp [(1001057,⟨1,ul.map bh,true⟩),(1001105,⟨1,(gC ((al (val b)).length+1) (val b*2 ^ s)).map bh,false⟩),(77,⟨1,ql.map bh,true⟩)])).put (some 4) (.ref 77 1 0 q0)).put (some 9) (ah s)).put (some 10) (.ref 1001057 1 0 (m+1))).put (some 11) (ba (val b*2 ^ s))).put (some 12) (ah (n+2))).put (some 13) (iL (((j+1:Nat):Int)-1))).put (some 15) (cC x)).put (some 16) (cC rest))) (fun x rest=>val ul/4294967296 ^ j/(val b*2 ^ s)<=x/\x*(al (val b*2 ^ s)).getD (n+1) 0+rest=(ul.getD (n+2+j) 0*4294967296+ul.getD (n+1+j) 0)/\rest<4294967296) (fun x rest=>x) ((ul.getD (n+2+j) 0*4294967296+ul.getD (n+1+j) 0)/(al (val b*2 ^ s)).getD (n+1) 0) ((ul.getD (n+2+j) 0*4294967296+ul.getD (n+1+j) 0) % (al (val b*2 ^ s)).getD (n+1) 0) ⟨ajN,by rw [Nat.mul_comm];exact Nat.div_add_mod _ _,Nat.lt_trans (Nat.mod_lt _ J) acX⟩ ?_
 rintro x rest L2 ⟨hx,tF,apl⟩
 have hxt:x<=x*(al (val b*2 ^ s)).getD (n+1) 0:=Nat.le_mul_of_pos_right _ J
 refine aL ?_
 refine aY 24 an ?_
 refine aJ ?_
 refine dy 120 rfl ?_ ?_<;>intro aD7 aDo
 ·have hxd:val ul/4294967296 ^ j/(val b*2 ^ s)<=x-1:=by omega
  have fw:1<=x:=by omega
  refine ahJ ?_
  have aaT:(x-1)*(al (val b*2 ^ s)).getD (n+1) 0+(rest+(al (val b*2 ^ s)).getD (n+1) 0)=(ul.getD (n+2+j) 0*4294967296+ul.getD (n+1+j) 0):=by
   have e:(x-1)*(al (val b*2 ^ s)).getD (n+1) 0+(al (val b*2 ^ s)).getD (n+1) 0=x*(al (val b*2 ^ s)).getD (n+1) 0:=by rw [<-Nat.succ_mul];congr 1;omega
   omega
  refine tK ?_
  refine aC rfl ?_ ?_<;>intro ayL aAQ
  ·have jQ:=apC (u2:=ul.getD (n+j) 0) aaT hun vg yz J
   refine ax ?_
   exact arT
  ·refine aJ ?_
   exact fZ (x-1) (rest+(al (val b*2 ^ s)).getD (n+1) 0) ⟨hxd,aaT,J⟩
 ·have hmul:=s7 (show x<4294967296 by omega) yz
  refine xL ?_
  refine aC rfl ?_ ?_<;>intro aEe aAS
  ·have fw:1<=x:=by
    rcases Nat.eq_zero_or_pos x with e | e
    ·rw [e,Nat.zero_mul] at aAS;omega
    ·exact e
   have hxd:val ul/4294967296 ^ j/(val b*2 ^ s)<=x-1:=by have:=aAN hVe hRe lf jM tF J;omega
   refine ax ?_
   have aaT:(x-1)*(al (val b*2 ^ s)).getD (n+1) 0+(rest+(al (val b*2 ^ s)).getD (n+1) 0)=(ul.getD (n+2+j) 0*4294967296+ul.getD (n+1+j) 0):=by
    have e:(x-1)*(al (val b*2 ^ s)).getD (n+1) 0+(al (val b*2 ^ s)).getD (n+1) 0=x*(al (val b*2 ^ s)).getD (n+1) 0:=by rw [<-Nat.succ_mul];congr 1;omega
    omega
   refine tK ?_
   refine aC rfl ?_ ?_<;>intro ayL aAQ
   ·have jQ:=apC (u2:=ul.getD (n+j) 0) aaT hun vg yz J
    refine ax ?_
    exact arT
   ·refine aJ ?_
    exact fZ (x-1) (rest+(al (val b*2 ^ s)).getD (n+1) 0) ⟨hxd,aaT,J⟩
  ·refine ax ?_
   exact zI (hQ (x) _ ⟨hx,al7 hVe hRe pj J jM tF J J,J⟩) (aj (aj (aj (aj (aj (aj (aj (bz cl) cl) cl) cl) cl) cl) cl) cl)
open aap in
theorem aw8 (b ul ql:List Nat) (n s m q0 j:Nat) (iP:(al (val b*2 ^ s)).length=n+2) (jc:n+2<=m) (mi:m<=1099511627776) (mS:q0=m+1-(n+2)) (hk:j+1<=q0) (ky:ul.length=m+1) (iK:ql.length=q0) (fA:bM ul) (kv:bM ql) (ry:2147483648<=(al (val b*2 ^ s)).getD (n+1) 0) (jM:0<(val b*2 ^ s)) (sK:(val b*2 ^ s)<4294967296 ^ (n+2)) (bE:val ul<(val b*2 ^ s)*4294967296 ^ (j+1)) (x:Nat) (eT:val ul/4294967296 ^ j/(val b*2 ^ s)<=x) (hxB:x<4294967296) {Q:iM->St->Prop} (L1:St)
  (hQ:∀ (wl:List Nat) (c:Nat) (br:Nat) (L2:St),(wl.length=m+1/\bM wl/\c<4294967296/\br<=1/\val wl+4294967296 ^ j*(x*(val b*2 ^ s))=val ul+4294967296 ^ (n+2+j)*(c+br)/\∀ p,n+2+j<=p->wl.getD p 0=ul.getD p 0)->Q .normal ((((((((((St.mk L2.slot (hp [(1001057,⟨1,wl.map bh,true⟩),(1001105,⟨1,(gC ((al (val b)).length+1) (val b*2 ^ s)).map bh,false⟩),(77,⟨1,ql.map bh,true⟩)])).put (some 4) (.ref 77 1 0 q0)).put (some 9) (ah s)).put (some 10) (.ref 1001057 1 0 (m+1))).put (some 11) (ba (val b*2 ^ s))).put (some 12) (ah (n+2))).put (some 13) (iL (((j+1:Nat):Int)-1))).put (some 15) (cC x)).put (some 17) (cC br)).put (some 18) (cC c))) :
  cy Tryz.prog ((zA Tryz.f236 [1,1,1,1,1,1,1,0,1,0,0,1,0,0,1,1,1,1,0,1]).getD .skip) Q (((((((((((((St.mk L1.slot (hp [(1001057,⟨1,ul.map bh,true⟩),(1001105,⟨1,(gC ((al (val b)).length+1) (val b*2 ^ s)).map bh,false⟩),(77,⟨1,ql.map bh,true⟩)])).put (some 4) (.ref 77 1 0 q0)).put (some 9) (ah s)).put (some 10) (.ref 1001057 1 0 (m+1))).put (some 11) (ba (val b*2 ^ s))).put (some 12) (ah (n+2))).put (some 13) (iL (((j+1:Nat):Int)-1))).put (some 15) (cC x)).put (some 17) (cC 0)).put (some 18) (cC 0)).put (some 154) (ba (val b*2 ^ s))).put (some 155) (ah (n+2))).put (some 156) (ah 0)):=by
 have ej:True:=trivial
 have ek:True:=trivial
 have es:True:=trivial
 have eV:True:=trivial
 have nk:True:=trivial
 have mg:True:=trivial
 have oD:True:=trivial
 have o8:True:=trivial
 have qA:True:=trivial
 have nm:True:=trivial
 have nU:True:=trivial
 have iY:True:=trivial
 have qQ:True:=trivial
 have rX:True:=trivial
 have nz:True:=trivial
 have oY:True:=trivial
 have pQ:True:=trivial
 have pB:True:=trivial
 have kX:True:=trivial
 have nk:((j:Int)+((n+2:Nat):Int)).toNat=n+2+j:=by omega
 have mg:((j:Int)+((n+2:Nat):Int)-1).toNat=n+1+j:=by omega
 have oD:((j:Int)+((n+2:Nat):Int)-2).toNat=n+j:=by omega
 have nm:(((n+2:Nat):Int)-1).toNat=n+1:=by omega
 have nU:(((n+2:Nat):Int)-2).toNat=n:=by omega
 have ek:(((j+1:Nat):Int)-1)=(j:Int):=by omega
 have acX:=gH ((val b*2 ^ s)) (n+1)
 have yz:=gH ((val b*2 ^ s)) n
 have hu0:=gS fA (n+2+j)
 have vg:=gS fA (n+1+j)
 have rL:=gS fA (n+j)
 refine abX rfl ?_
 refine ar ?_
 refine lp4 (fun(i:Nat) (wl:List Nat) (c br:Nat) L=>(((((((((((((St.mk L.slot (hp [(1001057,⟨1,wl.map bh,true⟩),(1001105,⟨1,(gC ((al (val b)).length+1) (val b*2 ^ s)).map bh,false⟩),(77,⟨1,ql.map bh,true⟩)])).put (some 4) (.ref 77 1 0 q0)).put (some 9) (ah s)).put (some 10) (.ref 1001057 1 0 (m+1))).put (some 11) (ba (val b*2 ^ s))).put (some 12) (ah (n+2))).put (some 13) (iL (((j+1:Nat):Int)-1))).put (some 15) (cC x)).put (some 17) (cC br)).put (some 18) (cC c)).put (some 154) (ba (val b*2 ^ s))).put (some 155) (ah (n+2))).put (some 156) (ah i))) (fun i wl c br=>i<=n+2/\wl.length=m+1/\bM wl/\c<4294967296/\br<=1/\val wl+4294967296 ^ j*(x*val ((al (val b*2 ^ s)).take i))=val ul+4294967296 ^ (i+j)*(c+br)/\∀ p,n+2+j<=p->wl.getD p 0=ul.getD p 0) (fun i wl c br=>n+2-i) 0 ul 0 0 ⟨Nat.zero_le _,ky,fA,J,J,by simp [val],fun _ _=>rfl⟩ (h0:=⟨_,aw.of_eq (aj (aj (aj (aj (aj (aj (aj (aj (aj (aj (aj (aj (bz eB) eB) eB) eB) eB) eB) eB) eB) eB) eB) eB) eB) eB)⟩) ?_
 rintro i wl c br L3 ⟨hi,gM,gU,hc,mC,xT,zH⟩
 have iY:((i:Int)+(j:Int)).toNat=i+j:=by omega
 have hvi:=gH (val b*2 ^ s) i
 have hmul:=s7 hxB hvi
 have hwi:=gS gU (i+j)
 refine aA ?_
 refine aC rfl ?_ ?_<;>intro aDh aC9
 ·refine alH ?_
  refine ak rfl (.bin rfl rfl (aAd)) ?_
  refine ak rfl (.bin rfl rfl (ac0 J)) ?_
  refine ar ?_
  refine ak rfl (.bin rfl rfl (ac0 J)) ?_
  refine alH ?_
  exact oM (i+1) (wl.set (i+j) (((18446744073709551616+(18446744073709551616+wl.getD (i+j) 0-(c+x*(al (val b*2 ^ s)).getD i 0) % 4294967296) % 18446744073709551616-br) % 18446744073709551616) % 4294967296)) ((c+x*(al (val b*2 ^ s)).getD i 0)/4294967296) (((18446744073709551616+(18446744073709551616+wl.getD (i+j) 0-(c+x*(al (val b*2 ^ s)).getD i 0) % 4294967296) % 18446744073709551616-br) % 18446744073709551616)/9223372036854775808) (by
   obtain⟨g1,g2,g3⟩:=ay5 J gU mC xT (c1:=(c+x*(al (val b*2 ^ s)).getD i 0)) rfl rfl
   exact⟨J,by simp [gM],g2,J,g1,g3,fun p hp=>by rw [Go.Lg.getD_set_ne _ _ _ _ J];exact zH p hp⟩) (he:=aw.of_eq (aj (aj (aj (aj (aj (aj (aj (aj (aj (aj (aj (aj (bz eB) eB) eB) eB) eB) eB) eB) eB) eB) eB) eB) eB) eB))
 ·obtain rfl:i=n+2:=by omega
  rw [List.take_of_length_le J,bU] at xT
  refine ax ?_
  exact zI (hQ (wl) (c) (br) _ ⟨gM,gU,hc,mC,xT,zH⟩) (aj (aj (aj (aj (aj (aj (aj (aj (aj (bz cl) cl) cl) cl) cl) cl) cl) cl) cl) cl)
open aap in
theorem auh (b ul ql:List Nat) (n s m q0 j:Nat) (iP:(al (val b*2 ^ s)).length=n+2) (jc:n+2<=m) (mi:m<=1099511627776) (mS:q0=m+1-(n+2)) (hk:j+1<=q0) (ky:ul.length=m+1) (iK:ql.length=q0) (fA:bM ul) (kv:bM ql) (ry:2147483648<=(al (val b*2 ^ s)).getD (n+1) 0) (jM:0<(val b*2 ^ s)) (sK:(val b*2 ^ s)<4294967296 ^ (n+2)) (bE:val ul<(val b*2 ^ s)*4294967296 ^ (j+1)) (x:Nat) (eT:val ul/4294967296 ^ j/(val b*2 ^ s)<=x) (p9:x<=val ul/4294967296 ^ j/(val b*2 ^ s)+1) (hxB:x<4294967296) (wl:List Nat) (c br:Nat) (gM:wl.length=m+1) (gU:bM wl) (hc:c<4294967296) (mC:br<=1) (xT:val wl+4294967296 ^ j*(x*(val b*2 ^ s))=val ul+4294967296 ^ (n+2+j)*(c+br)) (zH:∀ p,n+2+j<=p->wl.getD p 0=ul.getD p 0) {Q:iM->St->Prop} (L1:St)
  (hQ:∀ (w4:List Nat) (x4:Nat) (L2:St),(x4=val ul/4294967296 ^ j/(val b*2 ^ s)/\w4.length=m+1/\bM w4/\val w4+4294967296 ^ j*(x4*(val b*2 ^ s))=val ul)->Q .normal ((((((((St.mk L2.slot (hp [(1001057,⟨1,w4.map bh,true⟩),(1001105,⟨1,(gC ((al (val b)).length+1) (val b*2 ^ s)).map bh,false⟩),(77,⟨1,ql.map bh,true⟩)])).put (some 4) (.ref 77 1 0 q0)).put (some 9) (ah s)).put (some 10) (.ref 1001057 1 0 (m+1))).put (some 11) (ba (val b*2 ^ s))).put (some 12) (ah (n+2))).put (some 13) (iL (((j+1:Nat):Int)-1))).put (some 15) (cC x4))) :
  cy Tryz.prog ((zA Tryz.f236 [1,1,1,1,1,1,1,0,1,0,0,1,0,0,1,1,1,1,1,1,1,0,1]).getD .skip) Q ((((((((((St.mk L1.slot (hp [(1001057,⟨1,(wl.set (n+2+j) (((18446744073709551616+(18446744073709551616+wl.getD (n+2+j) 0-c) % 18446744073709551616-br) % 18446744073709551616) % 4294967296)).map bh,true⟩),(1001105,⟨1,(gC ((al (val b)).length+1) (val b*2 ^ s)).map bh,false⟩),(77,⟨1,ql.map bh,true⟩)])).put (some 4) (.ref 77 1 0 q0)).put (some 9) (ah s)).put (some 10) (.ref 1001057 1 0 (m+1))).put (some 11) (ba (val b*2 ^ s))).put (some 12) (ah (n+2))).put (some 13) (iL (((j+1:Nat):Int)-1))).put (some 15) (cC x)).put (some 22) (cC ((18446744073709551616+(18446744073709551616+wl.getD (n+2+j) 0-c) % 18446744073709551616-br) % 18446744073709551616))).put (some 211) (.v (.bool (((((18446744073709551616+(18446744073709551616+wl.getD (n+2+j) 0-c) % 18446744073709551616-br) % 18446744073709551616)/9223372036854775808:Nat):Int) != 0)))):=by
 have ej:True:=trivial
 have ek:True:=trivial
 have es:True:=trivial
 have eV:True:=trivial
 have nk:True:=trivial
 have mg:True:=trivial
 have oD:True:=trivial
 have o8:True:=trivial
 have qA:True:=trivial
 have nm:True:=trivial
 have nU:True:=trivial
 have iY:True:=trivial
 have qQ:True:=trivial
 have rX:True:=trivial
 have nz:True:=trivial
 have oY:True:=trivial
 have pQ:True:=trivial
 have pB:True:=trivial
 have kX:True:=trivial
 have nk:((j:Int)+((n+2:Nat):Int)).toNat=n+2+j:=by omega
 have mg:((j:Int)+((n+2:Nat):Int)-1).toNat=n+1+j:=by omega
 have oD:((j:Int)+((n+2:Nat):Int)-2).toNat=n+j:=by omega
 have nm:(((n+2:Nat):Int)-1).toNat=n+1:=by omega
 have nU:(((n+2:Nat):Int)-2).toNat=n:=by omega
 have ek:(((j+1:Nat):Int)-1)=(j:Int):=by omega
 have acX:=gH ((val b*2 ^ s)) (n+1)
 have yz:=gH ((val b*2 ^ s)) n
 have hu0:=gS fA (n+2+j)
 have vg:=gS fA (n+1+j)
 have rL:=gS fA (n+j)
 have hz:=afL (n:=n+2) (j:=j) sK bE
 obtain⟨aeI,ug,hv6⟩:=aqK (n:=n+2) J gU mC hc xT rfl rfl
 have jl:=gS gU (n+2+j)
 refine abX rfl ?_
 refine aC rfl ?_ ?_<;>intro aDj aDH
 ·have kh:((18446744073709551616+(18446744073709551616+wl.getD (n+2+j) 0-c) % 18446744073709551616-br) % 18446744073709551616)/9223372036854775808=1:=by omega
  have hgt:=ay4 (V:=(val b*2 ^ s)) (n:=n+2) (j:=j) (x:=x) (ul:=(wl.set (n+2+j) (((18446744073709551616+(18446744073709551616+wl.getD (n+2+j) 0-c) % 18446744073709551616-br) % 18446744073709551616) % 4294967296))) (ul0:=ul) (by rw [hv6,kh,Nat.mul_one]) (aBg aeI (fun p hp=>by rw [Go.Lg.getD_set_ne _ _ _ _ J,zH p J];exact hz p hp)) jM
  have fw:1<=x:=Nat.lt_of_le_of_lt (Nat.zero_le _) hgt
  refine aJ ?_
  refine ak rfl (.bin rfl rfl (amb (show 1<=x by omega) J)) ?_
  refine im ?_
  refine rH (fun(ii:Nat) (w3:List Nat) (c3:Nat) L=>((((((((((((St.mk L.slot (hp [(1001057,⟨1,w3.map bh,true⟩),(1001105,⟨1,(gC ((al (val b)).length+1) (val b*2 ^ s)).map bh,false⟩),(77,⟨1,ql.map bh,true⟩)])).put (some 4) (.ref 77 1 0 q0)).put (some 9) (ah s)).put (some 10) (.ref 1001057 1 0 (m+1))).put (some 11) (ba (val b*2 ^ s))).put (some 12) (ah (n+2))).put (some 13) (iL (((j+1:Nat):Int)-1))).put (some 15) (cC (x-1))).put (some 18) (cC c3)).put (some 214) (ba (val b*2 ^ s))).put (some 215) (ah (n+2))).put (some 216) (ah ii))) (fun ii w3 c3=>ii<=n+2/\w3.length=m+1/\bM w3/\c3<=1/\val w3+4294967296 ^ (ii+j)*c3=val (wl.set (n+2+j) (((18446744073709551616+(18446744073709551616+wl.getD (n+2+j) 0-c) % 18446744073709551616-br) % 18446744073709551616) % 4294967296))+4294967296 ^ j*val ((al (val b*2 ^ s)).take ii)/\∀ p,n+2+j+1<=p->w3.getD p 0=0) (fun ii w3 c3=>n+2-ii) 0 (wl.set (n+2+j) (((18446744073709551616+(18446744073709551616+wl.getD (n+2+j) 0-c) % 18446744073709551616-br) % 18446744073709551616) % 4294967296)) 0 ⟨Nat.zero_le _,by simp [gM],aeI,J,by simp [val],fun p hp=>by rw [Go.Lg.getD_set_ne _ _ _ _ J,zH p J];exact hz p hp⟩ (h0:=⟨_,aw.of_eq (aj (aj (aj (aj (aj (aj (aj (aj (aj (aj (aj (bz eB) eB) eB) eB) eB) eB) eB) eB) eB) eB) eB) eB)⟩) ?_
  rintro ii w3 c3 L4 ⟨hi3,hw3,lH,hc3,hv7,hz7⟩
  have qQ:((ii:Int)+(j:Int)).toNat=ii+j:=by omega
  have aC4:=gH (val b*2 ^ s) ii
  have aDv:=gS lH (ii+j)
  refine aA ?_
  refine aC rfl ?_ ?_<;>intro aDX aDu
  ·refine atS ?_
   exact p7 (ii+1) (w3.set (ii+j) ((c3+(w3.getD (ii+j) 0+(al (val b*2 ^ s)).getD ii 0)) % 4294967296)) ((c3+(w3.getD (ii+j) 0+(al (val b*2 ^ s)).getD ii 0))/4294967296) (by
    obtain⟨g1,g2⟩:=aCH J lH hv7 (s:=(c3+(w3.getD (ii+j) 0+(al (val b*2 ^ s)).getD ii 0))) rfl
    exact⟨J,by simp [hw3],g1,J,g2,fun p hp=>by rw [Go.Lg.getD_set_ne _ _ _ _ J];exact hz7 p hp⟩) (he:=aw.of_eq (aj (aj (aj (aj (aj (aj (aj (aj (aj (aj (aj (bz eB) eB) eB) eB) eB) eB) eB) eB) eB) eB) eB) eB))
  ·obtain rfl:ii=n+2:=by omega
   rw [List.take_of_length_le J,bU] at hv7
   have aDp:=gS lH (n+2+j)
   have hxe:x-1=val ul/4294967296 ^ j/(val b*2 ^ s):=by omega
   have aA5:4294967296 ^ j*((x-1)*(val b*2 ^ s))<=val ul:=by rw [hxe];exact Nat.le_trans (Nat.mul_le_mul_left _ (Nat.div_mul_le_self _ _)) (Nat.mul_div_le _ _)
   have jQ:=awm (ul:=(wl.set (n+2+j) (((18446744073709551616+(18446744073709551616+wl.getD (n+2+j) 0-c) % 18446744073709551616-br) % 18446744073709551616) % 4294967296))) (ul0:=ul) (n:=n+2) (j:=j) (x:=x) (V:=(val b*2 ^ s)) (ul3:=w3) (c:=c3) J aA5 (by rw [hv6,kh,Nat.mul_one]) J lH hz7 hc3 hv7 rfl
   refine dk ?_
   refine ak rfl (.bin rfl rfl (aty)) ?_
   refine aJ ?_
   exact zI (hQ (w3.set (n+2+j) ((w3.getD (n+2+j) 0+c3) % 4294967296)) (x-1) _ ⟨hxe,by simp [hw3],jQ.1,jQ.2⟩) (aj (aj (aj (aj (aj (aj (aj (bz cl) cl) cl) cl) cl) cl) cl) cl)
 ·have jv:((18446744073709551616+(18446744073709551616+wl.getD (n+2+j) 0-c) % 18446744073709551616-br) % 18446744073709551616)/9223372036854775808=0:=by omega
  rw [jv,Nat.mul_zero,Nat.add_zero] at hv6
  have hxF:x=val ul/4294967296 ^ j/(val b*2 ^ s):=by have:=aAF hv6 jM;omega
  refine ar ?_
  exact zI (hQ ((wl.set (n+2+j) (((18446744073709551616+(18446744073709551616+wl.getD (n+2+j) 0-c) % 18446744073709551616-br) % 18446744073709551616) % 4294967296))) (x) _ ⟨hxF,by simp [gM],aeI,hv6⟩) (aj (aj (aj (aj (aj (aj (aj (bz cl) cl) cl) cl) cl) cl) cl) cl)
open aap in
theorem aBf (b ul ql:List Nat) (n s m q0 j:Nat) (iP:(al (val b*2 ^ s)).length=n+2) (jc:n+2<=m) (mi:m<=1099511627776) (mS:q0=m+1-(n+2)) (hk:j+1<=q0) (ky:ul.length=m+1) (iK:ql.length=q0) (fA:bM ul) (kv:bM ql) (ry:2147483648<=(al (val b*2 ^ s)).getD (n+1) 0) (jM:0<(val b*2 ^ s)) (sK:(val b*2 ^ s)<4294967296 ^ (n+2)) (bE:val ul<(val b*2 ^ s)*4294967296 ^ (j+1)) {Q:iM->St->Prop} (L1:St)
  (hQ:∀ (w4:List Nat) (x4:Nat) (L2:St),(x4=val ul/4294967296 ^ j/(val b*2 ^ s)/\w4.length=m+1/\bM w4/\val w4+4294967296 ^ j*(x4*(val b*2 ^ s))=val ul)->Q .normal (((((((St.mk L2.slot (hp [(1001057,⟨1,w4.map bh,true⟩),(1001105,⟨1,(gC ((al (val b)).length+1) (val b*2 ^ s)).map bh,false⟩),(77,⟨1,(ql.set j (x4 % 4294967296)).map bh,true⟩)])).put (some 4) (.ref 77 1 0 q0)).put (some 9) (ah s)).put (some 10) (.ref 1001057 1 0 (m+1))).put (some 11) (ba (val b*2 ^ s))).put (some 12) (ah (n+2))).put (some 13) (iL (((j+1:Nat):Int)-1)))) :
  cy Tryz.prog ((zA Tryz.f236 [1,1,1,1,1,1,1,0,1,0,0,1,0]).getD .skip) Q (((((((St.mk L1.slot (hp [(1001057,⟨1,ul.map bh,true⟩),(1001105,⟨1,(gC ((al (val b)).length+1) (val b*2 ^ s)).map bh,false⟩),(77,⟨1,ql.map bh,true⟩)])).put (some 4) (.ref 77 1 0 q0)).put (some 9) (ah s)).put (some 10) (.ref 1001057 1 0 (m+1))).put (some 11) (ba (val b*2 ^ s))).put (some 12) (ah (n+2))).put (some 13) (iL (((j+1:Nat):Int)-1))):=by
 have ej:True:=trivial
 have ek:True:=trivial
 have es:True:=trivial
 have eV:True:=trivial
 have nk:True:=trivial
 have mg:True:=trivial
 have oD:True:=trivial
 have o8:True:=trivial
 have qA:True:=trivial
 have nm:True:=trivial
 have nU:True:=trivial
 have iY:True:=trivial
 have qQ:True:=trivial
 have rX:True:=trivial
 have nz:True:=trivial
 have oY:True:=trivial
 have pQ:True:=trivial
 have pB:True:=trivial
 have kX:True:=trivial
 have nk:((j:Int)+((n+2:Nat):Int)).toNat=n+2+j:=by omega
 have mg:((j:Int)+((n+2:Nat):Int)-1).toNat=n+1+j:=by omega
 have oD:((j:Int)+((n+2:Nat):Int)-2).toNat=n+j:=by omega
 have nm:(((n+2:Nat):Int)-1).toNat=n+1:=by omega
 have nU:(((n+2:Nat):Int)-2).toNat=n:=by omega
 have ek:(((j+1:Nat):Int)-1)=(j:Int):=by omega
 have acX:=gH ((val b*2 ^ s)) (n+1)
 have yz:=gH ((val b*2 ^ s)) n
 have hu0:=gS fA (n+2+j)
 have vg:=gS fA (n+1+j)
 have rL:=gS fA (n+j)
 have hz:=afL (n:=n+2) (j:=j) sK bE
 refine abX rfl ?_
 refine aL ?_
 refine aY 18 an ?_
 refine yS ?_
 refine aY 18 an ?_
 refine aR ?_
 refine ak rfl (.bin rfl rfl (aez (by simp only [nm,fb];omega) J)) ?_
 refine aR ?_
 refine ak rfl (.bin rfl rfl (ajM (by simp only [nm,fb];omega))) ?_
 refine a6 ?_
 refine acO (S:=fun L=>(((((((((St.mk L.slot (hp [(1001057,⟨1,ul.map bh,true⟩),(1001105,⟨1,(gC ((al (val b)).length+1) (val b*2 ^ s)).map bh,false⟩),(77,⟨1,ql.map bh,true⟩)])).put (some 4) (.ref 77 1 0 q0)).put (some 9) (ah s)).put (some 10) (.ref 1001057 1 0 (m+1))).put (some 11) (ba (val b*2 ^ s))).put (some 12) (ah (n+2))).put (some 13) (iL (((j+1:Nat):Int)-1))).put (some 15) (cC ((ul.getD (n+2+j) 0*4294967296+ul.getD (n+1+j) 0)/(al (val b*2 ^ s)).getD (n+1) 0))).put (some 16) (cC ((ul.getD (n+2+j) 0*4294967296+ul.getD (n+1+j) 0) % (al (val b*2 ^ s)).getD (n+1) 0)))) (aj (aj (aj (aj (aj (aj (aj (aj (bz cl) cl) cl) cl) cl) cl) cl) cl) cl) ?_
 refine ayn b ul ql n s m q0 j iP jc mi mS hk ky iK fA kv ry jM sK bE _ ?_
 rintro x LQ ⟨eT,p9,hxB⟩
 refine gz ?_
 refine acO (S:=fun L=>(((((((((((((St.mk L.slot (hp [(1001057,⟨1,ul.map bh,true⟩),(1001105,⟨1,(gC ((al (val b)).length+1) (val b*2 ^ s)).map bh,false⟩),(77,⟨1,ql.map bh,true⟩)])).put (some 4) (.ref 77 1 0 q0)).put (some 9) (ah s)).put (some 10) (.ref 1001057 1 0 (m+1))).put (some 11) (ba (val b*2 ^ s))).put (some 12) (ah (n+2))).put (some 13) (iL (((j+1:Nat):Int)-1))).put (some 15) (cC x)).put (some 17) (cC 0)).put (some 18) (cC 0)).put (some 154) (ba (val b*2 ^ s))).put (some 155) (ah (n+2))).put (some 156) (ah 0))) (aj (aj (aj (aj (aj (aj (aj (aj (aj (aj (aj (aj (bz cl) cl) cl) cl) cl) cl) cl) cl) cl) cl) cl) cl) cl) ?_
 refine aw8 b ul ql n s m q0 j iP jc mi mS hk ky iK fA kv ry jM sK bE x eT hxB _ ?_
 rintro wl c br LQ ⟨gM,gU,hc,mC,xT,zH⟩
 obtain⟨aeI,ug,hv6⟩:=aqK (n:=n+2) J gU mC hc xT rfl rfl
 have jl:=gS gU (n+2+j)
 refine bp ?_
 refine ak rfl (.bin rfl rfl (ac0 J)) ?_
 refine ar ?_
 refine ak rfl (.bin rfl rfl (ac0 J)) ?_
 refine xL ?_
 refine acO (S:=fun L=>((((((((((St.mk L.slot (hp [(1001057,⟨1,(wl.set (n+2+j) (((18446744073709551616+(18446744073709551616+wl.getD (n+2+j) 0-c) % 18446744073709551616-br) % 18446744073709551616) % 4294967296)).map bh,true⟩),(1001105,⟨1,(gC ((al (val b)).length+1) (val b*2 ^ s)).map bh,false⟩),(77,⟨1,ql.map bh,true⟩)])).put (some 4) (.ref 77 1 0 q0)).put (some 9) (ah s)).put (some 10) (.ref 1001057 1 0 (m+1))).put (some 11) (ba (val b*2 ^ s))).put (some 12) (ah (n+2))).put (some 13) (iL (((j+1:Nat):Int)-1))).put (some 15) (cC x)).put (some 22) (cC ((18446744073709551616+(18446744073709551616+wl.getD (n+2+j) 0-c) % 18446744073709551616-br) % 18446744073709551616))).put (some 211) (.v (.bool (((((18446744073709551616+(18446744073709551616+wl.getD (n+2+j) 0-c) % 18446744073709551616-br) % 18446744073709551616)/9223372036854775808:Nat):Int) != 0))))) (aj (aj (aj (aj (aj (aj (aj (aj (aj (bz cl) cl) cl) cl) cl) cl) cl) cl) cl) cl) ?_
 refine auh b ul ql n s m q0 j iP jc mi mS hk ky iK fA kv ry jM sK bE x eT p9 hxB wl c br gM gU hc mC xT zH _ ?_
 rintro w4 x4 LQ ⟨hx4,hw4,hl4,hv8⟩
 have hRV:val ul/4294967296 ^ j<(val b*2 ^ s)*4294967296:=by
  obtain⟨_,_,_,_,_,_,h⟩:=agv (j:=j) iP J fA bE
  exact h
 have hqB:val ul/4294967296 ^ j/(val b*2 ^ s)<4294967296:=by rw [Nat.div_lt_iff_lt_mul jM,Nat.mul_comm];exact hRV
 have agx:x4<4294967296:=by rw [hx4];exact hqB
 have akd:x4 % 4294967296=x4:=Nat.mod_eq_of_lt agx
 refine bC ?_
 exact zI (hQ (w4) (x4) _ ⟨hx4,hw4,hl4,hv8⟩) (aj (aj (aj (aj (aj (aj (bz cl) cl) cl) cl) cl) cl) cl)
open aap in
theorem axC (b ul ql:List Nat) (s m q0 T:Nat) (qi:s<32) (mi:m<=1099511627776) (ky:ul.length=m+1) (fA:bM ul) (hTm:T<=m+1) (hTz:∀ p,T<=p->ul.getD p 0=0) (yZ:ul.getD 0 0 % 2 ^ s=0) {Q:iM->St->Prop} (L1:St)
  (hQ:∀ (w:List Nat) (L2:St),(w.length=m+1/\bM w/\2 ^ s*val (w.take T)=val (ul.take T)+4294967296 ^ T*(ul.getD T 0 % 2 ^ s))->Q .normal (((St.mk L2.slot (hp [(1001057,⟨1,w.map bh,true⟩),(1001105,⟨1,(gC ((al (val b)).length+1) (val b*2 ^ s)).map bh,false⟩),(77,⟨1,ql.map bh,true⟩)])).put (some 4) (.ref 77 1 0 q0)).put (some 5) (.ref 1001057 1 0 T))) :
  cy Tryz.prog ((zA Tryz.f236 [1,1,1,1,1,1,1,1,1,0,1]).getD .skip) Q (((((((St.mk L1.slot (hp [(1001057,⟨1,ul.map bh,true⟩),(1001105,⟨1,(gC ((al (val b)).length+1) (val b*2 ^ s)).map bh,false⟩),(77,⟨1,ql.map bh,true⟩)])).put (some 4) (.ref 77 1 0 q0)).put (some 5) (.ref 1001057 1 0 T)).put (some 9) (ah s)).put (some 260) (.ref 1001057 1 0 T)).put (some 261) (ah T)).put (some 262) (ah 0)):=by
 have ej:True:=trivial
 have ek:True:=trivial
 have es:True:=trivial
 have eV:True:=trivial
 have nk:True:=trivial
 have mg:True:=trivial
 have oD:True:=trivial
 have o8:True:=trivial
 have qA:True:=trivial
 have nm:True:=trivial
 have nU:True:=trivial
 have iY:True:=trivial
 have qQ:True:=trivial
 have rX:True:=trivial
 have nz:True:=trivial
 have oY:True:=trivial
 have pQ:True:=trivial
 have pB:True:=trivial
 have kX:True:=trivial
 have iP:True:=trivial
 refine abX rfl ?_
 refine ar ?_
 refine jP (fun(i:Nat) (w:List Nat) L=>(((((((St.mk L.slot (hp [(1001057,⟨1,w.map bh,true⟩),(1001105,⟨1,(gC ((al (val b)).length+1) (val b*2 ^ s)).map bh,false⟩),(77,⟨1,ql.map bh,true⟩)])).put (some 4) (.ref 77 1 0 q0)).put (some 5) (.ref 1001057 1 0 T)).put (some 9) (ah s)).put (some 260) (.ref 1001057 1 0 T)).put (some 261) (ah T)).put (some 262) (ah i))) (fun i w=>i<=T/\w.length=m+1/\bM w/\(∀ p,i<=p->w.getD p 0=ul.getD p 0)/\2 ^ s*val (w.take i)=val (ul.take i)+4294967296 ^ i*(ul.getD i 0 % 2 ^ s)) (fun i w=>T-i) 0 ul ⟨Nat.zero_le _,ky,fA,fun _ _=>rfl,by rw [yZ];simp [val]⟩ ?_
 rintro i w L5 ⟨hi,gM,gU,hz9,xk⟩
 have kX:((i:Int)+1).toNat=i+1:=by omega
 have hwi:=gS gU i
 have aDZ:=gS fA (i+1)
 have nz:=hz9 i (Nat.le_refl _)
 have oY:=hz9 (i+1) J
 have hui:=gS fA i
 obtain⟨hh1,hh2⟩:=ajf (z:=ul.getD (i+1) 0) (show s<=32 by omega) hui
 have hh3:ul.getD i 0/2 ^ s<4294967296:=by omega
 refine aA ?_
 refine aC rfl ?_ ?_<;>intro aD3 aDB
 ·have pQ:(w.set i (ul.getD i 0/2 ^ s)).getD i 0=ul.getD i 0/2 ^ s:=amf _ _ _ J
  have pB:(w.set i (ul.getD i 0/2 ^ s)).getD (i+1) 0=ul.getD (i+1) 0:=by rw [Go.Lg.getD_set_ne _ _ _ _ J];exact oY
  refine im ?_
  refine ak rfl (.sh rfl rfl (adN (m:=s) (by show s<=32;omega))) ?_
  refine bq ?_
  refine dy 274 rfl ?_ ?_<;>intro aDs aD8
  ·refine bf ?_
   refine aC rfl ?_ ?_<;>intro aDx aDz
   ·refine aY 14 an ?_
    refine bp ?_
    refine ak rfl (.sh rfl rfl (aBp (s:=s) J)) ?_
    refine ak rfl (.bin rfl rfl (avI (by simp only [e1,e2,e3,e4,p1,p2,p3,q1,q2,q3,l1,t0,t1,r1,r2,r3,r4,Nat.zero_add,Nat.reduceMul,Nat.reduceAdd,b1,b2,b3,b4,b5,b6,i1,i2,i3,i4,i5,i6,Nat.reduceBEq,fb,nz,oY,pQ,pB,kX];exact hh1) (by simp only [e1,e2,e3,e4,p1,p2,p3,q1,q2,q3,l1,t0,t1,r1,r2,r3,r4,Nat.zero_add,Nat.reduceMul,Nat.reduceAdd,b1,b2,b3,b4,b5,b6,i1,i2,i3,i4,i5,i6,Nat.reduceBEq,fb,nz,oY,pQ,pB,kX];exact hh2))) ?_
    refine bC ?_
    exact fZ (i+1) (w.set i (ul.getD (i+1) 0 % 2 ^ s*2 ^ (32-s)+ul.getD i 0/2 ^ s)) ⟨J,by simp [gM],kZ gU _ _ hh2,fun p hp=>by rw [Go.Lg.getD_set_ne _ _ _ _ J];exact hz9 p J,ahT J qi nz xk (Nat.add_comm _ _)⟩
   ·refine bf ?_
    exact fZ (i+1) (w.set i (ul.getD i 0/2 ^ s)) ⟨J,by simp [gM],kZ gU _ _ hh3,fun p hp=>by rw [Go.Lg.getD_set_ne _ _ _ _ J];exact hz9 p J,ahT J qi nz xk (by rw [hTz (i+1) J];simp)⟩
  ·refine im ?_
   exact fZ (i+1) (w.set i (ul.getD i 0/2 ^ s)) ⟨J,by simp [gM],kZ gU _ _ hh3,fun p hp=>by rw [Go.Lg.getD_set_ne _ _ _ _ J];exact hz9 p J,ahT J qi nz xk (by rw [show s=0 by omega];simp [Nat.mod_one])⟩
 ·obtain rfl:i=T:=by omega
  refine ax ?_
  exact zI (hQ (w) _ ⟨gM,gU,xk⟩) (aj (aj (bz cl) cl) cl)
open aap in
theorem aei (a b:List Nat) (ha:bM a) (hb:bM b) (eZ:a.length<=1099511627776) (lg:b.length<=1099511627776) (fo:0<val b):av Tryz.prog 236 [eg a,eg b] (.a7 [ba (val a/val b),ba (val a % val b),iL 0]):=by
 have zh:=zM a ha eZ
 have afK:=zM b hb lg
 have aEa:(al (val b)).length≠0:=fun h=>by have:=pW.1 (List.eq_nil_of_length_eq_zero h);omega
 refine aN Tryz.func236 ?_
 have ej:True:=trivial
 have ek:True:=trivial
 have es:True:=trivial
 have eV:True:=trivial
 have nk:True:=trivial
 have mg:True:=trivial
 have oD:True:=trivial
 have o8:True:=trivial
 have qA:True:=trivial
 have nm:True:=trivial
 have nU:True:=trivial
 have iY:True:=trivial
 have qQ:True:=trivial
 have rX:True:=trivial
 have nz:True:=trivial
 have oY:True:=trivial
 have pQ:True:=trivial
 have pB:True:=trivial
 have kX:True:=trivial
 have iP:True:=trivial
 refine bC ?_
 refine cp aK (oP _ gZ qK) ?_
 refine ar ?_
 refine cp aK (oP _ gZ qK) ?_
 refine dk ?_
 refine aC rfl ?_ ?_<;>intro aaC yx
 ·exfalso
  omega
 ·refine ax ?_
  refine cp aq (acG _ _ gZ gZ J J) ?_
  refine ax ?_
  refine aC rfl ?_ ?_<;>intro aeB yh
  ·have bE:val a<val b:=by
    apply Classical.byContradiction
    intro hh
    rcases Nat.lt_or_eq_of_le (Nat.le_of_not_lt hh) with h | h
    ·rw [qL h] at yh;omega
    ·rw [rz h.symm] at yh;omega
   refine aJ ?_
   refine cp aK (ab6 _ J) ?_
   refine bf ?_
   rw [Nat.div_eq_of_lt bE,Nat.mod_eq_of_lt bE]
   exact zS [] rfl rfl (.nil 1) rfl (.pure (wy _)) rfl (.pure rfl)
  ·have jf:val b<=val a:=by
    apply Classical.byContradiction
    intro hh
    rw [ox J] at yh;omega
   refine bf ?_
   refine aC rfl ?_ ?_<;>intro aaU h41
   ·have ahB:val b<4294967296:=rj.1 J
    have kh:al (val b)=[val b]:=abB fo ahB
    have pU:(al (val b)).getD 0 0=val b:=by rw [kh];rfl
    have qA:=pU
    have tX:=Nat.mod_lt (val a) fo
    refine aA ?_
    refine cp aq (axQ _ _ (cE _) J (by show 0<(al (val b)).getD 0 0;rw [pU];exact fo) (gH _ _)) ?_
    refine a6 ?_
    refine qj rB ?_
    refine aA ?_
    refine pC [55] pv (oP [val a % val b] (asY J) aO) ?_
    refine aJ ?_
    refine qj nf2 ?_
    refine ax ?_
    exact ab4
   ·obtain⟨n,hn⟩:∃ n,(al (val b)).length=n+2:=⟨(al (val b)).length-2,J⟩
    obtain⟨m,hm⟩:∃ m,(al (val a)).length=m:=⟨_,rfl⟩
    have o8:=hm
    have mi:m<=1099511627776:=by omega
    have jc:n+1+1<=m:=by rw [<-hm];have:=mH jf;omega
    have ej:(((al (val b)).length:Int)-1).toNat=n+1:=by omega
    obtain⟨s,hs⟩:∃ s,s=32-di ((al (val b)).getD (n+1) 0):=⟨_,rfl⟩
    have atz:di ((al (val b)).getD (n+1) 0)<=32:=sJ.2 (gH _ _)
    have es:(32:Int)-((di ((al (val b)).getD (n+1) 0):Nat):Int)=((s:Nat):Int):=by rw [apx atz,hs]
    obtain⟨qi,iP,afY,sK⟩:=aqu (n:=n+1) hn hs
    have jM:0<val b*2 ^ s:=Nat.mul_pos fo (Nat.pow_pos J)
    have eV:val (gC ((al (val b)).length+1) (val b*2 ^ s))=val b*2 ^ s:=ahy (by rw [hn];exact Nat.lt_of_lt_of_le sK (Nat.pow_le_pow_right J J))
    have ry:=alI iP afY
    have acX:=gH (val b*2 ^ s) (n+1)
    have yz:=gH (val b*2 ^ s) n
    obtain⟨aAt,axz⟩:=ayV (n:=n+1) qi hm jc afY
    obtain⟨q0,mS⟩:∃ q0,q0=m+1-(n+2):=⟨_,rfl⟩
    have rX:((m:Int)+1-((n+2:Nat):Int))=((q0:Nat):Int):=by omega
    have nm:(((n+2:Nat):Int)-1).toNat=n+1:=by omega
    have nU:(((n+2:Nat):Int)-2).toNat=n:=by omega
    have hB1:val (gC (m+1) (val a*2 ^ s))=val a*2 ^ s:=ahy axz
    refine bp ?_
    refine cp aK (aBP _ (gH _ _)) ?_
    refine aR ?_
    refine y7 [] rfl rfl (.cons (.pure (iQ _)) (.cons (.pure rfl) .nil)) (akg (val a) s J qi) (aW ff _) rfl ?_
    refine aL ?_
    refine y7 [] rfl rfl (.cons (.pure (iQ _)) (.cons (.pure rfl) .nil)) (akg (val b) s J qi) (aW ff _) rfl ?_
    refine aeD [1001105] rfl rfl (.cons (eN ff rfl rfl (aaN _ _).symm) .nil) (oP (gC ((al (val b)).length+1) (val b*2 ^ s)) (aiv _ _) (by rw [aaN];omega)) ?_
    refine aL ?_
    refine qj nf3 ?_
    refine aA ?_
    refine qj nf4 ?_
    refine aR ?_
    refine eH rfl rfl (.kM (n:=q0) (m:=q0) ml ml om om om) ?_
    refine dj ?_
    refine rH (fun(k:Nat) (ul ql:List Nat) L=>(((((((St.mk L.slot (hp [(1001057,⟨1,ul.map bh,true⟩),(1001105,⟨1,(gC ((al (val b)).length+1) (val b*2 ^ s)).map bh,false⟩),(77,⟨1,ql.map bh,true⟩)])).put (some 4) (.ref 77 1 0 q0)).put (some 9) (ah s)).put (some 10) (.ref 1001057 1 0 (m+1))).put (some 11) (ba (val b*2 ^ s))).put (some 12) (ah (n+2))).put (some 13) (iL ((k:Int)-1)))) (fun k ul ql=>k<=q0/\ul.length=m+1/\ql.length=q0/\bM ul/\bM ql/\val ul+(val b*2 ^ s)*4294967296 ^ k*val (ql.drop k)=val a*2 ^ s/\val ul<(val b*2 ^ s)*4294967296 ^ k) (fun k ul ql=>k) q0 (gC (m+1) (val a*2 ^ s)) (List.replicate q0 0) ⟨Nat.le_refl _,aaN _ _,by simp,aiv _ _,sT _,by rw [List.drop_of_length_le aO,hB1];simp [val],by rw [hB1,mS];exact aAt⟩ (h0:=⟨_,aw.of_eq (aj (aj (aj (aj (aj (aj (bz qC) qC) qC) qC) qC) qC) qC)⟩) ?_
    rintro k ul ql L1 ⟨hk,ky,iK,fA,kv,hv,bE⟩
    refine aR ?_
    refine aC rfl ?_ ?_<;>intro aDe h82
    ·obtain⟨j,rfl⟩:∃ j,k=j+1:=⟨k-1,J⟩
     have ek:(((j+1:Nat):Int)-1)=(j:Int):=by omega
     refine aJ ?_
     refine acO (S:=fun L=>(((((((St.mk L.slot (hp [(1001057,⟨1,ul.map bh,true⟩),(1001105,⟨1,(gC ((al (val b)).length+1) (val b*2 ^ s)).map bh,false⟩),(77,⟨1,ql.map bh,true⟩)])).put (some 4) (.ref 77 1 0 q0)).put (some 9) (ah s)).put (some 10) (.ref 1001057 1 0 (m+1))).put (some 11) (ba (val b*2 ^ s))).put (some 12) (ah (n+2))).put (some 13) (iL (((j+1:Nat):Int)-1)))) (aj (aj (aj (aj (aj (aj (bz cl) cl) cl) cl) cl) cl) cl) ?_
     refine aBf b ul ql n s m q0 j iP jc mi mS hk ky iK fA kv ry jM sK bE _ ?_
     rintro w4 x4 LQ ⟨hx4,hw4,hl4,hv8⟩
     have hRV:val ul/4294967296 ^ j<(val b*2 ^ s)*4294967296:=by
      obtain⟨_,_,_,_,_,_,h⟩:=agv (j:=j) iP J fA bE
      exact h
     have hqB:val ul/4294967296 ^ j/(val b*2 ^ s)<4294967296:=by rw [Nat.div_lt_iff_lt_mul jM,Nat.mul_comm];exact hRV
     have agx:x4<4294967296:=by rw [hx4];exact hqB
     have akd:x4 % 4294967296=x4:=Nat.mod_eq_of_lt agx
     obtain⟨mj,lr⟩:=alO (j:=j) jM hx4 hv8 J hv
     refine aR ?_
     exact p7 j w4 (ql.set j (x4 % 4294967296)) ⟨J,hw4,by simp [iK],hl4,kZ kv _ _ J,by rw [akd];exact mj,lr⟩ (he:=aw.of_eq (aj (aj (aj (aj (aj (aj (bz qC) qC) qC) qC) qC) qC) qC))
    ·obtain rfl:k=0:=by omega
     rw [List.drop_zero,Nat.pow_zero,Nat.mul_one] at hv
     rw [Nat.pow_zero,Nat.mul_one] at bE
     obtain⟨hq,hr⟩:=alK fo hv bE
     obtain⟨T,hT⟩:∃ T,T=ie (m+1) ul:=⟨_,rfl⟩
     have hTm:T<=m+1:=by rw [hT];exact ais _ _
     have hTz:=aBs (l:=ul) (n:=m+1) ky.symm
     rw [<-hT] at hTz
     have yZ:=ak6 J hr
     refine bf ?_
     refine uA 1001057 rfl rfl rfl (aW ff _) (.cons .ref .nil) (.ref J) (aw9 ul (m+1) ky.symm J J) rfl (aW ff _) ?_
     refine ar ?_
     refine qj nf6 ?_
     refine bq ?_
     refine acO (S:=fun L=>(((((((St.mk L.slot (hp [(1001057,⟨1,ul.map bh,true⟩),(1001105,⟨1,(gC ((al (val b)).length+1) (val b*2 ^ s)).map bh,false⟩),(77,⟨1,ql.map bh,true⟩)])).put (some 4) (.ref 77 1 0 q0)).put (some 5) (.ref 1001057 1 0 T)).put (some 9) (ah s)).put (some 260) (.ref 1001057 1 0 T)).put (some 261) (ah T)).put (some 262) (ah 0))) (aj (aj (aj (aj (aj (aj (bz cl) cl) cl) cl) cl) cl) cl) ?_
     refine axC b ul ql s m q0 T qi mi ky fA hTm hTz yZ _ ?_
     rintro w LQ ⟨gM,gU,xk⟩
     rw [hTz T (Nat.le_refl _),Nat.zero_mod,Nat.mul_zero,Nat.add_zero] at xk
     have ze:val (w.take T)=val a % val b:=by
      have e1:=(ae8 ul.length ul (Nat.le_refl _)).2
      rw [List.take_length,ky,<-hT,hr] at e1
      rw [e1,Nat.mul_comm] at xk
      exact Nat.eq_of_mul_eq_mul_right (Nat.pow_pos J) xk
     refine ax ?_
     refine pC [77] pv (oP ql kv J) ?_
     refine ar ?_
     refine pC [1001057] pv (oP (w.take T) (um gU _) bm) ?_
     refine aA ?_
     rw [<-hq,<-ze]
     exact ab4
namespace anW
theorem aH {p q:Prop} (k:q) (e:p=q:=by simp only [e1,e2,e3,e4,p1,p2,p3,q1,q2,q3,l1,t0,t1,r1,r2,r3,r4,Nat.zero_add,Nat.reduceMul,Nat.reduceAdd,b1,b2,b3,b4,b5,b6,i1,i2,i3,i4,i5,i6,Nat.reduceBEq,fb,bU];exact rfl):p:=e.mpr k
end anW
open anW in
theorem aio (a b:List Nat) (ha:bM a) (hb:bM b) (eZ:a.length<=1099511627776) (lg:b.length<=1099511627776):av Tryz.prog 148 [eg a,eg b] (ba (Nat.gcd (val a) (val b))):=by
 have zh:=zM a ha eZ
 have afK:=zM b hb lg
 refine aN Tryz.func148 ?_
 refine bf ?_
 refine cp aK (oP _ gZ qK) ?_
 refine cp aK (ab6 _ J) ?_
 refine ar ?_
 refine cp aK (oP _ gZ qK) ?_
 refine cp aK (ab6 _ J) ?_
 refine aA ?_
 refine jP (fun(x y:Nat) L=>(((St.mk L.slot (hp [])).put (some 5) (ba x)).put (some 6) (ba y))) (fun x y=>Nat.gcd x y=Nat.gcd (val a) (val b)/\(al x).length<=1099511627776/\(al y).length<=1099511627776) (fun x y=>y) (val a) (val b) ⟨rfl,zh,afK⟩ ?_
 rintro x y L1 ⟨hg,hx,hy⟩
 refine bf ?_
 refine aC rfl ?_ ?_<;>intro qt oL
 ·have gR:0<y:=Nat.pos_of_ne_zero (fun h=>by rw [h,tQ] at oL;simp at oL)
  refine aR ?_
  refine cp aq (aei _ _ (cE _) (cE _) J J (by rw [bU];exact gR)) ?_
  refine im ?_
  exact fZ y (x % y) ⟨by rw [Nat.gcd_comm,<-Nat.gcd_rec,Nat.gcd_comm];exact hg,hy,Nat.le_trans (mH (Nat.le_of_lt (Nat.mod_lt x gR))) hy⟩ (hm:=Nat.mod_lt _ gR)
 ·refine dj ?_
  refine aC rfl ?_ ?_<;>intro w9 wQ
  ·have gR:y=0:=pW.1 (List.eq_nil_of_length_eq_zero J)
   refine bf ?_
   subst gR
   rw [<-hg,Nat.gcd_zero_right]
   exact dF
  ·have gR:0<y:=Nat.pos_of_ne_zero (fun h=>by rw [h,tQ] at wQ;simp at wQ)
   refine bC ?_
   refine fT (fun L=>∃ (x2:Nat) (y2:Nat) (L1:St),(Nat.gcd x2 y2=Nat.gcd (val a) (val b)/\(al x2).length<=2/\(al y2).length<=2)/\L=(((St.mk L1.slot (hp [])).put (some 5) (ba x2)).put (some 6) (ba y2))) ?_ ?_
   ·refine aC rfl ?_ ?_<;>intro aDc h39
    ·refine ax ?_
     refine cp aq (aei _ _ (cE _) (cE _) J J (by rw [bU];exact gR)) ?_
     refine mA ?_
     exact⟨y,x % y,_,⟨by rw [Nat.gcd_comm,<-Nat.gcd_rec,Nat.gcd_comm];exact hg,J,Nat.le_trans (mH (Nat.le_of_lt (Nat.mod_lt x gR))) J⟩,((aj (aj (bz cl) cl) cl)).symm⟩
    ·refine aL ?_
     exact⟨x,y,_,⟨hg,J,J⟩,((aj (aj (bz cl) cl) cl)).symm⟩
   ·rintro _ ⟨x2,y2,aC3,⟨yk,p9,hy2⟩,rfl⟩
    refine ax ?_
    refine cp aK (anm _ (cE _) J) ?_
    refine ar ?_
    refine cp aK (anm _ (cE _) J) ?_
    refine aA ?_
    refine jP (fun(m n:Nat) L=>(((St.mk L.slot (hp [])).put (some 13) (cC m)).put (some 14) (cC n))) (fun m n=>Nat.gcd m n=Nat.gcd (val a) (val b)/\m<18446744073709551616/\n<18446744073709551616) (fun m n=>n) x2 y2 ⟨yk,xe.1 p9,xe.1 hy2⟩ ?_
    rintro m n L2 ⟨uT,hm,hn⟩
    refine aR ?_
    refine aC rfl ?_ ?_<;>intro axj h54
    ·refine aJ ?_
     refine aY 6 an ?_
     refine bq ?_
     exact fZ n (m % n) ⟨by rw [Nat.gcd_comm,<-Nat.gcd_rec,Nat.gcd_comm];exact uT,hn,by have:=Nat.mod_lt m (show n > 0 by omega);omega⟩ (hm:=Nat.mod_lt _ J)
    ·obtain rfl:n=0:=by omega
     refine bf ?_
     refine cp aK (ahw _ J) ?_
     refine ax ?_
     rw [<-uT,Nat.gcd_zero_right]
     exact dF
open H0 in
theorem ahh :av Tryz.prog 196 [] (ba 1):=by
 refine aN Tryz.func196 ?_
 refine bu ?_
 rw [show ba 1=.list 1 ([1].map bh) from rfl]
 exact mz [1] rfl rfl (eN ff rfl rfl rfl)
namespace akD
theorem aH {p q:Prop} (k:q) (e:p=q:=by simp only [e1,e2,e3,e4,p1,p2,p3,q1,q2,q3,l1,t0,t1,r1,r2,r3,r4,Nat.zero_add,Nat.reduceMul,Nat.reduceAdd,b1,b2,b3,b4,b5,b6,i1,i2,i3,i4,i5,i6,Nat.reduceBEq,aP ao,cH];exact rfl):p:=e.mpr k
end akD
open akD in
theorem u5 (q:Rat):av Tryz.prog 175 [ae q] (ba q.den):=by
 refine aN Tryz.func175 ?_
 refine gz ?_
 refine aC rfl ?_ ?_<;>intro tj h6
 ·have kh:=ahN (show (al (iD q)).length=0 by omega)
  refine aL ?_
  refine cp zX (ahh) ?_
  refine a6 ?_
  rw [kh]
  exact dF
 ·have kh:=ae0 (q:=q) J
  refine bC ?_
  rw [<-kh]
  exact dF
open ac2 in
theorem ai6 (a:List Nat) (h:bM a) (hl:a.length<=2):av Tryz.prog 246 [eg a] (cC (val a)):=by
 unfold eg
 refine aN Tryz.func246 ?_
 have ej:True:=trivial
 refine nj ?_
 refine jP (fun(k n:Nat) L=>((((St.mk L.slot (hp [])).put (some 0) (.list 1 (a.map bh))).put (some 3) (cC n)).put (some 4) (iL ((k:Int)-1)))) (fun k n=>k<=a.length/\n=val (a.drop k)) (fun k n=>k) a.length 0 ⟨Nat.le_refl _,by simp [val]⟩ ?_
 rintro k n L1 ⟨hk,hn⟩
 refine aR ?_
 refine aC rfl ?_ ?_<;>intro tf h9
 ·obtain⟨j,rfl⟩:∃ j,k=j+1:=⟨k-1,J⟩
  have ej:(((j+1:Nat):Int)-1).toNat=j:=by omega
  have ek:(((j+1:Nat):Int)-1)=j:=by omega
  have hj:=gS h j
  have hnB:=arJ h (k:=j+1) (j:=1) J
  rw [<-hn] at hnB
  refine xL ?_
  exact fZ j (n*4294967296+a.getD j 0) ⟨J,by rw [nv J,hn];omega⟩
 ·obtain rfl:k=0:=by omega
  rw [List.drop_zero] at hn
  refine bu ?_
  rw [<-hn]
  exact dF
open H0 in
theorem aAv (a b:Nat) (ha:a<18446744073709551616) (hb:b<18446744073709551616):av Tryz.prog 281 [cC a,cC b] (cC (Nat.gcd a b)):=by
 refine aN Tryz.func281 ?_
 refine aR ?_
 refine jP (fun(m n:Nat) L=>(((St.mk L.slot (hp [])).put (some 0) (cC m)).put (some 1) (cC n))) (fun m n=>Nat.gcd m n=Nat.gcd a b/\m<18446744073709551616/\n<18446744073709551616) (fun m n=>n) a b ⟨rfl,ha,hb⟩ ?_
 rintro m n L1 ⟨uT,hm,hn⟩
 refine aR ?_
 refine aC rfl ?_ ?_<;>intro tj h6
 ·refine aJ ?_
  refine aY 6 an ?_
  refine bq ?_
  exact fZ n (m % n) ⟨by rw [Nat.gcd_comm,<-Nat.gcd_rec,Nat.gcd_comm];exact uT,hn,by have:=Nat.mod_lt m (show n > 0 by omega);omega⟩ (hm:=Nat.mod_lt _ J)
 ·obtain rfl:n=0:=by omega
  refine bu ?_
  rw [<-uT,Nat.gcd_zero_right]
  exact dF
namespace aoS
theorem aH {p q:Prop} (k:q) (e:p=q:=by simp only [e1,e2,e3,e4,p1,p2,p3,q1,q2,q3,l1,t0,t1,r1,r2,r3,r4,Nat.zero_add,Nat.reduceMul,Nat.reduceAdd,b1,b2,b3,b4,b5,b6,i1,i2,i3,i4,i5,i6,Nat.reduceBEq,fb,List.length_set,Nat.add_zero,eqm,eqz];exact rfl):p:=e.mpr k
end aoS
open aoS in
theorem anh (l:List Nat) (off len n:Nat) (hn:n<18446744073709551616) (h1:1<=len) (h2:4294967296<=n->2<=len) (hl:off+len<=l.length):lE Tryz.prog 282 ⟨1,l.map bh,true⟩ [.ref 0 1 off len,cC n] (ah (kK n)) ⟨1,(nY l off n).map bh,true⟩:=by
 refine tD Tryz.func282 ?_
 have eqm:True:=trivial
 have eqz:True:=trivial
 refine aje ?_
 refine aC rfl ?_ ?_<;>intro aeE zY
 ·have mj:n<4294967296:=by omega
  have eqz:n % 4294967296=n:=Nat.mod_eq_of_lt mj
  refine aR ?_
  simp only [nY,kK,if_pos mj,eqz]
  exact sB rfl (.cf (.pure rfl)) rfl rfl (aW ff _)
 ·have mj:¬ n<4294967296:=by omega
  have eqm:n/4294967296 % 4294967296=n/4294967296:=Nat.mod_eq_of_lt J
  refine nn ?_
  simp only [nY,kK,if_neg mj]
  exact sB rfl (.cf (.pure rfl)) rfl rfl (aW ff _)
theorem auN:val []=0:=rfl
theorem azC (n:Nat):decide (((di n:Nat):Int)=0)=decide (n=0):=by
 rw [decide_eq_decide,<-tZ];omega
theorem x8 {n:Nat} (h:(al n).length=1):(al n).getD 0 0=n/\0<n:=by
 have h0:0<n:=Nat.pos_of_ne_zero (fun e=>by rw [e,tQ] at h;cases h)
 rw [abB h0 (rj.1 J)];exact⟨rfl,h0⟩
namespace anv
theorem aH {p q:Prop} (k:q) (e:p=q:=by simp only [e1,e2,e3,e4,p1,p2,p3,q1,q2,q3,l1,t0,t1,r1,r2,r3,r4,Nat.zero_add,Nat.reduceMul,Nat.reduceAdd,b1,b2,b3,b4,b5,b6,i1,i2,i3,i4,i5,i6,Nat.reduceBEq,aP ao,cH,fb,bU];exact rfl):p:=e.mpr k
end anv
open anv in
theorem yl (q:Rat):av Tryz.prog 171 [ae q] (.a7 [cC (pN q),cC (pD q),bL (vJ q)]):=by
 have hdp:=q.den_pos
 have auS:=tk q
 refine aN Tryz.func171 ?_
 refine mA ?_
 refine dy 9 rfl ?_ ?_<;>intro tf h9
 ·have hs:vJ q=false:=decide_eq_false (fun h=>by have:=rj.2 h.1;omega)
  have jS:True:=trivial
  refine im ?_
  simp only [pN,pD,hs,Bool.false_eq_true,if_false]
  exact zS [] rfl rfl (.pure rfl) rfl (.pure rfl) rfl (.pure rfl)
 ·have mj:=rj.1 (show (al q.num.natAbs).length<=1 by omega)
  refine aR ?_
  refine aC rfl ?_ ?_<;>intro ot jS
  ·have hs:vJ q=false:=by first | exact hs | exact decide_eq_false (fun h=>by have:=axq h.2;omega)
   refine bq ?_
   simp only [pN,pD,hs,Bool.false_eq_true,if_false]
   exact zS [] rfl rfl (.pure rfl) rfl (.pure rfl) rfl (.pure rfl)
  ·have kh:q.den<4294967296:=by
    have:=rj.1 (show (al (iD q)).length<=1 by omega)
    rw [auS] at this;split at this<;>omega
   have hs:vJ q=true:=decide_eq_true ⟨mj,kh⟩
   refine mA ?_
   refine fT (fun L=>∃ (d:Nat) (L1:St),(d=q.den)/\L=(((St.mk L1.slot (hp [(1,⟨3,[ae q],true⟩)])).put (some 1) (.az 1 3 0 0)).put (some 3) (cC d))) ?_ ?_
   ·refine aC rfl ?_ ?_<;>intro rD rZ
    ·have jG:=ae0 (q:=q) J
     have pU:(al (iD q)).getD 0 0=q.den:=by rw [jG,abB hdp kh];rfl
     refine bq ?_
     exact⟨(al (iD q)).getD 0 0,_,pU,((aj (aj (bz cl) cl) cl)).symm⟩
    ·have jG:=ahN (q:=q) J
     refine aL ?_
     exact⟨1,_,jG.symm,((aj (aj (bz cl) cl) cl)).symm⟩
   ·rintro _ ⟨d,aDt,rfl,rfl⟩
    refine a6 ?_
    refine cp aK (ai6 _ (cE _) J) ?_
    refine bq ?_
    simp only [pN,pD,hs,if_true]
    have fo:((q.den:Int) != 0)=true:=by simp;omega
    refine zS [] rfl rfl (.pure rfl) rfl (.pure rfl) (x'':=.v (.bool ((q.den:Int) != 0))) rfl ?_
    rw [fo]
    exact .pure rfl
namespace an2
theorem aH {p q:Prop} (k:q) (e:p=q:=by simp only [e1,e2,e3,e4,p1,p2,p3,q1,q2,q3,l1,t0,t1,r1,r2,r3,r4,Nat.zero_add,Nat.reduceMul,Nat.reduceAdd,b1,b2,b3,b4,b5,b6,i1,i2,i3,i4,i5,i6,Nat.reduceBEq,fb,Nat.sub_zero,Nat.zero_add,Nat.add_sub_cancel_left,Nat.add_zero];exact rfl):p:=e.mpr k
theorem tM {p q:Prop} (k:q) (e:p=q:=by simp only [e1,e2,e3,e4,p1,p2,p3,q1,q2,q3,l1,t0,t1,r1,r2,r3,r4,Nat.zero_add,Nat.reduceMul,Nat.reduceAdd,b1,b2,b3,b4,b5,b6,i1,i2,i3,i4,i5,i6,Nat.reduceBEq,fb,Nat.sub_zero,Nat.zero_add,Nat.add_sub_cancel_left,Nat.add_zero,<-hN,<-hD];exact rfl):p:=e.mpr k
theorem rB {p:Prop} (h:p:=by first | (refine tM ?_;exact rfl) | exact rfl):p:=h
end an2
open an2 in
theorem aa8 (s:Bool) (n d:Nat) (hn:n<18446744073709551616) (jv:0<d) (hd:d<18446744073709551616):av Tryz.prog 245 [bL s,cC n,cC d] (ae (qv s n d)):=by
 refine aN Tryz.func245 ?_
 refine bu ?_
 refine aC rfl ?_ ?_<;>intro adZ h13
 ·refine bf ?_
  obtain rfl:n=0:=by omega
  rw [acp,nP]
  exact aa4
 ·have g7:0<n:=by omega
  have hg:0<Nat.gcd n d:=Nat.gcd_pos_of_pos_left _ g7
  have lr:0<n/Nat.gcd n d:=Nat.div_pos (Nat.le_of_dvd g7 (Nat.gcd_dvd_left n d)) hg
  have ug:0<d/Nat.gcd n d:=Nat.div_pos (Nat.le_of_dvd jv (Nat.gcd_dvd_right n d)) hg
  have vR:n/Nat.gcd n d<18446744073709551616:=Nat.lt_of_le_of_lt (Nat.div_le_self _ _) hn
  have zg:d/Nat.gcd n d<18446744073709551616:=Nat.lt_of_le_of_lt (Nat.div_le_self _ _) hd
  have hE:=ade s g7 jv
  obtain⟨g,hgg⟩:∃ g,g=Nat.gcd n d:=⟨_,rfl⟩
  obtain⟨N,hN⟩:∃ N,N=n/Nat.gcd n d:=⟨_,rfl⟩
  obtain⟨D,hD⟩:∃ D,D=d/Nat.gcd n d:=⟨_,rfl⟩
  rw [<-hN,<-hD] at hE
  rw [<-hN] at lr vR
  rw [<-hD] at ug zg
  have rq:=ac6 lr vR
  have kL:=ac6 ug zg
  obtain⟨jt,uy⟩:=au1 lr vR ug zg
  have dq:=az0 lr vR
  have jF:(nY [0,0,0,0] 0 N).length=4:=ah2 _ _ _
  have mG:(nY (nY [0,0,0,0] 0 N) (kK N) D).length=4:=by rw [ah2,ah2];rfl
  refine aA ?_
  refine cp aq (aAv _ _ J J) ?_
  refine ax ?_
  refine aY 8 an ?_
  refine aL ?_
  refine ak rfl adr ?_
  refine aL ?_
  refine ak rfl adr ?_
  refine aL ?_
  refine qj rB ?_
  refine aJ ?_
  refine eH rfl rfl (.kM (n:=4) (m:=4) ml ml om om om) ?_
  refine aR ?_
  refine uA 24 rfl rfl rfl (aW ff _) (.cons .ref (.cons (.cf (.pure rfl)) .nil)) (.ref ai) (anh [0,0,0,0] 0 4 N vR J J aO) rfl (aW ff _) ?_
  refine bq ?_
  refine ak rfl (.aci (a:=0) (h:=kK N) (mx:=kK N) rfl Tryz.underlying29 pJ (fun y hy=>by cases hy) (fun _=>rfl) rfl rfl J J J J) ?_
  refine bu ?_
  refine aC rfl ?_ ?_<;>intro w9 wQ
  ·refine a6 ?_
   refine ak rfl (.tL (a:=kK N) (h:=4) rfl Tryz.underlying29 pJ (fun y hy=>by cases hy;exact⟨_,rfl⟩) (fun h=>by cases h) (fun y hy=>by cases hy) (fun _=>rfl) J J J) ?_
   refine ar ?_
   refine uA 24 rfl rfl rfl (aW ff _) (.cons .ref (.cons (.cf (.pure rfl)) .nil)) (.ref J) (anh (nY [0,0,0,0] 0 N) (0+kK N) (4-kK N) D zg J J J) rfl (aW ff _) ?_
   refine bq ?_
   refine ak rfl (.aci (a:=kK N) (h:=kK N+kK D) (mx:=kK N+kK D) rfl Tryz.underlying29 pJ (fun y hy=>by cases hy;exact⟨_,rfl⟩) (fun h=>by cases h) rfl rfl J J J J) ?_
   refine bp ?_
   rw [hE,if_neg J]
   exact fS [24] rfl rfl rfl rfl rfl cK (.agg (.cons (.pure rfl) (.cons (ah9 ff rfl rfl J jt) (.cons (ah9 ff rfl rfl J uy) .nil))))
  ·refine bq ?_
   rw [hE,if_pos J]
   exact fS [24] rfl rfl rfl rfl rfl cK (.agg (.cons (.pure rfl) (.cons (ah9 ff rfl rfl J dq) (.cons (.pure rfl) .nil))))
namespace apt
theorem aH {p q:Prop} (k:q) (e:p=q:=by simp only [e1,e2,e3,e4,p1,p2,p3,q1,q2,q3,l1,t0,t1,r1,r2,r3,r4,Nat.zero_add,Nat.reduceMul,Nat.reduceAdd,b1,b2,b3,b4,b5,b6,i1,i2,i3,i4,i5,i6,Nat.reduceBEq,fb,bU,auN,Nat.add_zero];exact rfl):p:=e.mpr k
end apt
open apt in
theorem zU (s:Bool) (a b:List Nat) (ha:bM a) (hb:bM b) (eZ:a.length<=1099511627776) (lg:b.length<=1099511627776):av Tryz.prog 194 [bL s,eg a,eg b] (ae (qv s (val a) (val b))):=by
 have zh:=zM a ha eZ
 have afK:=zM b hb lg
 refine aN Tryz.func194 ?_
 refine aR ?_
 refine fT (fun L=>∃ (t:Bool) (L1:St),(t=decide (val a=0\/val b=0))/\L=((((((St.mk L1.slot (hp [(6,⟨3,[.agg [.v (.bool false),.list 1 [],.list 1 []]],true⟩)])).put (some 0) (bL s)).put (some 1) (eg a)).put (some 2) (eg b)).put (some 6) (.az 6 3 0 0)).put (some 15) (bL t))) ?_ ?_
 ·refine aL ?_
  refine cp aK (aaS _ gZ J) ?_
  refine aL ?_
  refine dy 11 rfl ?_ ?_<;>intro aeE zY
  ·have hz:val a=0:=tZ.1 J
   refine aA ?_
   exact⟨true,_,(decide_eq_true (.inl hz)).symm,((aj (aj (aj (aj (aj (bz cl) cl) cl) cl) cl) cl)).symm⟩
  ·have u9:val a≠0:=fun h=>by rw [tZ.2 h] at zY;exact zY rfl
   refine ar ?_
   refine cp aK (aaS _ gZ J) ?_
   refine ax ?_
   exact⟨decide (((di (val b):Nat):Int)=0),_,by show decide _=_;rw [azC];simp [u9],((aj (aj (aj (aj (aj (bz cl) cl) cl) cl) cl) cl)).symm⟩
 ·rintro _ ⟨t,LR1,ht,rfl⟩
  refine ar ?_
  refine aC rfl ?_ ?_<;>intro nB k6
  ·have hq:qv s (val a) (val b)=0:=by
    rw [ht,decide_eq_true_eq] at nB
    rcases nB with h | h
    ·rw [h];exact acp _ _
    ·rw [h];exact aiT _ _
   refine bf ?_
   rw [hq,nP]
   exact aa4
  ·rw [ht,decide_eq_false_iff_not,not_or] at nB
   have ha0:0<val a:=Nat.pos_of_ne_zero nB.1
   have fo:0<val b:=Nat.pos_of_ne_zero nB.2
   have hg:0<Nat.gcd (val a) (val b):=Nat.gcd_pos_of_pos_left _ ha0
   have hE:=ade s ha0 fo
   have hgl:(al (Nat.gcd (val a) (val b))).length<=1099511627776:=Nat.le_trans (mH (Nat.le_of_dvd ha0 (Nat.gcd_dvd_left _ _))) zh
   have xU:(al (val a/Nat.gcd (val a) (val b))).length<=1099511627776:=Nat.le_trans (mH (Nat.div_le_self _ _)) zh
   have hqb:(al (val b/Nat.gcd (val a) (val b))).length<=1099511627776:=Nat.le_trans (mH (Nat.div_le_self _ _)) afK
   refine ax ?_
   refine fT (fun L=>∃ (t:Bool) (L1:St),(t=decide (a.length<=2/\b.length<=2))/\L=((((((St.mk L1.slot (hp [(6,⟨3,[.agg [.v (.bool false),.list 1 [],.list 1 []]],true⟩)])).put (some 0) (bL s)).put (some 1) (eg a)).put (some 2) (eg b)).put (some 6) (.az 6 3 0 0)).put (some 24) (bL t))) ?_ ?_
   ·refine a6 ?_
    refine dy 20 rfl ?_ ?_<;>intro xw yp
    ·refine aA ?_
     exact⟨decide (((b.length:Nat):Int)<=2),_,by rw [decide_eq_decide];omega,((aj (aj (aj (aj (aj (bz cl) cl) cl) cl) cl) cl)).symm⟩
    ·refine aA ?_
     exact⟨false,_,by symm;rw [decide_eq_false_iff_not];omega,((aj (aj (aj (aj (aj (bz cl) cl) cl) cl) cl) cl)).symm⟩
   ·rintro _ ⟨t,LR3,ht2,rfl⟩
    refine ar ?_
    refine aC rfl ?_ ?_<;>intro pw rn
    ·rw [ht2,decide_eq_true_eq] at pw
     have aC8:=pw.1
     have aDR:=pw.2
     refine ax ?_
     have hva:=rA ha (k:=2) J
     have hvb:=rA hb (k:=2) J
     refine cp aK (ai6 a ha J) ?_
     refine ar ?_
     refine cp aK (ai6 b hb J) ?_
     refine cp fH (aa8 _ _ _ hva fo hvb) ?_
     refine a6 ?_
     exact fk
    ·refine aR ?_
     refine cp aq (aio _ _ gZ gZ J J) ?_
     refine aA ?_
     refine cp aK (aaS _ gZ J) ?_
     refine aJ ?_
     refine fT (fun L=>∃ (x:List Nat) (y:List Nat) (L1:St),(bM x/\bM y/\x.length<=1099511627776/\y.length<=1099511627776/\val x=val a/Nat.gcd (val a) (val b)/\val y=val b/Nat.gcd (val a) (val b))/\L=(((((St.mk L1.slot (hp [(6,⟨3,[.agg [.v (.bool false),.list 1 [],.list 1 []]],true⟩)])).put (some 0) (bL s)).put (some 1) (eg x)).put (some 2) (eg y)).put (some 6) (.az 6 3 0 0))) ?_ ?_
     ·refine aC rfl ?_ ?_<;>intro apr h36
      ·refine ax ?_
       refine cp aq (aei _ _ gZ gZ J J (by rw [bU];exact hg)) ?_
       refine bC ?_
       refine cp aq (aei _ _ gZ gZ J J (by rw [bU];exact hg)) ?_
       refine aR ?_
       exact⟨al (val a/Nat.gcd (val a) (val b)),al (val b/Nat.gcd (val a) (val b)),_,⟨cE _,cE _,xU,hqb,bU _,bU _⟩,((aj (aj (aj (aj (bz cl) cl) cl) cl) cl)).symm⟩
      ·have mb:Nat.gcd (val a) (val b)=1:=awH.1 (by have:=tZ (n:=Nat.gcd (val a) (val b));omega)
       refine aL ?_
       exact⟨a,b,_,⟨ha,hb,eZ,lg,by rw [mb,Nat.div_one],by rw [mb,Nat.div_one]⟩,((aj (aj (aj (aj (bz cl) cl) cl) cl) cl)).symm⟩
     ·rintro _ ⟨x,y,aDF,⟨hx,hy,hlx,hly,hvx,hvy⟩,rfl⟩
      rw [<-hvx,<-hvy] at hE
      have gR:0<val y:=by rw [hvy];exact Nat.div_pos (Nat.le_of_dvd fo (Nat.gcd_dvd_right _ _)) hg
      refine ax ?_
      refine cp aq (agp x [] hx (by intro y hy;cases hy) hlx aO) ?_
      refine ar ?_
      refine cp aq (agp y [] hy (by intro y hy;cases hy) hly aO) ?_
      refine bp ?_
      refine dy 58 rfl ?_ ?_<;>intro am4 h58
      ·refine aR ?_
       refine aC rfl ?_ ?_<;>intro ai5 fx
       ·have kg:val y=1:=by have:=(x8 (n:=val y) J).1;omega
        refine dk ?_
        rw [hE,if_pos kg]
        exact fS [] rfl rfl rfl rfl rfl cK (.agg (.cons (.pure rfl) (.cons (.pure (iQ _)) (.cons (.nil 1) .nil))))
       ·have kg:val y≠1:=by have:=(x8 (n:=val y) J).1;omega
        refine bu ?_
        rw [hE,if_neg kg]
        exact adg
      ·have kg:val y≠1:=fun e=>by rw [e,afc] at h58;exact h58 rfl
       refine nj ?_
       rw [hE,if_neg kg]
       exact adg
open H0 in
theorem agj (n:Int) (h1:-9223372036854775808<=n) (h2:n<=9223372036854775807):av Tryz.prog 195 [iL n] (ba n.natAbs):=by
 refine aN Tryz.func195 ?_
 refine bu ?_
 refine aC rfl ?_ ?_<;>intro h4r h4
 ·refine aL ?_
  refine cp aK (ahw 9223372036854775808 J) ?_
  refine a6 ?_
  rw [show n.natAbs=9223372036854775808 by omega]
  exact dF
 ·refine aA ?_
  refine ak rfl (.neg rfl) ?_
  refine ar ?_
  refine ak rfl (.age (n:=n.natAbs) Tryz.underlying2 Tryz.underlying134 (by simp only [e1,p1,p2,Nat.reduceBEq];rw [aCO J J]) J) ?_
  refine cp aK (ahw n.natAbs J) ?_
  refine ax ?_
  exact dF
theorem sE {P:Program} {L:St} {a u:Nat} {T:TypeId} {b sz:Nat} {x y x' y':LV} {m:Bool} {n:Nat} {ag:Bool} (bs:List Nat) (h0:bs.contains 0=false) (h:L.slot a=.az b sz 0 0) (hb:L.heap b=some ⟨sz,[x],m⟩)
  (hx:x.au=sz) (bV:x.at 0 n ag=some x) (hT:bo P T n ag) (hi:cG (L.bR bs).heap x y) (h':L.slot u=x') (lT:cG (L.bR bs).heap x' y'):nt P [.cell a T,.tmp u] L (.a7 [y,y']) [] :=
 ⟨[x,x'],[y,y'],(L.bR bs).heap,[],.cons ⟨b,sz,0,0,_,x,n,ag,h,hb,rfl,rfl,hx,bV,hT⟩ (.cons h' .nil),pG bs h0,.cons (.cf hi) (.cons (.cf lT) .nil),List.nodup_nil,rfl,fun k b h=>by simp at h,rfl⟩
namespace afl
theorem aH {p q:Prop} (k:q) (e:p=q:=by simp only [e1,e2,e3,e4,p1,p2,p3,q1,q2,q3,l1,t0,t1,r1,r2,r3,r4,Nat.zero_add,Nat.reduceMul,Nat.reduceAdd,b1,b2,b3,b4,b5,b6,i1,i2,i3,i4,i5,i6,Nat.reduceBEq,bU];exact rfl):p:=e.mpr k
end afl
open afl in
theorem uc (n:Int) (h1:-9223372036854775808<=n) (h2:n<=9223372036854775807):av Tryz.prog 107 [iL n] (ae (n:Rat)):=by
 refine aN Tryz.func107 ?_
 refine bC ?_
 refine cp aK (agj _ J J) ?_
 refine cp zX (ahh) ?_
 refine cp fH (zU (decide (n<0)) (al n.natAbs) (al 1) (cE _) (cE _) (Nat.le_trans (xe.2 J) J) (by rw [afc];decide)) ?_
 refine ax ?_
 rw [<-adH n]
 exact fk
open afl in
theorem ain (n d:Int) (h1:-9223372036854775808<=n) (h2:n<=9223372036854775807) (h3:-9223372036854775808<=d) (h4:d<=9223372036854775807) (hd:d≠0):av Tryz.prog 294 [iL n,iL d] (.a7 [ae ((n:Rat)/(d:Rat)),iL 0]):=by
 refine aN Tryz.func294 ?_
 refine dj ?_
 refine aC rfl ?_ ?_<;>intro h7r h7
 ·exact absurd h7 hd
 ·refine bC ?_
  refine cp aK (agj _ J J) ?_
  refine ar ?_
  refine cp aK (agj _ J J) ?_
  refine cp fH (zU (decide (n<0) != decide (d<0)) (al n.natAbs) (al d.natAbs) (cE _) (cE _) (Nat.le_trans (xe.2 J) J) (Nat.le_trans (xe.2 J) J)) ?_
  refine a6 ?_
  rw [<-ac5]
  exact adj
theorem ym {q:Rat} (h:vJ q=true):pN q=q.num.natAbs/\pD q=q.den/\q.num.natAbs<4294967296/\q.den<4294967296:=by
 have h2:=of_decide_eq_true h
 exact⟨by simp [pN,h],by simp [pD,h],h2.1,h2.2⟩
theorem dS {x y k l:Nat} (hx:(al x).length<=k) (hy:(al y).length<=l):(al (x*y)).length<=k+l :=
 uI (yR (qR hx) (qR hy))
theorem agO {x y k:Nat} (hx:(al x).length<=k) (hy:(al y).length<=k):(al (x+y)).length<=k+1 :=
 uI (amL (qR hx) (qR hy))
def aa9 (x y:Nat):List Nat:=if x<y then [] else al (x-y)
def zD (x y:Nat):Int:=if x<y then 7 else 0
theorem aoF (x y:Nat) (hx:(al x).length<=1099511627776) (hy:(al y).length<=1099511627776):av Tryz.prog 249 [ba x,ba y] (.a7 [eg (aa9 x y),iL (zD x y)]):=by
 unfold aa9 zD
 by_cases h:x<y
 ·rw [if_pos h,if_pos h]
  exact azR _ _ (cE _) (cE _) hx hy (by rw [bU,bU];exact h)
 ·rw [if_neg h,if_neg h]
  have:=atX _ _ (cE x) (cE y) hx hy (by rw [bU,bU];omega)
  rw [bU,bU] at this
  exact this
theorem ajc {x y:Nat}:zD x y=0↔y<=x:=by unfold zD;split<;>omega
theorem abZ {x y:Nat} (h:y<=x):aa9 x y=al (x-y):=by unfold aa9;rw [if_neg J]
section
variable {a b:Rat} {s:Bool} {x y d k:Nat}
theorem add_same (hk:0<k) (hx:x*k=a.num.natAbs*b.den) (hy:y*k=b.num.natAbs*a.den) (hd:d*k=a.den*b.den) (h:decide (a<0)=s):a+uk s b=qv s (x+y) d:=by
 have:=aq7 s (n:=a.num.natAbs) (m:=b.num.natAbs) a.den_pos b.den_pos
 rw [<-hx,<-hy,<-hd,<-Nat.add_mul,ai0 s hk] at this
 rw [<-this,uk]
 subst h
 rw [kP]
theorem ah5 (hk:0<k) (hx:x*k=a.num.natAbs*b.den) (hy:y*k=b.num.natAbs*a.den) (hd:d*k=a.den*b.den) (h:decide (a<0)≠s) (hle:y<=x):a+uk s b=qv (decide (a<0)) (x-y) d:=by
 have:=arq (decide (a<0)) s (n:=a.num.natAbs) (m:=b.num.natAbs) a.den_pos b.den_pos h (by rw [<-hx,<-hy];exact Nat.mul_le_mul_right _ hle)
 rw [<-hx,<-hy,<-hd,<-Nat.sub_mul,ai0 _ hk] at this
 rw [<-this,uk,kP]
theorem ah4 (hk:0<k) (hx:x*k=a.num.natAbs*b.den) (hy:y*k=b.num.natAbs*a.den) (hd:d*k=a.den*b.den) (h:decide (a<0)≠s) (hle:x<=y):a+uk s b=qv s (y-x) d:=by
 have:=anw (decide (a<0)) s (n:=a.num.natAbs) (m:=b.num.natAbs) a.den_pos b.den_pos h (by rw [<-hx,<-hy];exact Nat.mul_le_mul_right _ hle)
 rw [<-hx,<-hy,<-hd,<-Nat.sub_mul,ai0 _ hk] at this
 rw [<-this,uk,kP]
end
theorem aiq {a b:Rat} (h:al (iD a)=al (iD b)):a.den=b.den:=by
 have h2:iD a=iD b:=by rw [<-bU (iD a),h,bU]
 rw [tk,tk] at h2
 have:=a.den_pos
 have:=b.den_pos
 split at h2<;>split at h2<;>omega
theorem ayF {x y k:Nat} (hk:0<k):iR (x*k) (y*k)=iR x y:=by
 simp only [iR,Nat.mul_lt_mul_right hk]
theorem aja {a b:Rat} (ha:¬ a<0) (hb:¬ b<0):a<b↔a.num.natAbs*b.den<b.num.natAbs*a.den:=by
 rw [afD] at ha hb
 rw [Rat.lt_iff]
 have h1:a.num=(a.num.natAbs:Int):=by omega
 have h2:b.num=(b.num.natAbs:Int):=by omega
 rw [h1,h2]
 simp only [Int.natAbs_natCast]
 exact_mod_cast Iff.rfl
theorem anj {a b:Rat} (ha:a<0) (hb:b<0):a<b↔b.num.natAbs*a.den<a.num.natAbs*b.den:=by
 have:=aja (a:=-b) (b:=-a) cA cA
 rw [Rat.neg_num,Rat.neg_num,Int.natAbs_neg,Int.natAbs_neg,Rat.neg_den,Rat.neg_den] at this
 rw [<-this]
 grind
theorem ad9 {a b:Rat} (h:cM a=cM b):fh a b=if a<0 then-iR (a.num.natAbs*b.den) (b.num.natAbs*a.den) else iR (a.num.natAbs*b.den) (b.num.natAbs*a.den):=by
 have hs:(a<0)↔(b<0):=by
  unfold cM at h
  split at h<;>split at h<;>(try split at h)<;>(try split at h)<;>grind
 by_cases ha:a<0
 ·have hb:=hs.1 ha
  rw [if_pos ha]
  simp only [fh,iR,anj ha hb,anj hb ha]
  split<;>split<;>omega
 ·have hb:=fun h=>ha (hs.2 h)
  rw [if_neg ha]
  simp only [fh,iR,aja ha hb,aja hb ha]
theorem aq8 {a b:Rat} (h:cM a<cM b):fh a b=-1:=by
 have:a<b:=by unfold cM at h;split at h<;>split at h<;>(try split at h)<;>(try split at h)<;>grind
 simp [fh,this]
theorem apu {a b:Rat} (h:cM b<cM a):fh a b=1:=by
 have h1:b<a:=by unfold cM at h;split at h<;>split at h<;>(try split at h)<;>(try split at h)<;>grind
 have h2:¬ a<b:=by grind
 simp [fh,h1,h2]
theorem we {q:Rat} (h:(al q.num.natAbs).length=0):q=0:=by
 have:=pW.1 (List.eq_nil_of_length_eq_zero h)
 exact Rat.num_eq_zero.1 J
theorem aps {c:Int} {x y:Nat} (h:c=iR x y):IntKind.i64.wrap (0-c)=-c:=by
 have:c=-1\/c=0\/c=1:=by rw [h];unfold iR;split<;>(try split)<;>simp
 rw [IntWalk.i64_in _ J];omega
end Go.Proofs.YtckppbhafancnaaGreat
namespace Go.Lg
open Go.Proofs.YtckppbhafancnaaGreat in
theorem fL.ayx {P:Program} {L:St} {dst:Option Nat} {T:TypeId} {p x:Operand} {b:Nat} {q q0:Rat} (hp:L.ev p=.az b 3 0 0) (hb:L.heap b=some ⟨3,[ae q0],true⟩) (hx:L.ev x=ae q) (hT:bo P T 3 true) :
  fL P L dst (.store T p x) ((L.bF b (some ⟨3,[ae q],true⟩)).put dst .any):=by
 have h0:LV.put (ae q0) 0 (L.ev x)=some (ae q):=by
  rw [hx,sP q0]
  have e1:∀ n,(ba n).au=1:=fun _=>rfl
  simp [LV.put,ao.au,ao.isAgg,cF,LV.au,e1]
 have h:=fL.store (P:=P) (dst:=dst) (T:=T) (p:=p) (x:=x) (y:=ae q0) (y':=ae q) hp hb rfl rfl rfl (ao.au _) h0 (by rw [hx,ao.au,ao.isAgg];exact hT)
  (by rw [hx];exact⟨LV.eE (ao.pure q),LV.dY (ao.pure q)⟩)
 exact h
end Go.Lg
namespace Go.Proofs.YtckppbhafancnaaGreat
open Go.Lg
open afl in
theorem vB (q:Rat) (h:rl q<=1099511627776):av Tryz.prog 38 [ae q] (iL (cM q)):=by
 have h1:=kW q
 have hq:=aoQ q
 refine aN Tryz.func38 ?_
 refine bu ?_
 refine cp aK (aaS _ gZ J) ?_
 refine ax ?_
 refine aC rfl ?_ ?_<;>intro h3r h3
 ·have hz:q.num.natAbs=0:=tZ.1 J
  refine bf ?_
  rw [hq,if_pos hz]
  exact dF
 ·have hz:q.num.natAbs≠0:=fun e=>by rw [tZ.2 e] at h3;exact h3 rfl
  refine aR ?_
  refine aC rfl ?_ ?_<;>intro ni h8
  ·refine bf ?_
   rw [hq,if_neg hz,if_pos h8]
   exact dF
  ·refine bq ?_
   rw [hq,if_neg hz,if_neg h8]
   exact dF
open H0 in
theorem aij (q:Rat) (h:rl q<=1099511627776):av Tryz.prog 244 [ae q] (ae q):=by
 have h1:=kW q
 have h2:=lM q
 refine aN Tryz.func244 ?_
 refine aR ?_
 refine aY 9 an ?_
 refine ax ?_
 refine cp aK (ab6 _ J) ?_
 refine aL ?_
 refine cp aK (ab6 _ J) ?_
 refine a6 ?_
 rw [sP]
 exact adg
namespace apn
theorem aH {p q:Prop} (k:q) (e:p=q:=by simp only [e1,e2,e3,e4,p1,p2,p3,q1,q2,q3,l1,t0,t1,r1,r2,r3,r4,Nat.zero_add,Nat.reduceMul,Nat.reduceAdd,b1,b2,b3,b4,b5,b6,i1,i2,i3,i4,i5,i6,Nat.reduceBEq,bU];exact rfl):p:=e.mpr k
theorem tM {p q:Prop} (k:q) (e:p=q:=by simp only [e1,e2,e3,e4,p1,p2,p3,q1,q2,q3,l1,t0,t1,r1,r2,r3,r4,Nat.zero_add,Nat.reduceMul,Nat.reduceAdd,b1,b2,b3,b4,b5,b6,i1,i2,i3,i4,i5,i6,Nat.reduceBEq,bU,oV,o4,oG,oC];exact rfl):p:=e.mpr k
theorem rB {p:Prop} (h:p:=by first | (refine tM ?_;exact rfl) | exact rfl):p:=h
end apn
open apn in
theorem lW (a b:Rat) (h:rl a+rl b<=1099511627776):av Tryz.prog 92 [ae a,ae b] (iL (fh a b)):=by
 have a1:=kW a
 have a2:=mr a
 have a3:=lM a
 have c1:=kW b
 have c2:=mr b
 have c3:=lM b
 have a0:=a.den_pos
 have c0:=b.den_pos
 have m1:=dS a1 c2
 have m2:=dS c1 a2
 have m3:=dS a2 c2
 have m4:=dS a1 c1
 have m5:=dS a2 c1
 have m6:=dS c2 a2
 refine aN Tryz.func92 ?_
 refine bq ?_
 refine aY 6 an ?_
 refine ar ?_
 refine cp aK (vB _ J) ?_
 refine ar ?_
 refine cp aK (vB _ J) ?_
 refine bp ?_
 refine aC rfl ?_ ?_<;>intro xw yp
 ·refine bf ?_
  refine aC rfl ?_ ?_<;>intro qt oL
  ·refine bf ?_
   rw [aq8 oL]
   exact dF
  ·refine bq ?_
   rw [apu J]
   exact dF
 ·have mJ:cM a=cM b:=by omega
  refine bp ?_
  refine cp aK (yl _) ?_
  refine gz ?_
  refine cp aq (aeW _ _ J J) ?_
  refine aL ?_
  refine fT (fun L=>∃ (c:Int) (L1:St),(c=iR (a.num.natAbs*b.den) (b.num.natAbs*a.den))/\L=(((St.mk L1.slot (hp [(2,⟨3,[ae a],true⟩),(3,⟨3,[ae b],true⟩)])).put (some 2) (.az 2 3 0 0)).put (some 7) (iL c))) ?_ ?_
  ·refine aC rfl ?_ ?_<;>intro aeB yh
   ·refine a6 ?_
    refine cp aq (acG _ _ (cE _) (cE _) uR uR) ?_
    refine aJ ?_
    exact⟨iR a.num.natAbs b.num.natAbs,_,by rw [aiq yh];exact(ayF b.den_pos).symm,((aj (aj (bz cl) cl) cl)).symm⟩
   ·refine aJ ?_
    refine cp aK (yl _) ?_
    refine bC ?_
    refine fT (fun L=>∃ (t:Bool) (L1:St),(t=(vJ a && vJ b))/\L=(((((((((St.mk L1.slot (hp [(2,⟨3,[ae a],true⟩),(3,⟨3,[ae b],true⟩)])).put (some 2) (.az 2 3 0 0)).put (some 3) (.az 3 3 0 0)).put (some 7) (iL 0)).put (some 8) (cC (pN a))).put (some 9) (cC (pD a))).put (some 11) (cC (pN b))).put (some 12) (cC (pD b))).put (some 49) (bL t))) ?_ ?_
    ·refine aJ ?_
     refine dy 47 rfl ?_ ?_<;>intro abL h47
     ·refine ax ?_
      exact⟨vJ b,_,by rw [abL];rfl,((aj (aj (aj (aj (aj (aj (aj (aj (bz cl) cl) cl) cl) cl) cl) cl) cl) cl)).symm⟩
     ·refine ax ?_
      exact⟨false,_,by rw [abL];rfl,((aj (aj (aj (aj (aj (aj (aj (aj (bz cl) cl) cl) cl) cl) cl) cl) cl) cl)).symm⟩
    ·rintro _ ⟨t,aBA,ht,rfl⟩
     refine ar ?_
     refine aC rfl ?_ ?_<;>intro yO zy
     ·rw [ht,Bool.and_eq_true] at yO
      obtain⟨oV,o4,k3,k4⟩:=ym yO.1
      obtain⟨oG,oC,k7,k8⟩:=ym yO.2
      have n1:=s7 k3 k8
      have n2:=s7 k7 k4
      have n3:=n1
      have n4:=n2
      rw [<-oV,<-oC] at n1
      rw [<-oG,<-o4] at n2
      refine ax ?_
      refine ak rfl (.bin rfl rfl (abk J)) ?_
      refine aL ?_
      refine ak rfl (.bin rfl rfl (abk J)) ?_
      refine ar ?_
      refine qj rB ?_
      refine ar ?_
      refine aC rfl ?_ ?_<;>intro aEk h56
      ·refine ax ?_
       exact⟨-1,_,(ox J).symm,((aj (aj (bz cl) cl) cl)).symm⟩
      ·refine ax ?_
       refine ak rfl (.bin rfl rfl (abk J)) ?_
       refine aL ?_
       refine ak rfl (.bin rfl rfl (abk J)) ?_
       refine ar ?_
       refine qj rB ?_
       refine ar ?_
       refine aC rfl ?_ ?_<;>intro ai5 fx
       ·refine ax ?_
        exact⟨1,_,(qL J).symm,((aj (aj (bz cl) cl) cl)).symm⟩
       ·refine aL ?_
        exact⟨0,_,(rz J).symm,((aj (aj (bz cl) cl) cl)).symm⟩
     ·refine aY 12 an ?_
      refine aJ ?_
      refine cp aK (u5 _) ?_
      refine cp aq (xa _ _ (cE _) (cE _) J J) ?_
      refine aJ ?_
      refine cp aK (u5 _) ?_
      refine cp aq (xa _ _ (cE _) (cE _) J J) ?_
      refine cp aq (acG _ _ (cE _) (cE _) uR uR) ?_
      refine aJ ?_
      exact⟨iR (a.num.natAbs*b.den) (b.num.natAbs*a.den),_,rfl,((aj (aj (bz cl) cl) cl)).symm⟩
  ·rintro _ ⟨c,aDA,hc,rfl⟩
   refine bf ?_
   refine aC rfl ?_ ?_<;>intro auP h76
   ·refine bq ?_
    rw [ad9 mJ,if_pos h76,<-hc,<-aps hc]
    exact dF
   ·refine bq ?_
    rw [ad9 mJ,if_neg h76,<-hc]
    exact dF
namespace agu
theorem aH {p q:Prop} (k:q) (e:p=q:=by simp only [e1,e2,e3,e4,p1,p2,p3,q1,q2,q3,l1,t0,t1,r1,r2,r3,r4,Nat.zero_add,Nat.reduceMul,Nat.reduceAdd,b1,b2,b3,b4,b5,b6,i1,i2,i3,i4,i5,i6,Nat.reduceBEq,bU,oV,o4,oG,oC];exact rfl):p:=e.mpr k
end agu
open agu in
theorem gr (a b:Rat) (h:rl a+rl b<=1099511627776):av Tryz.prog 191 [ae a,ae b] (ae (a*b)):=by
 have a1:=kW a
 have a2:=mr a
 have a3:=lM a
 have c1:=kW b
 have c2:=mr b
 have c3:=lM b
 have a0:=a.den_pos
 have c0:=b.den_pos
 have m1:=dS a1 c2
 have m2:=dS c1 a2
 have m3:=dS a2 c2
 have m4:=dS a1 c1
 have m5:=dS a2 c1
 have m6:=dS c2 a2
 have hE:=afE (decide (a<0)) (decide (b<0)) a.num.natAbs a.den b.num.natAbs b.den
 rw [kP,kP] at hE
 refine aN Tryz.func191 ?_
 have oV:True:=trivial
 have o4:True:=trivial
 have oG:True:=trivial
 have oC:True:=trivial
 refine gz ?_
 refine dy 15 rfl ?_ ?_<;>intro nB k6
 ·have hz:a*b=0:=by rw [we (q:=a) J,Rat.zero_mul]
  refine mA ?_
  rw [hz,nP]
  exact aa4
 ·refine aR ?_
  refine aC rfl ?_ ?_<;>intro xw yp
  ·have hz:a*b=0:=by rw [we (q:=b) J,Rat.mul_zero]
   refine bf ?_
   rw [hz,nP]
   exact aa4
  ·refine aA ?_
   refine cp aK (yl _) ?_
   refine dk ?_
   refine fT (fun L=>∃  (L1:St),(True)/\L=((((St.mk L1.slot (hp [(2,⟨3,[ae a],true⟩),(3,⟨3,[ae b],true⟩),(4,⟨3,[.agg [.v (.bool false),.list 1 [],.list 1 []]],true⟩)])).put (some 2) (.az 2 3 0 0)).put (some 3) (.az 3 3 0 0)).put (some 4) (.az 4 3 0 0))) ?_ ?_
   ·refine aC rfl ?_ ?_<;>intro vE oN
    ·obtain⟨oV,o4,k3,k4⟩:=ym vE
     refine aJ ?_
     refine cp aK (yl _) ?_
     refine dk ?_
     refine aC rfl ?_ ?_<;>intro w9 wQ
     ·obtain⟨oG,oC,k7,k8⟩:=ym w9
      have n1:=s7 k3 k7
      have n2:=s7 k4 k8
      have np:=Nat.mul_pos a0 c0
      refine bq ?_
      refine ak rfl aaY ?_
      refine aL ?_
      refine ak rfl aaY ?_
      refine cp fH (aa8 _ _ _ xr (by first | exact np | (simp only [oV,o4,oG,oC];exact np)) xr) ?_
      refine aA ?_
      rw [hE]
      exact fk
     ·refine aL ?_
      exact⟨_,trivial,((aj (aj (aj (bz cl) cl) cl) cl)).symm⟩
    ·refine aL ?_
     exact⟨_,trivial,((aj (aj (aj (bz cl) cl) cl) cl)).symm⟩
   ·rintro _ ⟨awO,-,rfl⟩
    refine aL ?_
    refine aY 16 an ?_
    refine bq ?_
    refine cp aq (xa _ _ (cE _) (cE _) J J) ?_
    refine ar ?_
    refine cp aK (u5 _) ?_
    refine ar ?_
    refine cp aK (u5 _) ?_
    refine cp aq (xa _ _ (cE _) (cE _) J J) ?_
    refine cp fH (zU _ _ _ (cE _) (cE _) uR uR) ?_
    refine ax ?_
    rw [hE]
    exact fk
open agu in
theorem tT (a b:Rat) (h:rl a+rl b<=1099511627776):av Tryz.prog 169 [ae a,ae b] (.a7 [ae (a/b),iL (if b=0 then 3 else 0)]):=by
 have a1:=kW a
 have a2:=mr a
 have a3:=lM a
 have c1:=kW b
 have c2:=mr b
 have c3:=lM b
 have a0:=a.den_pos
 have c0:=b.den_pos
 have m1:=dS a1 c2
 have m2:=dS c1 a2
 have m3:=dS a2 c2
 have m4:=dS a1 c1
 have m5:=dS a2 c1
 have m6:=dS c2 a2
 have hE:=ae7 (decide (a<0)) (decide (b<0)) a.num.natAbs a.den b.num.natAbs b.den
 rw [kP,kP] at hE
 refine aN Tryz.func169 ?_
 have oV:True:=trivial
 have o4:True:=trivial
 have oG:True:=trivial
 have oC:True:=trivial
 refine bu ?_
 refine cp aK (vB _ J) ?_
 refine aJ ?_
 refine aC rfl ?_ ?_<;>intro ot jS
 ·have hz:b=0:=by
   unfold cM at jS;split at jS
   ·assumption
   ·split at jS<;>omega
  refine bq ?_
  subst hz
  rw [show a/0=0 by rw [Rat.div_def];simp,nP]
  exact sE [] rfl rfl rfl rfl rfl cK (.pure rfl) rfl (.pure rfl)
 ·have hz:b≠0:=by rintro rfl;exact jS rfl
  have hbn:0<b.num.natAbs:=Nat.pos_of_ne_zero (fun h=>hz (Rat.num_eq_zero.1 J))
  refine aA ?_
  refine cp aK (yl _) ?_
  refine dk ?_
  refine fT (fun L=>∃  (L1:St),(True)/\L=(((((St.mk L1.slot (hp [(2,⟨3,[ae a],true⟩),(3,⟨3,[ae b],true⟩),(4,⟨3,[.agg [.v (.bool false),.list 1 [],.list 1 []]],true⟩)])).put (some 2) (.az 2 3 0 0)).put (some 3) (.az 3 3 0 0)).put (some 4) (.az 4 3 0 0)).put (some 5) (iL 0))) ?_ ?_
  ·refine aC rfl ?_ ?_<;>intro adD h22
   ·obtain⟨oV,o4,k3,k4⟩:=ym adD
    refine aJ ?_
    refine cp aK (yl _) ?_
    refine dk ?_
    refine aC rfl ?_ ?_<;>intro zz xW
    ·obtain⟨oG,oC,k7,k8⟩:=ym zz
     have n1:=s7 k3 k8
     have n2:=s7 k4 k7
     have np:=Nat.mul_pos a0 hbn
     refine bq ?_
     refine ak rfl aaY ?_
     refine aL ?_
     refine ak rfl aaY ?_
     refine cp fH (aa8 _ _ _ xr (by first | exact np | (simp only [oV,o4,oG,oC];exact np)) xr) ?_
     refine aR ?_
     rw [hE,if_neg hz]
     exact adj
    ·refine aL ?_
     exact adL
   ·refine aL ?_
    exact adL
  ·rintro _ ⟨aDf,-,rfl⟩
   refine aL ?_
   refine aY 16 an ?_
   refine bf ?_
   refine cp aK (u5 _) ?_
   refine cp aq (xa _ _ (cE _) (cE _) J J) ?_
   refine ar ?_
   refine cp aK (u5 _) ?_
   refine aL ?_
   refine cp aq (xa _ _ (cE _) (cE _) J J) ?_
   refine cp fH (zU _ _ _ (cE _) (cE _) uR uR) ?_
   refine a6 ?_
   rw [hE,if_neg hz]
   exact adj
theorem abg {p s:Bool} (h:(p==s)=false):p≠s:=by simpa using h
namespace anD
theorem aH {p q:Prop} (k:q) (e:p=q:=by simp only [e1,e2,e3,e4,p1,p2,p3,q1,q2,q3,l1,t0,t1,r1,r2,r3,r4,Nat.zero_add,Nat.reduceMul,Nat.reduceAdd,b1,b2,b3,b4,b5,b6,i1,i2,i3,i4,i5,i6,Nat.reduceBEq,bU,Nat.one_mul,Nat.mul_one,eS,eK,yf,eSc,oV,o4,oG,oC];exact rfl):p:=e.mpr k
end anD
open anD in
theorem amV (a b:Rat) (s:Bool) (h:rl a+rl b<=549755813888):av Tryz.prog 180 [ae a,ae b,bL s] (ae (a+uk s b)):=by
 have a1:=kW a
 have a2:=mr a
 have a3:=lM a
 have c1:=kW b
 have c2:=mr b
 have c3:=lM b
 have a0:=a.den_pos
 have c0:=b.den_pos
 have m1:=dS a1 c2
 have m2:=dS c1 a2
 have m3:=dS a2 c2
 have m4:=dS a1 c1
 have m5:=dS a2 c1
 have m6:=dS c2 a2
 have mm:=agO (k:=rl a+rl b) m1 J
 refine aN Tryz.func180 ?_
 have eS:True:=trivial
 have eK:True:=trivial
 have yf:True:=trivial
 have eSc:True:=trivial
 have oV:True:=trivial
 have o4:True:=trivial
 have oG:True:=trivial
 have oC:True:=trivial
 refine bp ?_
 refine cp aK (yl _) ?_
 refine dk ?_
 refine fT (fun L=>∃  (L1:St),(True)/\L=(((((St.mk L1.slot (hp [(3,⟨3,[ae a],true⟩),(4,⟨3,[ae b],true⟩),(6,⟨3,[.agg [.v (.bool false),.list 1 [],.list 1 []]],true⟩)])).put (some 2) (bL s)).put (some 3) (.az 3 3 0 0)).put (some 4) (.az 4 3 0 0)).put (some 6) (.az 6 3 0 0))) ?_ ?_
 ·refine aC rfl ?_ ?_<;>intro vE oN
  ·obtain⟨oV,o4,k3,k4⟩:=ym vE
   refine aJ ?_
   refine cp aK (yl _) ?_
   refine dk ?_
   refine aC rfl ?_ ?_<;>intro w9 wQ
   ·obtain⟨oG,oC,k7,k8⟩:=ym w9
    have n1:=s7 k3 k8
    have n2:=s7 k7 k4
    have n3:=s7 k4 k8
    have np:=Nat.mul_pos a0 c0
    refine ax ?_
    refine ak rfl aaY ?_
    refine aL ?_
    refine ak rfl aaY ?_
    refine a6 ?_
    have eS:(((a.num.natAbs*b.den:Nat):Int)+((b.num.natAbs*a.den:Nat):Int)+0) % 18446744073709551616=(((a.num.natAbs*b.den+b.num.natAbs*a.den) % 18446744073709551616:Nat):Int):=by omega
    have eK:(((a.num.natAbs*b.den:Nat):Int)+((b.num.natAbs*a.den:Nat):Int)+0)/18446744073709551616=(((a.num.natAbs*b.den+b.num.natAbs*a.den)/18446744073709551616:Nat):Int):=by omega
    refine aJ ?_
    refine ak rfl (.yT Tryz.func247 rfl rfl rfl rfl (vs:=[.int .u64 ((a.num.natAbs*b.den:Nat):Int),.int .u64 ((b.num.natAbs*a.den:Nat):Int),.int .u64 0]) rfl (fun w=>run_add64 _ _ _ J J J J w) rfl rfl) ?_
    refine gz ?_
    refine dy 53 rfl ?_ ?_<;>intro qf h53
    ·refine aA ?_
     refine aC rfl ?_ ?_<;>intro asI h48
     ·refine aR ?_
      refine cp fH (aa8 s ((a.num.natAbs*b.den+b.num.natAbs*a.den) % 18446744073709551616) (a.den*b.den) J np J) ?_
      refine aR ?_
      have yD:a.num.natAbs*b.den+b.num.natAbs*a.den<18446744073709551616:=by omega
      rw [add_same (k:=1) (x:=a.num.natAbs*b.den) (y:=b.num.natAbs*a.den) (d:=a.den*b.den) J (Nat.mul_one _) (Nat.mul_one _) (Nat.mul_one _) (eq_of_beq qf),show qv s (a.num.natAbs*b.den+b.num.natAbs*a.den) (a.den*b.den)=qv s ((a.num.natAbs*b.den+b.num.natAbs*a.den) % 18446744073709551616) (a.den*b.den) by rw [Nat.mod_eq_of_lt yD]]
      exact fk
     ·refine aR ?_
      refine uV (aZ (v:=false) rfl rfl ((by rw [qf];rfl)) rfl) ?_
      refine uV (aZ (v:=false) rfl rfl ((by rw [qf];rfl)) rfl) ?_
      refine uV (aZ (v:=false) rfl rfl ((by rw [qf];rfl)) rfl) ?_
      refine ak rfl (.oX rfl ((by rw [qf];rfl))) ?_
      refine dj ?_
      refine eF (b:=_) rfl (by rw [qf];rfl) ?_
      refine aJ ?_
      exact adL
    ·refine dk ?_
     refine ak (aZ (v:=true) rfl rfl ((by rw [qf];rfl)) rfl) (.move _) ?_
     refine ak (aZ (v:=true) rfl rfl ((by rw [qf];rfl)) rfl) (.move _) ?_
     refine ak (aZ (v:=true) rfl rfl ((by rw [qf];rfl)) rfl) (.bin rfl rfl rfl) ?_
     refine ak rfl (.my rfl ((by rw [qf];rfl))) ?_
     refine aJ ?_
     refine aC rfl ?_ ?_<;>intro ai5 fx
     ·refine bC ?_
      refine cp fH (aa8 _ _ _ xr (by first | exact np | (simp only [oV,o4,oG,oC];exact np)) xr) ?_
      refine aR ?_
      rw [ah5 (k:=1) (x:=a.num.natAbs*b.den) (y:=b.num.natAbs*a.den) (d:=a.den*b.den) J (Nat.mul_one _) (Nat.mul_one _) (Nat.mul_one _) (abg qf) J]
      exact fk
     ·refine bq ?_
      refine bY (b:=_) rfl (by rw [qf];rfl) ?_
      refine bq ?_
      refine cp fH (aa8 _ _ _ xr (by first | exact np | (simp only [oV,o4,oG,oC];exact np)) xr) ?_
      refine aR ?_
      rw [ah4 (k:=1) (x:=a.num.natAbs*b.den) (y:=b.num.natAbs*a.den) (d:=a.den*b.den) J (Nat.mul_one _) (Nat.mul_one _) (Nat.mul_one _) (abg qf) J]
      exact fk
   ·refine aL ?_
    exact adL
  ·refine aL ?_
   exact adL
 ·rintro _ ⟨awO,-,rfl⟩
  refine aL ?_
  refine aY 9 an ?_
  refine a6 ?_
  refine cp aK (u5 _) ?_
  refine bu ?_
  refine cp aq (aeW _ _ J J) ?_
  refine aJ ?_
  refine fT (fun L=>∃ (x:Nat) (y:Nat) (d:Nat) (L1:St),(∃ k,0<k/\x*k=a.num.natAbs*b.den/\y*k=b.num.natAbs*a.den/\d*k=a.den*b.den/\0<d/\(al x).length<=rl a+rl b/\(al y).length<=rl a+rl b/\(al d).length<=rl a+rl b)/\L=((((((((St.mk L1.slot (hp [(3,⟨3,[ae a],true⟩),(4,⟨3,[ae b],true⟩),(6,⟨3,[.agg [.v (.bool false),.list 1 [],.list 1 []]],true⟩)])).put (some 2) (bL s)).put (some 3) (.az 3 3 0 0)).put (some 4) (.az 4 3 0 0)).put (some 6) (.az 6 3 0 0)).put (some 15) (ba x)).put (some 16) (ba y)).put (some 17) (ba d))) ?_ ?_
  ·refine aC rfl ?_ ?_<;>intro aD4 au6
   ·refine aY 15 an ?_
    refine aL ?_
    refine cp aK (u5 _) ?_
    refine cp aq (xa _ _ (cE _) (cE _) J J) ?_
    refine aL ?_
    refine cp aK (u5 _) ?_
    refine cp aq (xa _ _ (cE _) (cE _) J J) ?_
    refine aL ?_
    refine cp aK (u5 _) ?_
    refine cp aq (xa _ _ (cE _) (cE _) J J) ?_
    refine a6 ?_
    exact⟨a.num.natAbs*b.den,b.num.natAbs*a.den,a.den*b.den,_,⟨1,J,Nat.mul_one _,Nat.mul_one _,Nat.mul_one _,Nat.mul_pos a0 c0,m1,J,m3⟩,((aj (aj (aj (aj (aj (aj (aj (bz cl) cl) cl) cl) cl) cl) cl) cl)).symm⟩
   ·have hde:=aiq au6
    refine aL ?_
    exact⟨a.num.natAbs,b.num.natAbs,a.den,_,⟨a.den,a0,by rw [hde],rfl,by rw [hde],a0,J,J,J⟩,((aj (aj (aj (aj (aj (aj (aj (bz cl) cl) cl) cl) cl) cl) cl) cl)).symm⟩
  ·rintro _ ⟨x,y,d,aD6,⟨k,hk,hx,hy,hd,jv,lx,ly,ld⟩,rfl⟩
   have lxy:=agO lx ly
   have lxs:(al (x-y)).length<=rl a+rl b:=Nat.le_trans (mH (Nat.sub_le _ _)) lx
   have lys:(al (y-x)).length<=rl a+rl b:=Nat.le_trans (mH (Nat.sub_le _ _)) ly
   refine bC ?_
   refine aC rfl ?_ ?_<;>intro ahv aDW
   ·refine a6 ?_
    refine cp aq (agp _ _ (cE _) (cE _) J J) ?_
    refine ar ?_
    refine cp fH (zU _ _ _ (cE _) (cE _) uR uR) ?_
    refine a6 ?_
    rw [add_same hk hx hy hd (eq_of_beq ahv)]
    exact fk
   ·refine aR ?_
    refine cp aq (aoF _ _ J J) ?_
    refine dj ?_
    refine aC rfl ?_ ?_<;>intro agA ajI
    ·have hle:=ajc.1 (show zD x y=0 by omega)
     have yf:=abZ hle
     refine aA ?_
     refine cp fH (zU _ _ _ (by rw [yf];exact cE _) (cE _) (by rw [yf];omega) J) ?_
     refine a6 ?_
     rw [ah5 hk hx hy hd (abg ahv) hle]
     exact fk
    ·have hle:x<=y:=by
      rcases Nat.le_total x y with h | h
      ·exact h
      ·have:=ajc.2 h;omega
     have eSc:=abZ hle
     refine aA ?_
     refine cp aq (aoF _ _ J J) ?_
     refine bu ?_
     refine cp fH (zU _ _ _ (cE _) (cE _) J J) ?_
     refine ax ?_
     rw [ah4 hk hx hy hd (abg ahv) hle]
     exact fk
theorem abU {a b:Rat}:fh b a<0↔b<a:=by unfold fh;split<;>(try split)<;>grind
theorem rf {a b:Rat}:fh b a > 0↔a<b:=by unfold fh;split<;>(try split)<;>grind
open H0 in
theorem iw (a b:Rat) (h:rl a+rl b<=549755813888):av Tryz.prog 95 [ae a,ae b] (ae (a+b)):=by
 refine aN Tryz.func95 ?_
 refine dj ?_
 refine cp fH (amV _ _ _ J) ?_
 refine ax ?_
 exact fS [] rfl rfl rfl (ao.au _) (n6 _) cK (by rw [aeG];exact .pure (ao.pure _))
open H0 in
theorem py (a b:Rat) (h:rl a+rl b<=549755813888):av Tryz.prog 170 [ae a,ae b] (ae (a-b)):=by
 refine aN Tryz.func170 ?_
 refine dk ?_
 refine cp fH (amV _ _ _ J) ?_
 refine ax ?_
 rw [Rat.sub_eq_add_neg]
 exact fS [] rfl rfl rfl (ao.au _) (n6 _) cK (by rw [avn];exact .pure (ao.pure _))
open H0 in
theorem agh (a b:Rat) (h:rl a+rl b<=549755813888):av Tryz.prog 167 [ae a,ae b] (ae (if b<a then b else a)):=by
 refine aN Tryz.func167 ?_
 refine bu ?_
 refine cp aq (lW _ _ J) ?_
 refine aJ ?_
 refine fT (fun L=>∃ (q:Rat) (L1:St),(q=(if b<a then b else a)/\rl q<=549755813888)/\L=(((St.mk L1.slot (hp [(2,⟨3,[ae q],true⟩),(3,⟨3,[ae b],true⟩),(4,⟨3,[.agg [.v (.bool false),.list 1 [],.list 1 []]],true⟩)])).put (some 2) (.az 2 3 0 0)).put (some 4) (.az 4 3 0 0))) ?_ ?_
 ·refine aC rfl ?_ ?_<;>intro ni h8
  ·refine a6 ?_
   exact⟨b,_,⟨by rw [if_pos (abU.1 h8)],J⟩,((aj (aj (bz cl) cl) cl)).symm⟩
  ·refine aL ?_
   exact⟨a,_,⟨by rw [if_neg (fun h=>h8 (abU.2 h))],J⟩,((aj (aj (bz cl) cl) cl)).symm⟩
 ·rintro _ ⟨q,LC8,⟨hq,iK⟩,rfl⟩
  refine ax ?_
  refine cp aK (aij _ J) ?_
  refine ax ?_
  rw [<-hq]
  exact fk
open H0 in
theorem aew (a b:Rat) (h:rl a+rl b<=549755813888):av Tryz.prog 168 [ae a,ae b] (ae (if a<b then b else a)):=by
 refine aN Tryz.func168 ?_
 refine bu ?_
 refine cp aq (lW _ _ J) ?_
 refine aJ ?_
 refine fT (fun L=>∃ (q:Rat) (L1:St),(q=(if a<b then b else a)/\rl q<=549755813888)/\L=(((St.mk L1.slot (hp [(2,⟨3,[ae q],true⟩),(3,⟨3,[ae b],true⟩),(4,⟨3,[.agg [.v (.bool false),.list 1 [],.list 1 []]],true⟩)])).put (some 2) (.az 2 3 0 0)).put (some 4) (.az 4 3 0 0))) ?_ ?_
 ·refine aC rfl ?_ ?_<;>intro ni h8
  ·refine a6 ?_
   exact⟨b,_,⟨by rw [if_pos (rf.1 h8)],J⟩,((aj (aj (bz cl) cl) cl)).symm⟩
  ·refine aL ?_
   exact⟨a,_,⟨by rw [if_neg (fun h=>h8 (rf.2 h))],J⟩,((aj (aj (bz cl) cl) cl)).symm⟩
 ·rintro _ ⟨q,LC8,⟨hq,iK⟩,rfl⟩
  refine ax ?_
  refine cp aK (aij _ J) ?_
  refine ax ?_
  rw [<-hq]
  exact fk
theorem amS {o:List Nat} {N:Nat} (hL:bM o) (hv:val o=N) (h:o.length=0\/4294967296 ^ (o.length-1)<=N):o=al N:=by
 have h1:(al N).length<=o.length:=by rw [<-hv];exact arX hL
 have h2:o.length<=(al N).length:=by
  rcases h with h | h
  ·omega
  ·rcases Nat.lt_or_ge (al N).length o.length with bE | jf
   ·have:=qR (n:=N) (k:=o.length-1) J
    omega
   ·exact jf
 have e1:=afi hL rfl
 have e2:=afi (cE N) rfl
 rw [e1,e2,bU,hv]
 congr 1;omega
theorem aBW {m:Nat} (h:(al m).length=2):m=(al m).getD 1 0*4294967296+(al m).getD 0 0:=by
 have e:=bU m
 generalize al m=l at h e
 match l,h with
 | [x,y],_=>rw [val_two] at e;simp;omega
theorem orC {a b:Nat} (hb:b<4294967296) (hx:a<4294967296):dp .or .u64 (b:Nat) ((a*4294967296:Nat):Int)=some (.int .u64 ((a*4294967296+b:Nat):Int)):=orV (s:=32) hb J
theorem wV:(0:Int).toNat=0:=rfl
theorem tz1:(1:Int).toNat=1:=rfl
theorem k5 {α β:Type} (f:α->β) (o:List α):(o.map f).take o.length=o.map f:=by rw [List.take_of_length_le aO]
theorem kI {α β:Type} (f:α->β) (o:List α) (x:α):o.map f++[f x]=(o++[x]).map f:=by simp
theorem iz {α:Type} (o:List α) (x:α):(o++[x]).length=o.length+1:=by simp
theorem ajD (o:List Nat) (x:Nat):val (o++[x])=val o+4294967296 ^ o.length*x:=by rw [adw];simp [val]
theorem agY {o:List Nat} (h:bM o) {x:Nat} (hx:x<4294967296):bM (o++[x]):=akl h (fun y hy=>by simp at hy;omega)
section
variable {m n c s:Nat} {o:List Nat}
theorem as7 (hv:val o+4294967296 ^ o.length*c=val ((al m).take o.length)+val ((al n).take o.length)) (hs:s=c+(al m).getD o.length 0+(al n).getD o.length 0) :
  val (o++[s % 4294967296])+4294967296 ^ (o.length+1)*(s/4294967296)=val ((al m).take (o.length+1))+val ((al n).take (o.length+1)):=by
 rw [ajD,nC,nC,Nat.pow_succ]
 have h1:=aak (4294967296 ^ o.length) s
 have h2:4294967296 ^ o.length*s=4294967296 ^ o.length*c+4294967296 ^ o.length*(al m).getD o.length 0+4294967296 ^ o.length*(al n).getD o.length 0:=by rw [hs,Nat.mul_add,Nat.mul_add]
 omega
theorem acx {m k:Nat} (h:(al m).length<=k):val ((al m).take k)=m:=by rw [List.take_of_length_le h,bU]
theorem aCA (hv:val o+4294967296 ^ o.length*c=val ((al m).take o.length)+val ((al n).take o.length)) (cJ:o.length<=max (al m).length (al n).length\/(o.length=max (al m).length (al n).length+1/\c=0))
  (hg:o.length<max (al m).length (al n).length\/c≠0):o.length+1=max (al m).length (al n).length+1->4294967296 ^ (o.length+1-1)<=m+n:=by
 intro h
 rw [acx J,acx J] at hv
 have:4294967296 ^ o.length*1<=4294967296 ^ o.length*c:=Nat.mul_le_mul_left _ J
 rw [Nat.add_sub_cancel];omega
theorem adU {m:Nat} (h:0<(al m).length):4294967296 ^ ((al m).length-1)<=m:=by
 rcases Nat.lt_or_ge m (4294967296 ^ ((al m).length-1)) with h1 | h1
 ·have:=uI h1;omega
 ·exact h1
theorem auQ (hc:c<=1) (cJ:o.length<=max (al m).length (al n).length\/(o.length=max (al m).length (al n).length+1/\c=0)) (hg:o.length<max (al m).length (al n).length\/c≠0)
  (hs:s=c+(al m).getD o.length 0+(al n).getD o.length 0):o.length+1<=max (al m).length (al n).length\/(o.length+1=max (al m).length (al n).length+1/\s/4294967296=0):=by
 by_cases h:o.length<max (al m).length (al n).length
 ·exact nN
 ·rw [rN (al m) _ J,rN (al n) _ J] at hs
  exact .inr ⟨J,J⟩
theorem aAc (hc:c<=1) (bX:bM o) (cJ:o.length<=max (al m).length (al n).length\/(o.length=max (al m).length (al n).length+1/\c=0)) (hv:val o+4294967296 ^ o.length*c=val ((al m).take o.length)+val ((al n).take o.length))
  (jf:o.length=max (al m).length (al n).length+1->4294967296 ^ (o.length-1)<=m+n) (hg:¬ (o.length<max (al m).length (al n).length\/c≠0)):al (m+n)=o:=by
 rw [acx J,acx J,show c=0 by omega] at hv
 refine(amS bX J ?_).symm
 by_cases h0:o.length=0
 ·exact .inl h0
 refine .inr ?_
 rcases cJ with h | h
 ·rcases Nat.le_total (al m).length (al n).length with hh | hh
  ·have:=adU (m:=n) J
   rw [show o.length=(al n).length by omega];omega
  ·have:=adU (m:=m) J
   rw [show o.length=(al m).length by omega];omega
 ·exact jf h.1
end
theorem aCY {k br y2 ur x:Nat} {a b o:List Nat} (cJ:k<o.length) (bX:bM o) (mC:br<=1) (wo:a.getD k 0<4294967296) (wM:b.getD k 0<4294967296) (hv:val (o.take k)+val (b.take k)=val (a.take k)+4294967296 ^ k*br) (hx:x=br+b.getD k 0)
  (h:(a.getD k 0<x/\y2=a.getD k 0+4294967296/\ur=1)\/(x<=a.getD k 0/\y2=a.getD k 0/\ur=0)) :
  x<=y2/\ur<=1/\bM (o.set k ((y2-x) % 4294967296))/\val ((o.set k ((y2-x) % 4294967296)).take (k+1))+val (b.take (k+1))=val (a.take (k+1))+4294967296 ^ (k+1)*ur:=by
 rcases h with⟨h1,rfl,rfl⟩ | ⟨h1,rfl,rfl⟩
 ·refine⟨J,J,kZ bX _ _ J,?_⟩
  rw [show (a.getD k 0+4294967296-x) % 4294967296=4294967296+a.getD k 0-x by omega]
  exact aqE cJ hv hx h1 J
 ·refine⟨J,J,kZ bX _ _ J,?_⟩
  rw [Nat.mod_eq_of_lt (by omega:a.getD k 0-x<4294967296)]
  exact akz cJ hv hx h1
namespace aoY
theorem aH {p q:Prop} (k:q) (e:p=q:=by simp only [e1,e2,e3,e4,p1,p2,p3,q1,q2,q3,l1,t0,t1,r1,r2,r3,r4,Nat.zero_add,Nat.reduceMul,Nat.reduceAdd,b1,b2,b3,b4,b5,b6,i1,i2,i3,i4,i5,i6,Nat.reduceBEq,ej,ek,fb,List.take_zero,List.take_nil,List.nil_append,aP ff,LV.kill];exact rfl):p:=e.mpr k
end aoY
open aoY in
theorem su (l:List Nat) (h:bM l) (hl:l.length<=4398046511104):av Tryz.prog 146 [eg l] (ba (val l)):=by
 unfold eg ba
 rw [<-sO h]
 unfold vv
 refine aN Tryz.func146 ?_
 have ej:True:=trivial
 have ek:True:=trivial
 refine dk ?_
 refine dJ (fun(k:Nat) L=>(((St.mk L.slot (hp [])).put (some 0) (.list 1 (l.map bh))).put (some 3) (ah k))) (fun k=>k<=l.length/\ie l.length l=ie k l) (fun k=>k) l.length ⟨Nat.le_refl _,rfl⟩ ?_
 rintro k L1 ⟨hk,tJ⟩
 refine aA ?_
 refine dy 8 rfl ?_ ?_<;>intro ni h8
 ·obtain⟨j,rfl⟩:∃ j,k=j+1:=⟨k-1,J⟩
  have ej:(((j+1:Nat):Int)-1).toNat=j:=by omega
  have ek:(((j+1:Nat):Int)-1)=j:=by omega
  refine bq ?_
  refine aC rfl ?_ ?_<;>intro nB k6
  ·refine bC ?_
   exact iG j ⟨J,tJ.trans (by simp only [ie];rw [if_pos (by simpa using k6)])⟩
  ·refine bC ?_
   refine ak rfl abF ?_
   refine bI rfl alM ?_
   refine ax ?_
   rw [tJ,ie,if_neg (show ¬ l.getD j 0=0 by omega)]
   exact mz [22] rfl rfl (eN ff rfl rfl rfl)
 ·have kG:k=0:=by omega
  subst kG
  refine nj ?_
  refine ak rfl abF ?_
  refine bI rfl alM ?_
  refine ax ?_
  rw [tJ,show ie 0 l=0 from rfl]
  exact mz [22] rfl rfl (eN ff rfl rfl rfl)
open H0 in
theorem aai (n:Nat) (hn:n<18446744073709551616):av Tryz.prog 79 [cC n] (ba n):=by
 have hL:bM [n % 4294967296,n/4294967296 % 4294967296]:=by
  intro x hx;simp at hx;omega
 have hV:val [n % 4294967296,n/4294967296 % 4294967296]=n:=by rw [val_two];omega
 refine aN Tryz.func79 ?_
 refine dj ?_
 refine pC [8] pv (su _ gZ qK) ?_
 refine ax ?_
 exact dA rfl (by rw [hV];exact .pure (iQ _))
namespace aoU
theorem aH {p q:Prop} (k:q) (e:p=q:=by simp only [e1,e2,e3,e4,p1,p2,p3,q1,q2,q3,l1,t0,t1,r1,r2,r3,r4,Nat.zero_add,Nat.reduceMul,Nat.reduceAdd,b1,b2,b3,b4,b5,b6,i1,i2,i3,i4,i5,i6,Nat.reduceBEq,fb,wV,tz1];exact rfl):p:=e.mpr k
end aoU
open aoU in
theorem afy (m:Nat) (hl:(al m).length<=1099511627776):av Tryz.prog 258 [ba m] (.a7 [cC (if m<18446744073709551616 then m else 0),bL (decide (m<18446744073709551616))]):=by
 have jv:=gH m 0
 have kh:=gH m 1
 refine aN Tryz.func258 ?_
 refine nj ?_
 refine aC rfl ?_ ?_<;>intro tj h6
 ·have hm:m=0:=pW.1 (List.eq_nil_of_length_eq_zero J)
  refine bq ?_
  subst hm
  exact vd
 ·refine aA ?_
  refine aC rfl ?_ ?_<;>intro ni h8
  ·have hm:=x8 (n:=m) J
   have dZ:=rj.1 (show (al m).length<=1 by omega)
   refine dj ?_
   rw [if_pos J,decide_eq_true J]
   refine tB (x:=cC ((al m).getD 0 0)) rfl ?_ rfl (.pure rfl)
   rw [hm.1]
   exact .pure rfl
  ·refine aA ?_
   refine aC rfl ?_ ?_<;>intro ot jS
   ·have h2v:m=(al m).getD 1 0*4294967296+(al m).getD 0 0:=aBW J
    have dZ:=xe.1 (show (al m).length<=2 by omega)
    refine ar ?_
    refine aY 12 an ?_
    refine bf ?_
    refine ak rfl (.sh rfl rfl (acA (by simp only [fb,wV,tz1];omega))) ?_
    refine ak rfl (.bin rfl rfl (orC (by simp only [fb,wV,tz1];omega) (by simp only [fb,wV,tz1];omega))) ?_
    refine aR ?_
    rw [if_pos dZ,decide_eq_true dZ]
    refine tB (x:=cC ((al m).getD 1 0*4294967296+(al m).getD 0 0)) rfl ?_ rfl (.pure rfl)
    rw [<-h2v]
    exact .pure rfl
   ·have dZ:¬ m<18446744073709551616:=fun h=>by have:=xe.2 h;omega
    refine bC ?_
    rw [if_neg dZ,decide_eq_false dZ]
    exact vd
open abe in
theorem aad (m n:Nat) (eZ:(al m).length<=1099511627776) (lg:(al n).length<=1099511627776):av Tryz.prog 66 [ba m,ba n] (iL (iR m n)):=by
 refine aN Tryz.func66 ?_
 have ej:True:=trivial
 have ek:True:=trivial
 refine gz ?_
 refine aC rfl ?_ ?_<;>intro l9 rR
 ·refine bC ?_
  refine aC rfl ?_ ?_<;>intro nB k6
  ·have hE:=af7 (m:=m) (n:=n) J
   refine bf ?_
   first | (rw [ox hE];exact dA rfl (.pure rfl)) | (rw [qL hE];exact dA rfl (.pure rfl)) | (rw [rz hE];exact dA rfl (.pure rfl))
  ·have hE:=af7 (m:=n) (n:=m) J
   refine bq ?_
   first | (rw [ox hE];exact dA rfl (.pure rfl)) | (rw [qL hE];exact dA rfl (.pure rfl)) | (rw [rz hE];exact dA rfl (.pure rfl))
 ·have hlen:(al m).length=(al n).length:=by omega
  clear rR l9
  refine bu ?_
  refine dJ (fun(k:Nat) L=>((((St.mk L.slot (hp [])).put (some 0) (ba m)).put (some 1) (ba n)).put (some 5) (iL ((k:Int)-1)))) (fun k=>k<=(al m).length/\(al m).drop k=(al n).drop k) (fun k=>k) ((al m).length) ⟨Nat.le_refl _,by rw [List.drop_length,List.drop_of_length_le J]⟩ ?_
  rintro k L1 ⟨hk,hd⟩
  refine aR ?_
  refine aC rfl ?_ ?_<;>intro xw yp
  ·obtain⟨j,rfl⟩:∃ j,k=j+1:=⟨k-1,J⟩
   have ej:(((j+1:Nat):Int)-1).toNat=j:=by omega
   have ek:(((j+1:Nat):Int)-1)=j:=by omega
   refine aA ?_
   refine aY 9 an ?_
   refine bp ?_
   refine aC rfl ?_ ?_<;>intro aju h31
   ·have hE:=ad2 (cE m) (k:=j) J J hd J
    rw [bU,bU] at hE
    refine bu ?_
    first | (rw [ox hE];exact dA rfl (.pure rfl)) | (rw [qL hE];exact dA rfl (.pure rfl)) | (rw [rz hE];exact dA rfl (.pure rfl))
   ·refine aJ ?_
    refine aY 9 an ?_
    refine bp ?_
    refine aC rfl ?_ ?_<;>intro ag7 tY
    ·have hE:=ad2 (cE n) (k:=j) J J hd.symm J
     rw [bU,bU] at hE
     refine bp ?_
     first | (rw [ox hE];exact dA rfl (.pure rfl)) | (rw [qL hE];exact dA rfl (.pure rfl)) | (rw [rz hE];exact dA rfl (.pure rfl))
    ·refine bq ?_
     exact iG j ⟨J,aj6 J J hd J⟩
  ·obtain rfl:k=0:=by omega
   rw [List.drop_zero,List.drop_zero] at hd
   have hE:m=n:=by have:=congrArg val hd;rwa [bU,bU] at this
   refine bp ?_
   first | (rw [ox hE];exact dA rfl (.pure rfl)) | (rw [qL hE];exact dA rfl (.pure rfl)) | (rw [rz hE];exact dA rfl (.pure rfl))
namespace ahM
theorem aH {p q:Prop} (k:q) (e:p=q:=by simp only [e1,e2,e3,e4,p1,p2,p3,q1,q2,q3,l1,t0,t1,r1,r2,r3,r4,Nat.zero_add,Nat.reduceMul,Nat.reduceAdd,b1,b2,b3,b4,b5,b6,i1,i2,i3,i4,i5,i6,Nat.reduceBEq,fb,List.take_zero,List.take_nil,List.nil_append,aP ff,LV.kill,k5,kI,iz,List.length_cons,List.length_nil];exact rfl):p:=e.mpr k
end ahM
open ahM in
theorem ayb (m n:Nat) (eZ:(al m).length<=1099511627776) (lg:(al n).length<=1099511627776):av Tryz.prog 139 [ba m,ba n] (ba (m+n)):=by
 refine aN Tryz.func139 ?_
 refine aje ?_
 refine jo (aw.own (t:=5) 50 1 rfl rfl) ?_
 refine jP (fun(o:List Nat) (c:Nat) L=>((((((St.mk L.slot (hp [(50,⟨1,o.map bh,true⟩)])).put (some 0) (ba m)).put (some 1) (ba n)).put (some 5) (.ref 50 1 0 o.length)).put (some 6) (cC c)).put (some 7) (ah o.length))) (fun o c=>c<=1/\bM o/\(o.length<=max (al m).length (al n).length\/(o.length=max (al m).length (al n).length+1/\c=0))/\val o+4294967296 ^ o.length*c=val ((al m).take o.length)+val ((al n).take o.length)/\(o.length=max (al m).length (al n).length+1->4294967296 ^ (o.length-1)<=m+n)) (fun o c=>max (al m).length (al n).length+2-o.length) ([]) 0 ⟨J,(by intro x hx;cases hx),.inl (Nat.zero_le _),by simp [val],by simp⟩ ?_
 rintro o c L1 ⟨hc,bX,cJ,hv,jf⟩
 have rP:=gH m o.length
 have hyk:=gH n o.length
 refine aL ?_
 refine fT (fun L=>∃ (t:Bool) (L1:St),(t=decide (o.length<max (al m).length (al n).length\/c≠0))/\L=(((((((St.mk L1.slot (hp [(50,⟨1,o.map bh,true⟩)])).put (some 0) (ba m)).put (some 1) (ba n)).put (some 5) (.ref 50 1 0 o.length)).put (some 6) (cC c)).put (some 7) (ah o.length)).put (some 21) (bL t))) ?_ ?_
 ·refine aA ?_
  refine dy 12 rfl ?_ ?_<;>intro aav h12
  ·refine bp ?_
   exact⟨true,_,by symm;rw [decide_eq_true_iff];omega,((aj (aj (aj (aj (aj (aj (bz cl) cl) cl) cl) cl) cl) cl)).symm⟩
  ·refine aA ?_
   refine dy 18 rfl ?_ ?_<;>intro rD rZ
   ·refine a6 ?_
    exact⟨true,_,by symm;rw [decide_eq_true_iff];omega,((aj (aj (aj (aj (aj (aj (bz cl) cl) cl) cl) cl) cl) cl)).symm⟩
   ·refine a6 ?_
    exact⟨((c:Int) != 0),_,by rw [Bool.eq_iff_iff,bne_iff_ne,decide_eq_true_iff];omega,((aj (aj (aj (aj (aj (aj (bz cl) cl) cl) cl) cl) cl) cl)).symm⟩
 ·rintro _ ⟨t,LR4,ht,rfl⟩
  refine ar ?_
  refine aC rfl ?_ ?_<;>intro yP h21
  ·rw [ht,decide_eq_true_iff] at yP
   have hg:=yP
   refine dj ?_
   refine fT (fun L=>∃ (s1:Nat) (L1:St),(s1=c+(al m).getD o.length 0)/\L=((((((St.mk L1.slot (hp [(50,⟨1,o.map bh,true⟩)])).put (some 0) (ba m)).put (some 1) (ba n)).put (some 5) (.ref 50 1 0 o.length)).put (some 6) (cC s1)).put (some 7) (ah o.length))) ?_ ?_
   ·refine aC rfl ?_ ?_<;>intro vq h27
    ·refine bp ?_
     exact⟨c+(al m).getD o.length 0,_,rfl,((aj (aj (aj (aj (aj (bz cl) cl) cl) cl) cl) cl)).symm⟩
    ·refine aL ?_
     exact⟨c,_,by rw [rN (al m) o.length J];rfl,((aj (aj (aj (aj (aj (bz cl) cl) cl) cl) cl) cl)).symm⟩
   ·rintro _ ⟨s1,aAs,jt,rfl⟩
    refine bC ?_
    refine fT (fun L=>∃ (s:Nat) (L1:St),(s=c+(al m).getD o.length 0+(al n).getD o.length 0)/\L=((((((St.mk L1.slot (hp [(50,⟨1,o.map bh,true⟩)])).put (some 0) (ba m)).put (some 1) (ba n)).put (some 5) (.ref 50 1 0 o.length)).put (some 6) (cC s)).put (some 7) (ah o.length))) ?_ ?_
    ·refine aC rfl ?_ ?_<;>intro afj h38
     ·refine bp ?_
      exact⟨s1+(al n).getD o.length 0,_,by rw [jt],((aj (aj (aj (aj (aj (bz cl) cl) cl) cl) cl) cl)).symm⟩
     ·refine aL ?_
      exact⟨s1,_,by rw [jt,rN (al n) o.length J];rfl,((aj (aj (aj (aj (aj (bz cl) cl) cl) cl) cl) cl)).symm⟩
    ·rintro _ ⟨s,atd,hs,rfl⟩
     refine aR ?_
     refine bI rfl (.app (news:=[bh (s % 4294967296)]) rfl rfl rfl rfl rfl aO (.inl rfl) ai Tryz.underlying29 Tryz.underlying29 zZ pJ rfl zw (.inl ⟨49,0,_,rfl,by decide,rfl,rfl,by simp,rfl,rfl⟩) bm bm ai) ?_
     refine aJ ?_
     refine cq (aw.kill _ 49) ?_
     refine bu ?_
     exact fZ (o++[s % 4294967296]) (s/4294967296) ⟨J,agY bX J,by rw [iz];exact auQ hc cJ hg hs,by rw [iz];exact as7 hv hs,by rw [iz];exact aCA hv cJ hg⟩ (hm:=by rw [iz];omega)
  ·rw [ht,decide_eq_false_iff_not] at yP
   have hN:=aAc hc bX cJ hv jf yP
   refine bu ?_
   skip
   exact mz [50] rfl rfl (by rw [show ba (m+n)=.list 1 (o.map bh) by rw [<-hN];rfl];exact eN ff rfl rfl rfl)
open aaV in
theorem ajQ (m n:Nat) (eZ:(al m).length<=1099511627776) (lg:(al n).length<=1099511627776) (hle:n<=m):av Tryz.prog 231 [ba m,ba n] (ba (m-n)):=by
 have px:=mH hle
 refine aN Tryz.func231 ?_
 refine bq ?_
 refine eH rfl rfl (.kM (n:=(al m).length) (m:=(al m).length) ml ml om om om) ?_
 refine gz ?_
 refine rH (fun(k:Nat) (o:List Nat) (br:Nat) L=>((((((St.mk L.slot (hp [(12,⟨1,o.map bh,true⟩)])).put (some 0) (ba m)).put (some 1) (ba n)).put (some 5) (.ref 12 1 0 (al m).length)).put (some 6) (cC br)).put (some 7) (ah k))) (fun k o br=>k<=(al m).length/\o.length=(al m).length/\br<=1/\bM o/\val (o.take k)+val ((al n).take k)=val ((al m).take k)+4294967296 ^ k*br) (fun k o br=>(al m).length-k) 0 (List.replicate (al m).length 0) 0 ⟨Nat.zero_le _,by simp,J,sT _,by simp [val]⟩ ?_
 rintro k o br L1 ⟨hk,cJ,mC,bX,hv⟩
 have rP:=gH m k
 have hyk:=gH n k
 refine bq ?_
 refine aC rfl ?_ ?_<;>intro yn vo
 ·refine mV ?_
  refine fT (fun L=>∃ (x:Nat) (L1:St),(x=br+(al n).getD k 0)/\L=(((((((St.mk L1.slot (hp [(12,⟨1,o.map bh,true⟩)])).put (some 0) (ba m)).put (some 1) (ba n)).put (some 5) (.ref 12 1 0 (al m).length)).put (some 6) (cC br)).put (some 7) (ah k)).put (some 8) (cC x))) ?_ ?_
  ·refine aC rfl ?_ ?_<;>intro qt oL
   ·refine bp ?_
    exact⟨br+(al n).getD k 0,_,rfl,((aj (aj (aj (aj (aj (aj (bz cl) cl) cl) cl) cl) cl) cl)).symm⟩
   ·refine aL ?_
    exact⟨br,_,by rw [rN _ k J];rfl,((aj (aj (aj (aj (aj (aj (bz cl) cl) cl) cl) cl) cl) cl)).symm⟩
  ·rintro _ ⟨x,aD1,hx,rfl⟩
   refine yd ?_
   refine fT (fun L=>∃ (y2:Nat) (ur:Nat) (L1:St),(((al m).getD k 0<x/\y2=(al m).getD k 0+4294967296/\ur=1)\/(x<=(al m).getD k 0/\y2=(al m).getD k 0/\ur=0))/\L=((((((((St.mk L1.slot (hp [(12,⟨1,o.map bh,true⟩)])).put (some 0) (ba m)).put (some 1) (ba n)).put (some 5) (.ref 12 1 0 (al m).length)).put (some 6) (cC ur)).put (some 7) (ah k)).put (some 8) (cC x)).put (some 9) (cC y2))) ?_ ?_
   ·refine aC rfl ?_ ?_<;>intro afj h38
    ·refine bp ?_
     exact⟨(al m).getD k 0+4294967296,1,_,.inl ⟨J,rfl,rfl⟩,((aj (aj (aj (aj (aj (aj (aj (bz cl) cl) cl) cl) cl) cl) cl) cl)).symm⟩
    ·refine aL ?_
     exact⟨(al m).getD k 0,0,_,.inr ⟨J,rfl,rfl⟩,((aj (aj (aj (aj (aj (aj (aj (bz cl) cl) cl) cl) cl) cl) cl) cl)).symm⟩
   ·rintro _ ⟨y2,ur,atd,hf,rfl⟩
    obtain⟨hf1,og,rh,hf4⟩:=aCY J bX mC rP hyk hv hx hf
    refine mV ?_
    exact p7 (k+1) (o.set k ((y2-x) % 4294967296)) ur ⟨J,by simp [cJ],og,rh,hf4⟩
 ·obtain rfl:k=(al m).length:=by omega
  refine bf ?_
  refine pC [12] pv (su _ gZ qK) ?_
  refine ax ?_
  have e:=aqh (cE m) bX cJ px (by rw [bU,bU];exact hle) hv
  rw [sO bX,bU,bU] at e
  have e2:=congrArg val e
  rw [bU,bU] at e2
  rw [<-e2]
  exact dF
open H0 in
theorem ajV (m n:Nat) (eZ:(al m).length<=1099511627776) (lg:(al n).length<=1099511627776):av Tryz.prog 140 [ba m,ba n] (.a7 [eg (aa9 m n),iL (zD m n)]):=by
 refine aN Tryz.func140 ?_
 refine bp ?_
 refine cp aq (aad _ _ J J) ?_
 refine aJ ?_
 refine aC rfl ?_ ?_<;>intro tf h9
 ·have bE:m<n:=by unfold iR at h9;split at h9;assumption;split at h9<;>omega
  refine bf ?_
  rw [aa9,if_pos bE,zD,if_pos bE]
  exact tB rfl (.nil 1) rfl (.pure rfl)
 ·have hle:n<=m:=by
   rcases Nat.lt_or_ge m n with h | h
   ·rw [ox h] at h9;omega
   ·exact h
  refine aA ?_
  refine cp aq (ajQ _ _ J J J) ?_
  refine a6 ?_
  rw [abZ hle,ajc.2 hle]
  exact tB rfl (.pure (iQ _)) rfl (.pure rfl)
theorem az3 {x:Nat} (h:0<x):di x=di (x/2 ^ 1)+1:=by
 have:=aeJ (n:=x) (k:=1)
 rcases Nat.lt_or_ge x 2 with h1 | h1
 ·obtain rfl:x=1:=by omega
  rfl
 ·rw [this J];omega
open agi in
theorem vK (m n:Nat) (eZ:(al m).length<=1099511627776) (lg:(al n).length<=1099511627776):av Tryz.prog 136 [ba m,ba n] (ba (m*n)):=by
 refine aN Tryz.func136 ?_
 have iY:True:=trivial
 refine bu ?_
 refine eH rfl rfl (.kM (n:=(al m).length+(al n).length) (m:=(al m).length+(al n).length) ml ml om om om) ?_
 refine bC ?_
 refine jP (fun(i:Nat) (o:List Nat) L=>(((((St.mk L.slot (hp [(14,⟨1,o.map bh,true⟩)])).put (some 0) (ba m)).put (some 1) (ba n)).put (some 5) (.ref 14 1 0 ((al m).length+(al n).length))).put (some 6) (ah i))) (fun i o=>i<=(al m).length/\o.length=(al m).length+(al n).length/\bM o/\val o=val ((al m).take i)*val (al n)/\∀ p,i+(al n).length<=p->o.getD p 0=0) (fun i o=>(al m).length-i) 0 (List.replicate ((al m).length+(al n).length) 0) ⟨Nat.zero_le _,by simp,sT _,by simp [val,aeR],fun p _=>anT _ _⟩ ?_
 rintro i o L1 ⟨hi,cJ,bX,hv,hz⟩
 have wc:=gH m i
 refine bq ?_
 refine aC rfl ?_ ?_<;>intro rD rZ
 ·refine mA ?_
  refine rH (fun(j:Nat) (o:List Nat) (c:Nat) L=>(((((((St.mk L.slot (hp [(14,⟨1,o.map bh,true⟩)])).put (some 0) (ba m)).put (some 1) (ba n)).put (some 5) (.ref 14 1 0 ((al m).length+(al n).length))).put (some 6) (ah i)).put (some 7) (cC c)).put (some 8) (ah j))) (fun j o c=>j<=(al n).length/\o.length=(al m).length+(al n).length/\bM o/\c<4294967296/\val o+4294967296 ^ (i+j)*c=val ((al m).take i)*val (al n)+4294967296 ^ i*((al m).getD i 0*val ((al n).take j))/\∀ p,i+(al n).length<=p->o.getD p 0=0) (fun j o c=>(al n).length-j) 0 o 0 ⟨Nat.zero_le _,cJ,bX,J,by rw [hv];simp [val],hz⟩ ?_
  rintro j o c L2 ⟨hj,cJ,bX,hc,hv,hz⟩
  have hyj:=gH n j
  have hzj:=gS bX (i+j)
  have hs:=ao3 hc wc hyj hzj
  have iY:((i:Int)+(j:Int)).toNat=i+j:=by omega
  refine bq ?_
  refine aC rfl ?_ ?_<;>intro pw rn
  ·refine a6 ?_
   refine aY 22 an ?_
   refine aBa ?_
   exact p7 (j+1) (o.set (i+j) ((c+((al m).getD i 0*(al n).getD j 0+o.getD (i+j) 0)) % 4294967296)) ((c+((al m).getD i 0*(al n).getD j 0+o.getD (i+j) 0))/4294967296) ⟨J,by simp [cJ],kZ bX _ _ (Nat.mod_lt _ J),J,al5 J hv rfl,ar0 J hz⟩
  ·obtain rfl:j=(al n).length:=by omega
   have aAH:((i:Int)+((al n).length:Int)).toNat=i+(al n).length:=by omega
   refine yd ?_
   exact fZ (i+1) (o.set (i+(al n).length) (c % 4294967296)) ⟨J,by simp [cJ],kZ bX _ _ (Nat.mod_lt _ J),by rw [Nat.mod_eq_of_lt hc];exact ak5 J J (hz _ (Nat.le_refl _)) rfl rfl hv,aow hz⟩
 ·obtain rfl:i=(al m).length:=by omega
  refine bf ?_
  refine pC [14] pv (su _ gZ qK) ?_
  refine ax ?_
  rw [List.take_length,bU,bU] at hv
  rw [<-hv]
  exact dF
open H0 in
theorem at4 (m d:Nat) (eZ:(al m).length<=549755813888) (hd:d<4294967296):av Tryz.prog 272 [ba m,oe d] (ba (m*d)):=by
 have hld:(al d).length<=1:=rj.2 hd
 refine aN Tryz.func272 ?_
 refine bC ?_
 refine cp aK (aai _ J) ?_
 refine cp aq (vK _ _ J J) ?_
 refine ax ?_
 exact dF
open abe in
theorem asF (m d:Nat) (eZ:(al m).length<=1099511627776) (jv:0<d) (hd:d<4294967296):av Tryz.prog 268 [ba m,oe d] (.a7 [ba (m/d),oe (m % d)]):=by
 refine aN Tryz.func268 ?_
 have ej:True:=trivial
 have ek:True:=trivial
 refine bC ?_
 refine eH rfl rfl (.kM (n:=(al m).length) (m:=(al m).length) ml ml om om om) ?_
 refine nn ?_
 refine rH (fun(k:Nat) (q:List Nat) (r:Nat) L=>((((((St.mk L.slot (hp [(11,⟨1,q.map bh,true⟩)])).put (some 0) (ba m)).put (some 1) (oe d)).put (some 6) (.ref 11 1 0 (al m).length)).put (some 7) (cC r)).put (some 8) (iL ((k:Int)-1)))) (fun k q r=>k<=(al m).length/\q.length=(al m).length/\bM q/\r<d/\val (q.drop k)*d+r=val ((al m).drop k)) (fun k q r=>k) ((al m).length) (List.replicate (al m).length 0) 0 ⟨Nat.le_refl _,by simp,sT _,jv,by simp [val]⟩ ?_
 rintro k q r L1 ⟨hk,iK,kv,hr,hv⟩
 refine aR ?_
 refine aC rfl ?_ ?_<;>intro yn vo
 ·obtain⟨j,rfl⟩:∃ j,k=j+1:=⟨k-1,J⟩
  have ej:(((j+1:Nat):Int)-1).toNat=j:=by omega
  have ek:(((j+1:Nat):Int)-1)=j:=by omega
  have hxj:=gH m j
  refine yd ?_
  refine ak rfl adr ?_
  refine nj ?_
  exact p7 j (q.set j ((r*4294967296+(al m).getD j 0)/d % 4294967296)) ((r*4294967296+(al m).getD j 0) % d) ⟨J,by simp [iK],kZ kv _ _ (Nat.mod_lt _ J),Nat.mod_lt _ jv,by rw [Nat.mod_eq_of_lt (ak3 hr hxj)];exact aos J iK hv rfl⟩
 ·obtain rfl:k=0:=by omega
  refine bf ?_
  refine pC [11] pv (su _ gZ qK) ?_
  refine aR ?_
  obtain⟨E1,E2⟩:=am6 jv hr kv hv
  rw [sO kv] at E1
  have E3:=congrArg val E1
  rw [bU,bU,bU] at E3
  rw [bU] at E2
  rw [<-E3,<-E2]
  have E4:r % 4294967296=r:=Nat.mod_eq_of_lt J
  refine tB rfl (.pure (iQ _)) rfl ?_
  show cG _ (oe (r % 4294967296)) (oe r)
  rw [E4]
  exact .pure rfl
open ac2 in
theorem ar2 (m:Nat) (eZ:(al m).length<=1099511627776):av Tryz.prog 269 [ba m] (iL (di m)):=by
 refine aN Tryz.func269 ?_
 have ej:True:=trivial
 refine dj ?_
 refine aC rfl ?_ ?_<;>intro h7r h7
 ·have hz:m=0:=pW.1 (List.eq_nil_of_length_eq_zero J)
  subst hz
  refine aR ?_
  exact dF
 ·have kJ:0<(al m).length:=by omega
  have ej:(((al m).length:Int)-1).toNat=(al m).length-1:=by omega
  have hz:=amq kJ
  have aah:=gH m ((al m).length-1)
  have ahB:di ((al m).getD ((al m).length-1) 0)<=32:=sJ.2 aah
  refine yd ?_
  refine jP (fun(x q:Nat) L=>(((St.mk L.slot (hp [])).put (some 3) (ah q)).put (some 4) (oe x))) (fun x q=>q+di x=di m/\x<4294967296/\di m<=35184372088832) (fun x q=>x) ((al m).getD ((al m).length-1) 0) (32*((al m).length-1)) ⟨hz,aah,J⟩ ?_
  rintro x q L1 ⟨hq,hx,hbm⟩
  refine aR ?_
  refine aC rfl ?_ ?_<;>intro aeg h19
  ·have fw:0<x:=by omega
   refine dj ?_
   refine ak rfl (.sh rfl rfl (adN (m:=1) ai)) ?_
   refine aJ ?_
   exact fZ (x/2 ^ 1) (q+1) ⟨by have:=az3 fw;omega,J,hbm⟩
  ·obtain rfl:x=0:=by omega
   have fo:di 0=0:=rfl
   obtain rfl:q=di m:=by omega
   refine bu ?_
   exact dF
end Go.Proofs.YtckppbhafancnaaGreat
namespace Go.Lg
open Go.Proofs.YtckppbhafancnaaGreat in
theorem aw.mv {L:St} {t b sz off len:Nat} {blk:a8} (d:Nat) (fo:b≠0) (jv:d≠0) (fc:b≠d) (h:L.slot t=.ref b sz off len) (hb:L.heap b=some blk) (hd:L.heap d=none) :
  aw L (((L.kill b).bF d (some ⟨blk.sz,bN b blk.vals,blk.mt⟩)).put (some t) (.ref d sz off len)):=by
 rintro n W X Z0 a w ⟨dL,bB,μ,Z,hc,hr⟩
 have aae:=qX hc hd
 have hk:=hc.kill b fo
 have jd:=ada b hr
 let bc:Nat->Option Nat:=fun c=>if c=d then μ b else jh μ b c
 have hm:∀ c id,jh μ b c=some id->bc c=some id:=fun c id hh=>by
  have:c≠d:=by
   rintro rfl
   unfold jh at hh;split at hh
   ·cases hh
   ·rw [aae] at hh;cases hh
  simp only [bc,if_neg this];exact hh
 have hinv:∀ c id,bc c=some id->(c=d/\μ b=some id)\/(c≠d/\jh μ b c=some id):=fun c id hh=>by
  simp only [bc] at hh;split at hh
  ·rename_i e;exact .inl ⟨e,hh⟩
  ·rename_i e;exact .inr ⟨e,hh⟩
 have fJ:∀ c id,jh μ b c=some id->c≠b/\μ c=some id:=fun c id h=>by
  unfold jh at h;split at h
  ·cases h
  ·exact⟨by assumption,h⟩
 have hbb:∀ id,jh μ b b=some id->False:=fun id hh=>(fJ b id hh).1 rfl
 have aik:∀ {bk:a8} {id:Nat},qS Z (jh μ b) w bk id->qS Z bc w bk id:=fun hh=>qS.mono (fun _ h=>h) hm (Frame.refl _ _ _) rfl hh
 refine⟨dL,bB,bc,Z,?_,fun s=>?_⟩
 ·rw [jT]
  refine⟨hc.cd,hc.kf,hc.iJ,hc.jW,?_,?_,?_,hc.mw,?_,?_,?_,?_⟩
  ·intro c c' id h1 h2
   rcases hinv c id h1 with⟨e1,g1⟩ | ⟨e1,g1⟩<;>rcases hinv c' id h2 with⟨e2,g2⟩ | ⟨e2,g2⟩
   ·rw [e1,e2]
   ·have:=fJ c' id g2;exact absurd (hc.inj _ _ id this.2 g1) this.1
   ·have:=fJ c id g1;exact absurd (hc.inj _ _ id this.2 g2) this.1
   ·exact hc.inj c c' id (fJ c id g1).2 (fJ c' id g2).2
  ·intro c id h1
   rcases hinv c id h1 with⟨e1,g1⟩ | ⟨e1,g1⟩
   ·exact hc.own b id g1
   ·exact hc.own c id (fJ c id g1).2
  ·intro c id h1 hx
   rcases hinv c id h1 with⟨e1,g1⟩ | ⟨e1,g1⟩
   ·exact absurd (hc.x0 b id g1 hx) fo
   ·exact hc.x0 c id (fJ c id g1).2 hx
  ·intro id hx
   have h0:=hk.x1 id hx
   exact hm 0 id h0
  ·intro c id bk h1 jQ eA
   rcases hinv c id h1 with⟨e1,g1⟩ | ⟨e1,g1⟩
   ·subst e1
    simp only [St.bF,if_true,Option.some.injEq] at jQ
    subst jQ
    exact hc.il b id blk g1 hb eA
   ·simp only [St.bF,if_neg e1] at jQ
    exact hk.il c id bk g1 jQ eA
  ·intro c id bk h1 jQ eA
   rcases hinv c id h1 with⟨e1,g1⟩ | ⟨e1,g1⟩
   ·subst e1
    simp only [St.bF,if_true,Option.some.injEq] at jQ
    subst jQ
    exact hc.bR b id blk g1 hb eA
   ·simp only [St.bF,if_neg e1] at jQ
    exact hk.bR c id bk g1 jQ eA
  ·intro c id h1
   rcases hinv c id h1 with⟨e1,g1⟩ | ⟨e1,g1⟩
   ·subst e1
    obtain⟨bk,q1,cc,T,part,rest,q2,q3,q4⟩:=hc.heap b id g1
    rw [hb] at q1;cases q1
    refine⟨⟨blk.sz,bN b blk.vals,blk.mt⟩,by simp [St.bF],aik ⟨cc,T,part,rest,q2,q3,?_⟩⟩
    exact aM.kill (fun _ h=>h) (fun k id hk h=>by simp [jh,hk,h]) (Frame.refl _ _ _) _ _ q4
   ·obtain⟨bk,q1,q2⟩:=hk.heap c id g1
    exact⟨bk,by simp only [St.bF,if_neg e1];exact q1,aik q2⟩
 ·rw [fO]
  split
  ·rename_i cQ
   subst cQ
   have e:=hr s
   rw [h] at e
   refine⟨by simp [LV.isAgg],fun hh=>?_⟩
   have e2:=e.2 rfl
   simp only [ay] at e2 ⊢
   rcases e2 with e2 | ⟨id,cap,c,T,fz,q1,q2,q3⟩
   ·exact .inl e2
   ·exact .inr ⟨id,cap,c,T,fz,q1,by simp only [bc,if_true];exact q2,q3⟩
  ·exact a9.mono (fun _ h=>h) hm (Frame.refl _ _ _) (jd s)
end Go.Lg
namespace Go.Proofs.YtckppbhafancnaaGreat
open Go.Lg
theorem ahb {s:Nat} (h:s<32):dp .quo .i64 (s:Nat) 32=some (.int .i64 0):=by
 have:((s:Int)).tdiv 32=0:=by rw [Int.tdiv_eq_ediv_of_nonneg J];omega
 simp [dp,this,IntWalk.i64_in]
theorem ake {s:Nat} (h:s<32):dp .rem .i64 (s:Nat) 32=some (.int .i64 (s:Nat)):=by
 have:((s:Int)).tmod 32=s:=by rw [Int.tmod_eq_emod_of_nonneg J];omega
 simp [dp,this]
theorem aCD {m s c x:Nat} {o:List Nat} (hv:val o+4294967296 ^ o.length*c=val ((al m).take o.length)*2 ^ s) (hx:x=(al m).getD o.length 0*2 ^ s+c) :
  val (o++[x % 4294967296])+4294967296 ^ (o.length+1)*(x/4294967296)=val ((al m).take (o.length+1))*2 ^ s:=by
 rw [ajD,nC,Nat.pow_succ,Nat.add_mul,Nat.mul_assoc (4294967296 ^ o.length) ((al m).getD o.length 0)]
 have h1:=aak (4294967296 ^ o.length) x
 have h2:4294967296 ^ o.length*x=4294967296 ^ o.length*((al m).getD o.length 0*2 ^ s)+4294967296 ^ o.length*c:=by rw [hx,Nat.mul_add]
 omega
theorem aBi {m s c:Nat} {o:List Nat} (hv:val o+4294967296 ^ o.length*c=val ((al m).take o.length)*2 ^ s) (ho:o.length=(al m).length) (hc:c<4294967296):val (o++[c % 4294967296])=m*2 ^ s:=by
 rw [ajD,Nat.mod_eq_of_lt hc,hv,acx J]
theorem awP {s x y:Nat} (hs:s<32) (hx:x<4294967296):(y*4294967296+x)/2 ^ s % 4294967296=x/2 ^ s+y % 2 ^ s*2 ^ (32-s):=by
 have hd:4294967296=2 ^ (32-s)*2 ^ s:=by rw [<-Nat.pow_add,show 32-s+s=32 by omega]
 have hp:0<2 ^ s:=Nat.pow_pos J
 obtain⟨_,h2⟩:=ajf (z:=y) (show s<=32 by omega) hx
 have e1:(y*4294967296+x)/2 ^ s=y*2 ^ (32-s)+x/2 ^ s:=by
  rw [show y*4294967296+x=x+(y*2 ^ (32-s))*2 ^ s by rw [Nat.mul_assoc,<-hd];omega,Nat.add_mul_div_right _ _ hp];omega
 have e2:y*2 ^ (32-s)=y % 2 ^ s*2 ^ (32-s)+4294967296*(y/2 ^ s):=by
  have e3:y*2 ^ (32-s)=(2 ^ s*(y/2 ^ s)+y % 2 ^ s)*2 ^ (32-s):=by rw [Nat.div_add_mod]
  rw [e3,Nat.add_mul,hd,Nat.mul_right_comm,Nat.mul_comm (2 ^ s) (2 ^ (32-s))];omega
 rw [e1,e2,show y % 2 ^ s*2 ^ (32-s)+4294967296*(y/2 ^ s)+x/2 ^ s=(y % 2 ^ s*2 ^ (32-s)+x/2 ^ s)+4294967296*(y/2 ^ s) by omega,Nat.add_mul_mod_self_left,Nat.mod_eq_of_lt h2]
 omega
theorem azr {i s:Nat} {w o:List Nat} (hi:i<w.length) (hs:s<32) (hv:2 ^ s*val (w.take i)=val (o.take i)+4294967296 ^ i*(o.getD i 0 % 2 ^ s)) :
  2 ^ s*val ((w.set i (o.getD i 0/2 ^ s+o.getD (i+1) 0 % 2 ^ s*2 ^ (32-s))).take (i+1))=val (o.take (i+1))+4294967296 ^ (i+1)*(o.getD (i+1) 0 % 2 ^ s):=by
 have hd:4294967296=2 ^ s*2 ^ (32-s):=by rw [<-Nat.pow_add,show s+(32-s)=32 by omega]
 rw [yj _ _ _ hi,Nat.mul_add,hv,nC,Nat.pow_succ]
 have h1:=Nat.div_add_mod (o.getD i 0) (2 ^ s)
 generalize o.getD i 0/2 ^ s=q at *
 generalize o.getD i 0 % 2 ^ s=t at *
 generalize o.getD (i+1) 0 % 2 ^ s=u at *
 generalize 4294967296 ^ i=p at *
 rw [<-h1]
 have e1:2 ^ s*(p*(q+u*2 ^ (32-s)))=p*(2 ^ s*q)+p*4294967296*u:=by
  rw [hd,Nat.mul_add,Nat.mul_add]
  simp only [Nat.mul_assoc,Nat.mul_left_comm,Nat.mul_comm]
 rw [e1,Nat.mul_add]
 omega
theorem aA7 {r s:Nat} {o:List Nat} (cJ:o.length=(al (r*2 ^ s)).length) (hv:2 ^ s*val (o.take (al (r*2 ^ s)).length)=val ((al (r*2 ^ s)).take (al (r*2 ^ s)).length)+4294967296 ^ (al (r*2 ^ s)).length*((al (r*2 ^ s)).getD (al (r*2 ^ s)).length 0 % 2 ^ s)):val o=r:=by
 rw [rN _ _ (Nat.le_refl _),Nat.zero_mod,Nat.mul_zero,Nat.add_zero,List.take_length,<-cJ,List.take_length,bU,Nat.mul_comm r] at hv
 exact Nat.eq_of_mul_eq_mul_left (Nat.pow_pos J) hv
theorem avV (k:Nat):((List.replicate k 0).map bh).take k=(List.replicate k 0).map bh:=by rw [List.take_of_length_le aO]
theorem axJ {m:Nat} (k:Nat) (h:0<(al m).length):al (m*4294967296 ^ k)=List.replicate k 0++al m:=by
 have hv:val (List.replicate k 0++al m)=m*4294967296 ^ k:=by rw [adw,aeR,bU];simp [Nat.mul_comm]
 refine(amS (akl (sT k) (cE m)) hv (.inr ?_)).symm
 have:=adU h
 simp only [List.length_append,List.length_replicate]
 rw [show k+(al m).length-1=(al m).length-1+k by omega,Nat.pow_add]
 exact Nat.mul_le_mul_right _ this
open ahM in
theorem ajW (m s:Nat) (eZ:(al m).length<=549755813888) (hs:s<32):av Tryz.prog 270 [ba m,ah s] (ba (m*2 ^ s)):=by
 obtain⟨iT,pZ⟩:=ac9 hs
 refine aN Tryz.func270 ?_
 refine bf ?_
 refine ak rfl (.bin rfl rfl (ahb hs)) ?_
 refine eH rfl rfl (.kM (n:=0) (m:=0) ml ml om om om) ?_
 refine gz ?_
 refine jo (aw.mv (t:=5) (b:=10) 31 ai ai ai rfl rfl rfl) ?_
 refine jP (fun(o:List Nat) (c:Nat) L=>((((((St.mk L.slot (hp [(31,⟨1,o.map bh,true⟩)])).put (some 0) (ba m)).put (some 1) (ah s)).put (some 5) (.ref 31 1 0 o.length)).put (some 6) (cC c)).put (some 7) (ah o.length))) (fun o c=>o.length<=(al m).length/\c<2 ^ s/\bM o/\val o+4294967296 ^ o.length*c=val ((al m).take o.length)*2 ^ s) (fun o c=>(al m).length-o.length) ([]) 0 ⟨Nat.zero_le _,pZ,(by intro x hx;cases hx),by simp [val]⟩ ?_
 rintro o c L1 ⟨cJ,hc,bX,hv⟩
 have rP:=gH m o.length
 have sX:=amT rP iT
 refine bq ?_
 refine aC rfl ?_ ?_<;>intro ot jS
 ·refine dj ?_
  refine ak rfl (.bin rfl rfl (ake hs)) ?_
  refine ak rfl (.sh rfl rfl (arF J (by(try simp only [t1,fb]);omega))) ?_
  refine ak rfl (.bin rfl rfl (orV hc (by(try simp only [t1,fb]);omega))) ?_
  refine bq ?_
  refine bI rfl (.app (news:=[bh (((al m).getD o.length 0*2 ^ s+c) % 4294967296)]) rfl rfl rfl rfl rfl aO (.inl rfl) ai Tryz.underlying29 Tryz.underlying29 zZ pJ rfl zw (.inl ⟨30,0,_,rfl,by decide,rfl,rfl,by simp,rfl,rfl⟩) bm bm ai) ?_
  refine aJ ?_
  refine cq (aw.kill _ 30) ?_
  refine bu ?_
  exact fZ (o++[((al m).getD o.length 0*2 ^ s+c) % 4294967296]) (((al m).getD o.length 0*2 ^ s+c)/4294967296) ⟨by rw [iz];omega,akU rP hc,agY bX J,by rw [iz];exact aCD hv rfl⟩ (hm:=by rw [iz];omega)
 ·have hoe:o.length=(al m).length:=by omega
  have hV:=aBi hv hoe (show c<4294967296 by omega)
  refine bp ?_
  refine bI rfl (.app (news:=[bh (c % 4294967296)]) rfl rfl rfl rfl rfl aO (.inr rfl) ai Tryz.underlying29 Tryz.underlying29 zZ pJ rfl zw (.inl ⟨37,0,_,rfl,by decide,rfl,rfl,by simp,rfl,rfl⟩) bm bm ai) ?_
  simp only [aP ff,k5,kI,iz,List.length_cons,List.length_nil]
  refine pC [38] pv (su (o++[c % 4294967296]) (agY bX J) (by rw [iz];omega)) ?_
  refine ax ?_
  rw [<-hV]
  exact dF
namespace apH
theorem aH {p q:Prop} (k:q) (e:p=q:=by simp only [e1,e2,e3,e4,p1,p2,p3,q1,q2,q3,l1,t0,t1,r1,r2,r3,r4,Nat.zero_add,Nat.reduceMul,Nat.reduceAdd,b1,b2,b3,b4,b5,b6,i1,i2,i3,i4,i5,i6,Nat.reduceBEq,fb,List.drop_zero,kX,eyy];exact rfl):p:=e.mpr k
end apH
open apH in
theorem auu (r s:Nat) (eZ:(al (r*2 ^ s)).length<=549755813888) (hs:s<32):av Tryz.prog 273 [ba (r*2 ^ s),ah s] (ba r):=by
 obtain⟨iT,pZ⟩:=ac9 hs
 have yZ:=ak6 (l:=al (r*2 ^ s)) (r:=r) (show s<=32 by omega) (bU _)
 refine aN Tryz.func273 ?_
 have kX:True:=trivial
 have eyy:True:=trivial
 refine bq ?_
 refine ak rfl (.bin rfl rfl (ahb hs)) ?_
 refine a6 ?_
 refine aC rfl ?_ ?_<;>intro aav h12
 ·have hm:r*2 ^ s=0:=pW.1 (List.eq_nil_of_length_eq_zero J)
  have qD:r=0:=by rcases Nat.mul_eq_zero.1 hm with h | h<;>omega
  subst qD
  refine aR ?_
  exact dA rfl (.nil 1)
 ·refine aA ?_
  refine ak rfl (.bin rfl rfl (ahb hs)) ?_
  refine ak rfl (.aaj (a:=0) ff rfl Tryz.underlying29 pJ rfl om) ?_
  refine aR ?_
  refine eH rfl rfl (.kM (n:=(al (r*2 ^ s)).length) (m:=(al (r*2 ^ s)).length) ml ml om om om) ?_
  refine bC ?_
  refine jP (fun(i:Nat) (o:List Nat) L=>(((((St.mk L.slot (hp [(19,⟨1,o.map bh,true⟩)])).put (some 0) (ba (r*2 ^ s))).put (some 1) (ah s)).put (some 5) (.ref 19 1 0 (al (r*2 ^ s)).length)).put (some 6) (ah i))) (fun i o=>i<=(al (r*2 ^ s)).length/\o.length=(al (r*2 ^ s)).length/\bM o/\2 ^ s*val (o.take i)=val ((al (r*2 ^ s)).take i)+4294967296 ^ i*((al (r*2 ^ s)).getD i 0 % 2 ^ s)) (fun i o=>(al (r*2 ^ s)).length-i) 0 (List.replicate (al (r*2 ^ s)).length 0) ⟨Nat.zero_le _,by simp,sT _,by rw [yZ];simp [val]⟩ ?_
  rintro i o L1 ⟨hi,cJ,bX,hv⟩
  have kX:((i:Int)+1).toNat=i+1:=by omega
  have wc:=gH (r*2 ^ s) i
  have hyi:=gH (r*2 ^ s) (i+1)
  obtain⟨hh1,hh2⟩:=ajf (z:=(al (r*2 ^ s)).getD (i+1) 0) (show s<=32 by omega) wc
  refine bq ?_
  refine aC rfl ?_ ?_<;>intro qt oL
  ·refine yd ?_
   refine fT (fun L=>∃ (y:Nat) (L1:St),(y=(al (r*2 ^ s)).getD (i+1) 0*4294967296+(al (r*2 ^ s)).getD i 0)/\L=((((((St.mk L1.slot (hp [(19,⟨1,o.map bh,true⟩)])).put (some 0) (ba (r*2 ^ s))).put (some 1) (ah s)).put (some 5) (.ref 19 1 0 (al (r*2 ^ s)).length)).put (some 6) (ah i)).put (some 7) (cC y))) ?_ ?_
   ·refine aC rfl ?_ ?_<;>intro w9 wQ
    ·refine bf ?_
     refine ak rfl (.sh rfl rfl (acA (by(try simp only [t1,fb,kX]);omega))) ?_
     refine ak rfl (.bin rfl rfl (orC (by(try simp only [t1,fb]);omega) (by(try simp only [t1,fb,kX]);omega))) ?_
     refine aJ ?_
     exact⟨(al (r*2 ^ s)).getD (i+1) 0*4294967296+(al (r*2 ^ s)).getD i 0,_,rfl,((aj (aj (aj (aj (aj (bz cl) cl) cl) cl) cl) cl)).symm⟩
    ·refine aL ?_
     exact⟨(al (r*2 ^ s)).getD i 0,_,by rw [rN _ (i+1) J,Nat.zero_mul,Nat.zero_add],((aj (aj (aj (aj (aj (bz cl) cl) cl) cl) cl) cl)).symm⟩
   ·rintro _ ⟨y,aDi,hy,rfl⟩
    have eyy:y/2 ^ s % 4294967296=((al (r*2 ^ s)).getD i 0/2 ^ s+(al (r*2 ^ s)).getD (i+1) 0 % 2 ^ s*2 ^ (32-s)):=by rw [hy];exact awP hs wc
    refine aA ?_
    refine ak rfl (.bin rfl rfl (ake hs)) ?_
    refine ak rfl (.sh rfl rfl (adN (m:=s) (by show s<=64;omega))) ?_
    refine bu ?_
    exact fZ (i+1) (o.set i ((al (r*2 ^ s)).getD i 0/2 ^ s+(al (r*2 ^ s)).getD (i+1) 0 % 2 ^ s*2 ^ (32-s))) ⟨J,by simp [cJ],kZ bX _ _ J,azr J hs hv⟩
  ·obtain rfl:i=(al (r*2 ^ s)).length:=by omega
   refine bf ?_
   refine pC [19] pv (su _ gZ qK) ?_
   refine ax ?_
   have hV:=aA7 cJ hv
   rw [<-hV]
   exact dF
namespace arI
theorem aH {p q:Prop} (k:q) (e:p=q:=by simp only [e1,e2,e3,e4,p1,p2,p3,q1,q2,q3,l1,t0,t1,r1,r2,r3,r4,Nat.zero_add,Nat.reduceMul,Nat.reduceAdd,b1,b2,b3,b4,b5,b6,i1,i2,i3,i4,i5,i6,Nat.reduceBEq,List.take_zero,List.take_nil,List.nil_append,aP ff,LV.kill,k5,kI,iz,List.length_cons,List.length_nil,avV,<-List.map_append];exact rfl):p:=e.mpr k
end arI
open arI in
theorem apY (m k:Nat) (eZ:(al m).length<=1099511627776) (hk:k<=1099511627776):av Tryz.prog 271 [ba m,ah k] (ba (m*4294967296 ^ k)):=by
 refine aN Tryz.func271 ?_
 refine dj ?_
 refine aC rfl ?_ ?_<;>intro h7r h7
 ·have hm:m=0:=pW.1 (List.eq_nil_of_length_eq_zero J)
  subst hm
  refine aR ?_
  rw [Nat.zero_mul]
  exact dA rfl (.nil 1)
 ·have hE:=axJ k (show 0<(al m).length by omega)
  refine a6 ?_
  refine eH rfl rfl (.kM (n:=k) (m:=k) ml ml om om om) ?_
  refine ar ?_
  refine bI rfl (.app (news:=(al m).map bh) rfl rfl rfl rfl rfl aO (.inr rfl) ai Tryz.underlying29 Tryz.underlying29 zZ pJ rfl zw (.inr (.inl rfl)) bm bm ai) ?_
  refine ax ?_
  rw [show ba (m*4294967296 ^ k)=.list 1 ((List.replicate k 0++al m).map bh) by rw [<-hE];rfl]
  exact mz [11] rfl rfl (eN ff rfl rfl aO)
theorem aBR (l:List Nat) (k:Nat):val l=val (l.take k)+4294967296 ^ k*val (l.drop k):=by
 rcases Nat.le_total k l.length with h | h
 ·exact rm l k h
 ·rw [List.take_of_length_le h,List.drop_of_length_le h];simp [val]
theorem anR (l:List Nat) (k:Nat):val (l.drop k)=l.getD k 0+4294967296*val (l.drop (k+1)):=by
 rcases Nat.lt_or_ge k l.length with h | h
 ·exact nv h
 ·rw [List.drop_of_length_le h,List.drop_of_length_le J,rN _ _ h];rfl
theorem ado {a:Nat} (h:1<=a) (h2:a<=9223372036854775807):dp .sub .i64 (a:Nat) 1=some (.int .i64 ((a-1:Nat):Int)):=by
 rw [xI J J];congr 2;omega
theorem aun {n:Nat} (h:0<(al n).length):(al n).drop ((al n).length-1)=al ((al n).getD ((al n).length-1) 0):=by
 have h1:=acN (adk n) h
 have h2:=gH n ((al n).length-1)
 rw [abB J h2]
 rw [List.drop_eq_getElem_cons J,List.drop_of_length_le J,List.getD_eq_getElem?_getD,List.getElem?_eq_getElem J]
 rfl
theorem aBI {R V n j:Nat} (hn:(al V).length=n+1) (bE:R<V*4294967296 ^ (j+1)) (hv:0<(al V).getD n 0) :
  R/4294967296 ^ j/V<=min (((al R).getD (j+(n+1)) 0*4294967296+(al R).getD (j+n) 0)/(al V).getD n 0) 4294967295:=by
 have jM:0<V:=Nat.pos_of_ne_zero (fun h=>by rw [h,tQ] at hn;cases hn)
 have hVn:V<4294967296 ^ (n+1):=qR J
 have hz:=afL (ul:=al R) (n:=n+1) (j:=j) hVn (by rw [bU];exact bE)
 have hq2:R/4294967296 ^ j/V<4294967296:=by
  rw [Nat.div_lt_iff_lt_mul jM,Nat.div_lt_iff_lt_mul (q7 j),Nat.mul_comm 4294967296,Nat.mul_assoc,<-Nat.pow_succ']
  exact bE
 refine Nat.le_min.2 ⟨?_,J⟩
 rw [Nat.le_div_iff_mul_le hv]
 have hVs:=rm (al V) n J
 have hVd:val ((al V).drop n)=(al V).getD n 0:=by
  rw [nv J,List.drop_of_length_le J];simp [val]
 rw [hVd,bU] at hVs
 have hR:R/4294967296 ^ (j+n)=(al R).getD (j+(n+1)) 0*4294967296+(al R).getD (j+n) 0:=by
  have e:=aBR (al R) (j+n)
  rw [bU] at e
  have hl:val ((al R).take (j+n))<4294967296 ^ (j+n):=rA (um (cE R) _) bm
  have hd:val ((al R).drop (j+n))=(al R).getD (j+(n+1)) 0*4294967296+(al R).getD (j+n) 0:=by
   have z:val ((al R).drop (j+n+2))=0:=ads (fun p=>by rw [adn];exact hz _ J)
   rw [anR,anR,z,show j+n+1=j+(n+1) by omega];omega
  rw [<-hd]
  conv=>lhs;rw [e]
  rw [Nat.add_mul_div_left _ _ (q7 _),Nat.div_eq_of_lt hl,Nat.zero_add]
 rw [<-hR,Nat.pow_add,<-Nat.div_div_eq_div_mul,Nat.le_div_iff_mul_le (q7 n),Nat.mul_assoc]
 refine Nat.le_trans (Nat.mul_le_mul_left _ ?_) (Nat.div_mul_le_self (R/4294967296 ^ j) V)
 rw [Nat.mul_comm]
 omega
theorem azk {R V j d:Nat} (hV:0<V) (h:R<V*d*4294967296 ^ j):R/4294967296 ^ j/V<d:=by
 rw [Nat.div_lt_iff_lt_mul hV,Nat.div_lt_iff_lt_mul (q7 j),Nat.mul_comm d V];exact h
theorem avt {R V j d:Nat} (hV:0<V) (h:V*d*4294967296 ^ j<=R):d<=R/4294967296 ^ j/V:=by
 rw [Nat.le_div_iff_mul_le hV,Nat.le_div_iff_mul_le (q7 j),Nat.mul_comm d V];exact h
theorem aCd {R V j d A:Nat} {ql:List Nat} (hV:0<V) (hd:d=R/4294967296 ^ j/V) (hp:V*d*4294967296 ^ j<=R) (hj:j<ql.length) (hv:R+V*4294967296 ^ (j+1)*val (ql.drop (j+1))=A) :
  R-V*d*4294967296 ^ j+V*4294967296 ^ j*val ((ql.set j d).drop j)=A/\R-V*d*4294967296 ^ j<V*4294967296 ^ j:=by
 have:=alO (ul:=al (R-V*d*4294967296 ^ j)) (ul0:=al R) (ql:=ql) (x:=d) (j:=j) (U0:=A) hV (by rw [bU];exact hd) (by rw [bU,bU,Nat.mul_comm d V,Nat.mul_comm (4294967296 ^ j)];omega) hj (by rw [bU];exact hv)
 rw [bU] at this
 exact this
theorem ay3 {m n L K s:Nat} (hL:(al (n*2 ^ s)).length=L) (h0:0<L) (hK:K+L=(al (m*2 ^ s)).length+1):m*2 ^ s<n*2 ^ s*4294967296 ^ K:=by
 have h1:m*2 ^ s<4294967296 ^ (al (m*2 ^ s)).length:=qR (Nat.le_refl _)
 have h2:=adU (m:=n*2 ^ s) J
 refine Nat.lt_of_lt_of_le h1 ?_
 rw [show (al (m*2 ^ s)).length=(L-1)+K by omega,Nat.pow_add,<-hL]
 exact Nat.mul_le_mul_right _ h2
theorem ayW {m s k:Nat} (h:(al m).length<=k) (hs:s<32):(al (m*2 ^ s)).length<=k+1 :=
 dS h (rj.2 (by have:=ac9 hs;omega))
theorem aqB (k:Nat):(al (4294967296 ^ k)).length<=k+1:=uI (Nat.pow_lt_pow_right J J)
theorem aCp {V j d:Nat} (h:1<=d):V*d*4294967296 ^ j-V*4294967296 ^ j=V*(d-1)*4294967296 ^ j:=by
 obtain⟨e,rfl⟩:∃ e,d=e+1:=⟨d-1,J⟩
 rw [Nat.add_sub_cancel,Nat.mul_add,Nat.mul_one,Nat.add_mul];omega
theorem aA4 {V j d:Nat} (h:1<=d):V*4294967296 ^ j<=V*d*4294967296 ^ j:=by
 refine Nat.mul_le_mul_right _ ?_
 have:=Nat.mul_le_mul_left V h
 omega
namespace alo
theorem aH {p q:Prop} (k:q) (e:p=q:=by simp only [e1,e2,e3,e4,p1,p2,p3,q1,q2,q3,l1,t0,t1,r1,r2,r3,r4,Nat.zero_add,Nat.reduceMul,Nat.reduceAdd,b1,b2,b3,b4,b5,b6,i1,i2,i3,i4,i5,i6,Nat.reduceBEq,fb,bU,eln,edz,esm,esn,eLn,edm,ek,nk,mg,eL1,ed,wV,edd,es];exact rfl):p:=e.mpr k
end alo
open alo in
theorem ahp (m n:Nat) (eZ:(al m).length<=68719476736) (lg:(al n).length<=68719476736) (g7:0<n):av Tryz.prog 230 [ba m,ba n] (.a7 [ba (m/n),ba (m % n),iL 0]):=by
 refine aN Tryz.func230 ?_
 have eln:True:=trivial
 have edz:True:=trivial
 have esm:True:=trivial
 have esn:True:=trivial
 have eLn:True:=trivial
 have edm:True:=trivial
 have ek:True:=trivial
 have nk:True:=trivial
 have mg:True:=trivial
 have eL1:True:=trivial
 have ed:True:=trivial
 have edd:True:=trivial
 have es:True:=trivial
 refine gz ?_
 refine aC rfl ?_ ?_<;>intro yP h21
 ·have pH:=pW.1 (List.eq_nil_of_length_eq_zero (show (al n).length=0 by omega))
  omega
 ·refine aR ?_
  refine cp aq (aad _ _ J J) ?_
  refine aJ ?_
  refine aC rfl ?_ ?_<;>intro adY yI
  ·have bE:m<n:=by unfold iR at yI;split at yI;assumption;split at yI<;>omega
   refine aJ ?_
   refine cp aK (su _ gZ J) ?_
   refine aR ?_
   rw [Nat.div_eq_of_lt bE,Nat.mod_eq_of_lt bE]
   exact zS [] rfl rfl (.nil 1) rfl (.pure (iQ _)) rfl (.pure rfl)
  ·have jf:n<=m:=by
    rcases Nat.lt_or_ge m n with h | h
    ·rw [ox h] at yI;omega
    ·exact h
   have aik:=mH jf
   refine aA ?_
   refine cp aK (afy _ J) ?_
   refine bu ?_
   refine aC rfl ?_ ?_<;>intro adx h33
   ·have atv:m<18446744073709551616:=by simpa using adx
    have esm:(if m<18446744073709551616 then m else 0)=m:=if_pos atv
    have esn:(if n<18446744073709551616 then n else 0)=n:=if_pos J
    have aC2:m/n<=m:=Nat.div_le_self _ _
    have aDr:=Nat.mod_lt m g7
    refine aJ ?_
    refine cp aK (afy _ J) ?_
    refine bf ?_
    refine aY 11 an ?_
    refine aL ?_
    refine ak rfl adr ?_
    refine cp aK (aai _ J) ?_
    refine aL ?_
    refine ak rfl (.bin rfl rfl (ajM J)) ?_
    refine cp aK (aai _ J) ?_
    refine aR ?_
    exact ab4
   ·refine bC ?_
    refine aC rfl ?_ ?_<;>intro yO zy
    ·have mj:=x8 (n:=n) J
     have eLn:=mj.1
     have lr:=rj.1 (show (al n).length<=1 by omega)
     have g8:=Nat.mod_lt m g7
     refine aA ?_
     simp only [wV,fb,eLn]
     refine cp aq (asF m n J g7 lr) ?_
     refine bu ?_
     refine cp aK (aai _ J) ?_
     refine aR ?_
     exact ab4
    ·obtain⟨ln,hL⟩:∃ ln,(al n).length=ln+1:=⟨(al n).length-1,J⟩
     have eL1:(al n).length-1=ln:=by omega
     have kT:=aun (n:=n) J
     rw [eL1] at kT
     have ajN:=acN (adk n) (show 0<(al n).length by omega)
     rw [eL1] at ajN
     have xx:=gH n ln
     have df:di ((al n).getD ln 0)<=32:=sJ.2 xx
     have aDy:(al ((al n).getD ln 0)).length<=1:=rj.2 xx
     obtain⟨s,hs⟩:∃ s,s=32-di ((al n).getD ln 0):=⟨_,rfl⟩
     have es:(32:Int)-((di ((al n).getD ln 0):Nat):Int)=((s:Nat):Int):=by rw [apx df,hs]
     obtain⟨qi,iP,afY,sK⟩:=aqu (n:=ln) hL hs
     have jM:0<n*2 ^ s:=Nat.mul_pos g7 (Nat.pow_pos J)
     have ry:0<(al (n*2 ^ s)).getD ln 0:=by have:=alI iP afY;omega
     have hUl:=ayW eZ qi
     have hUV:(al (n*2 ^ s)).length<=(al (m*2 ^ s)).length:=mH (Nat.mul_le_mul_right _ jf)
     obtain⟨K,hK⟩:∃ K,K+ln=(al (m*2 ^ s)).length:=⟨(al (m*2 ^ s)).length-ln,J⟩
     have cQ:=ay3 (m:=m) (n:=n) (s:=s) (K:=K) iP J J
     refine aR ?_
     refine ak rfl jm ?_
     refine ak rfl (.aaj (a:=(al n).length-1) ff rfl Tryz.underlying29 pJ rfl om) ?_
     rw [eL1,kT]
     refine cp aK (ar2 _ J) ?_
     refine bf ?_
     refine cp aq (ajW _ _ J qi) ?_
     refine aL ?_
     refine cp aq (ajW _ _ J qi) ?_
     refine nn ?_
     refine eH rfl rfl (.kM (n:=K) (m:=K) ml ml om om om) ?_
     refine dk ?_
     refine rH (fun(k R:Nat) (ql:List Nat) L=>(((((((St.mk L.slot (hp [(82,⟨1,ql.map bh,true⟩)])).put (some 1) (ba (n*2 ^ s))).put (some 4) (.ref 82 1 0 K)).put (some 13) (ah s)).put (some 14) (ah (ln+1))).put (some 5) (ba R)).put (some 15) (iL ((k:Int)-1)))) (fun k R ql=>k<=K/\ql.length=K/\bM ql/\R<=m*2 ^ s/\R+(n*2 ^ s)*4294967296 ^ k*val (ql.drop k)=m*2 ^ s/\R<(n*2 ^ s)*4294967296 ^ k) (fun k R ql=>k) K (m*2 ^ s) (List.replicate K 0) ⟨Nat.le_refl _,by simp,sT _,Nat.le_refl _,by rw [List.drop_of_length_le aO];simp [val],cQ⟩ ?_
     rintro k R ql L1 ⟨hk,iK,kv,hRU,hv,bE⟩
     refine aR ?_
     refine aC rfl ?_ ?_<;>intro aya sG
     ·obtain⟨j,rfl⟩:∃ j,k=j+1:=⟨k-1,J⟩
      have ek:(((j+1:Nat):Int)-1)=(j:Int):=by omega
      have nk:((j:Int)+((ln+1:Nat):Int)).toNat=j+(ln+1):=by omega
      have mg:((j:Int)+((ln+1:Nat):Int)-1).toNat=j+ln:=by omega
      have hRl:=mH hRU
      have eln:(((ln+1:Nat):Int)-1).toNat=ln:=by omega
      have g8:=gH R (j+(ln+1))
      have nH:=gH R (j+ln)
      have apK:=aBI (R:=R) (n:=ln) (j:=j) iP bE ry
      have pj:=gH (n*2 ^ s) ln
      refine nj ?_
      refine fT (fun L=>∃ (hi:Nat) (L1:St),(hi=(al R).getD (j+(ln+1)) 0)/\L=((((((((St.mk L1.slot (hp [(82,⟨1,ql.map bh,true⟩)])).put (some 1) (ba (n*2 ^ s))).put (some 4) (.ref 82 1 0 K)).put (some 13) (ah s)).put (some 14) (ah (ln+1))).put (some 5) (ba R)).put (some 15) (iL (((j+1:Nat):Int)-1))).put (some 16) (cC hi))) ?_ ?_
      ·refine aC rfl ?_ ?_<;>intro aDb h96
       ·refine bp ?_
        exact⟨(al R).getD (j+(ln+1)) 0,_,rfl,((aj (aj (aj (aj (aj (aj (aj (bz cl) cl) cl) cl) cl) cl) cl) cl)).symm⟩
       ·refine aL ?_
        exact⟨0,_,(rN _ _ J).symm,((aj (aj (aj (aj (aj (aj (aj (bz cl) cl) cl) cl) cl) cl) cl) cl)).symm⟩
      ·rintro _ ⟨hi,aEl,gf,rfl⟩
       refine dj ?_
       refine fT (fun L=>∃ (top:Nat) (L1:St),(top=((al R).getD (j+(ln+1)) 0*4294967296+(al R).getD (j+ln) 0))/\L=((((((((St.mk L1.slot (hp [(82,⟨1,ql.map bh,true⟩)])).put (some 1) (ba (n*2 ^ s))).put (some 4) (.ref 82 1 0 K)).put (some 13) (ah s)).put (some 14) (ah (ln+1))).put (some 5) (ba R)).put (some 15) (iL (((j+1:Nat):Int)-1))).put (some 16) (cC top))) ?_ ?_
       ·refine aC rfl ?_ ?_<;>intro aDO aC7
        ·refine aL ?_
         refine ak rfl (.sh rfl rfl (acA J)) ?_
         refine bf ?_
         refine ak rfl (.bin rfl rfl (orU (by simp only [t1,fb,mg];omega) J)) ?_
         refine aJ ?_
         exact⟨hi*4294967296+(al R).getD (j+ln) 0,_,by rw [gf],((aj (aj (aj (aj (aj (aj (aj (bz cl) cl) cl) cl) cl) cl) cl) cl)).symm⟩
        ·refine aL ?_
         refine ak rfl (.sh rfl rfl (acA J)) ?_
         refine aJ ?_
         exact⟨hi*4294967296,_,by rw [gf,rN (al R) (j+ln) J];exact(Nat.add_zero _).symm,((aj (aj (aj (aj (aj (aj (aj (bz cl) cl) cl) cl) cl) cl) cl) cl)).symm⟩
       ·rintro _ ⟨top,aDM,htp,rfl⟩
        have aDT:top/(al (n*2 ^ s)).getD ln 0<=top:=Nat.div_le_self _ _
        have edm:(if (4294967295:Int)<((top/(al (n*2 ^ s)).getD ln 0:Nat):Int) then(4294967295:Int) else((top/(al (n*2 ^ s)).getD ln 0:Nat):Int))=((min (top/(al (n*2 ^ s)).getD ln 0) 4294967295:Nat):Int):=by split<;>omega
        subst htp
        obtain⟨d0,jv⟩:∃ d0,d0=min (((al R).getD (j+(ln+1)) 0*4294967296+(al R).getD (j+ln) 0)/(al (n*2 ^ s)).getD ln 0) 4294967295:=⟨_,rfl⟩
        rw [<-jv] at apK edm
        have hdz:d0<4294967296:=by rw [jv];exact Nat.lt_of_le_of_lt (Nat.min_le_right _ _) ai
        clear jv
        have edz:d0 % 4294967296=d0:=Nat.mod_eq_of_lt hdz
        have hlz:=dS (Nat.le_of_eq iP) (rj.2 hdz)
        refine bC ?_
        refine ak rfl (.bin rfl rfl (aez (by simp only [t1,fb,eln];omega) J)) ?_
        refine bq ?_
        refine cp aq (at4 _ _ J J) ?_
        refine ar ?_
        refine cp aq (apY _ _ (by rw [edz];omega) J) ?_
        refine a6 ?_
        refine dJ (fun(d:Nat) L=>(((((((((St.mk L.slot (hp [(82,⟨1,ql.map bh,true⟩)])).put (some 1) (ba (n*2 ^ s))).put (some 4) (.ref 82 1 0 K)).put (some 13) (ah s)).put (some 14) (ah (ln+1))).put (some 5) (ba R)).put (some 15) (iL (((j+1:Nat):Int)-1))).put (some 17) (cC d)).put (some 18) (ba ((n*2 ^ s)*d*4294967296 ^ j)))) (fun d=>R/4294967296 ^ j/(n*2 ^ s)<=d/\d<4294967296) (fun d=>d) d0 ⟨apK,hdz⟩ ?_
        rintro d L2 ⟨hdq,hdB⟩
        have jF:=dS (Nat.le_of_eq iP) (rj.2 hdB)
        have mG:=dS jF (aqB j)
        have lH:=dS (Nat.le_of_eq iP) (aqB j)
        refine a6 ?_
        refine cp aq (aad _ _ J J) ?_
        refine aJ ?_
        refine aC rfl ?_ ?_<;>intro aDU afz
        ·have hgt:R<n*2 ^ s*d*4294967296 ^ j:=by unfold iR at afz;split at afz;omega;split at afz;assumption;omega
         have hdq:=azk jM hgt
         have jv:1<=d:=Nat.lt_of_le_of_lt (Nat.zero_le _) hdq
         have ajt:=aA4 (V:=n*2 ^ s) (j:=j) jv
         have edd:=aCp (V:=n*2 ^ s) (j:=j) jv
         refine dk ?_
         refine cp aq (apY _ _ J J) ?_
         refine cp aq (ajQ _ _ J J ajt) ?_
         refine ax ?_
         exact iG (d-1) ⟨J,J⟩
        ·have fv:n*2 ^ s*d*4294967296 ^ j<=R:=by
          rcases Nat.lt_or_ge R (n*2 ^ s*d*4294967296 ^ j) with h | h
          ·rw [qL h] at afz;omega
          ·exact h
         have hdE:=Nat.le_antisymm (avt jM fv) hdq
         obtain⟨mj,lr⟩:=aCd jM hdE fv (show j<ql.length by omega) hv
         have ed:d % 4294967296=d:=Nat.mod_eq_of_lt hdB
         refine nn ?_
         refine cp aq (ajQ _ _ J J fv) ?_
         refine bC ?_
         exact p7 j (R-(n*2 ^ s)*d*4294967296 ^ j) (ql.set j d) ⟨J,by simp [iK],kZ kv _ _ hdB,Nat.le_trans (Nat.sub_le _ _) hRU,mj,lr⟩
     ·obtain rfl:k=0:=by omega
      rw [List.drop_zero,Nat.pow_zero,Nat.mul_one] at hv
      rw [Nat.pow_zero,Nat.mul_one] at bE
      have hRl:=mH hRU
      obtain⟨hqf,hRf⟩:=alK (ul:=al R) (ql:=ql) (A:=m) (s:=s) g7 (by rw [bU];exact hv) (by rw [bU];exact bE)
      rw [bU] at hRf
      refine bf ?_
      refine pC [82] pv (su _ gZ J) ?_
      refine aL ?_
      rw [hRf]
      refine cp aq (auu (m % n) s (by rw [<-hRf];omega) qi) ?_
      refine aA ?_
      rw [<-hqf]
      exact ab4
namespace alu
theorem aH {p q:Prop} (k:q) (e:p=q:=by simp only [e1,e2,e3,e4,p1,p2,p3,q1,q2,q3,l1,t0,t1,r1,r2,r3,r4,Nat.zero_add,Nat.reduceMul,Nat.reduceAdd,b1,b2,b3,b4,b5,b6,i1,i2,i3,i4,i5,i6,Nat.reduceBEq,fb,bU,esm,esn];exact rfl):p:=e.mpr k
end alu
open alu in
theorem azO (m n:Nat) (eZ:(al m).length<=68719476736) (lg:(al n).length<=68719476736):av Tryz.prog 204 [ba m,ba n] (ba (Nat.gcd m n)):=by
 refine aN Tryz.func204 ?_
 have esm:True:=trivial
 have esn:True:=trivial
 refine bf ?_
 refine cp aK (su _ (cE _) J) ?_
 refine ar ?_
 refine cp aK (su _ (cE _) J) ?_
 refine aA ?_
 refine jP (fun(x y:Nat) L=>(((St.mk L.slot (hp [])).put (some 0) (ba x)).put (some 1) (ba y))) (fun x y=>Nat.gcd x y=Nat.gcd m n/\(al x).length<=68719476736/\(al y).length<=68719476736) (fun x y=>y) m n ⟨rfl,eZ,lg⟩ ?_
 rintro x y L1 ⟨hg,hx,hy⟩
 refine bf ?_
 refine aC rfl ?_ ?_<;>intro rD rZ
 ·have gR:0<y:=Nat.pos_of_ne_zero (fun h=>by rw [h,tQ] at rZ;simp at rZ)
  refine aA ?_
  refine cp aK (afy _ J) ?_
  refine bC ?_
  refine cp aK (afy _ J) ?_
  refine bq ?_
  refine fT (fun L=>∃ (t:Bool) (L1:St),(t=decide (x<18446744073709551616/\y<18446744073709551616))/\L=((((((St.mk L1.slot (hp [])).put (some 0) (ba x)).put (some 1) (ba y)).put (some 5) (cC (if x<18446744073709551616 then x else 0))).put (some 7) (cC (if y<18446744073709551616 then y else 0))).put (some 32) (bL t))) ?_ ?_
  ·refine aJ ?_
   refine dy 30 rfl ?_ ?_<;>intro aaC yx
   ·refine ax ?_
    exact⟨decide (y<18446744073709551616),_,by rw [decide_eq_decide];omega,((aj (aj (aj (aj (aj (bz cl) cl) cl) cl) cl) cl)).symm⟩
   ·refine ax ?_
    exact⟨false,_,by symm;rw [decide_eq_false_iff_not];omega,((aj (aj (aj (aj (aj (bz cl) cl) cl) cl) cl) cl)).symm⟩
  ·rintro _ ⟨t,LR5,ht,rfl⟩
   refine ar ?_
   refine aC rfl ?_ ?_<;>intro aeS h32
   ·rw [ht,decide_eq_true_iff] at aeS
    obtain⟨aqJ,aj2⟩:=aeS
    have esm:(if x<18446744073709551616 then x else 0)=x:=if_pos aqJ
    have esn:(if y<18446744073709551616 then y else 0)=y:=if_pos aj2
    refine aL ?_
    refine jP (fun(p q:Nat) L=>(((St.mk L.slot (hp [])).put (some 5) (cC p)).put (some 7) (cC q))) (fun p q=>Nat.gcd p q=Nat.gcd m n/\p<18446744073709551616/\q<18446744073709551616) (fun p q=>q) x y ⟨hg,aqJ,aj2⟩ ?_
    rintro p q L2 ⟨uT,hm,hn⟩
    refine aR ?_
    refine aC rfl ?_ ?_<;>intro aeB yh
    ·refine aJ ?_
     refine aY 6 an ?_
     refine bq ?_
     exact fZ q (p % q) ⟨by rw [Nat.gcd_comm,<-Nat.gcd_rec,Nat.gcd_comm];exact uT,hn,by have:=Nat.mod_lt p (show q > 0 by omega);omega⟩ (hm:=Nat.mod_lt _ J)
    ·obtain rfl:q=0:=by omega
     refine bf ?_
     refine cp aK (aai _ J) ?_
     refine bq ?_
     rw [<-uT,Nat.gcd_zero_right]
     exact dF
   ·refine aA ?_
    refine cp aq (ahp _ _ J J (by first | assumption | omega)) ?_
    refine im ?_
    exact fZ y (x % y) ⟨by rw [Nat.gcd_comm,<-Nat.gcd_rec,Nat.gcd_comm];exact hg,hy,Nat.le_trans (mH (Nat.le_of_lt (Nat.mod_lt x gR))) hy⟩ (hm:=Nat.mod_lt _ gR)
 ·have gR:y=0:=pW.1 (List.eq_nil_of_length_eq_zero J)
  refine bu ?_
  subst gR
  rw [<-hg,Nat.gcd_zero_right]
  exact dF
section
variable {q a b:Rat}
theorem aBo:(-q<0)↔0<q:=by grind
theorem ag9 {n:Nat}:0<(al n).length↔0<n:=by
 constructor
 ·intro h;exact Nat.pos_of_ne_zero (fun e=>by rw [e,tQ] at h;cases h)
 ·intro h;exact List.length_pos_iff.2 (fun e=>by have:=pW.1 e;omega)
theorem awo:0<q↔0<q.num:=by rw [Rat.lt_iff];simp
theorem adS (h:(!decide (q<0))=true):decide (((al q.num.natAbs).length:Int) > 0)=decide (-q<0):=by
 rw [decide_eq_decide,aBo,awo]
 have h1:¬ q<0:=by simpa using h
 rw [afD] at h1
 have:=ag9 (n:=q.num.natAbs)
 omega
theorem aet (h:(!decide (q<0))=false):false=decide (-q<0):=by
 have h1:q<0:=by simpa using h
 symm;rw [decide_eq_false_iff_not];grind
theorem awx (s:Bool) (h:s=decide (-q<0)):ae (-q)=.agg [.v (.bool s),ba q.num.natAbs,ba (iD q)]:=by
 rw [sP,h,tk,tk,Rat.neg_num,Int.natAbs_neg,Rat.neg_den]
theorem aft:a=b↔decide (a<0)=decide (b<0)/\a.num.natAbs=b.num.natAbs/\iD a=iD b:=by
 constructor
 ·rintro rfl;exact⟨rfl,rfl,rfl⟩
 ·rintro⟨h1,h2,h3⟩
  have hd:a.den=b.den:=aiq (by rw [h3])
  rw [<-kP a,<-kP b,h1,h2,hd]
theorem alF {m n:Nat}:(iR m n==0)=decide (m=n):=by
 rw [Bool.eq_iff_iff,beq_iff_eq,decide_eq_true_iff];unfold iR;split
 ·omega
 ·split<;>omega
theorem amP (h:(decide (a<0)==decide (b<0))=false):false=decide (a=b):=by
 symm;rw [decide_eq_false_iff_not,aft];intro h2;rw [h2.1] at h;simp at h
theorem ate (h2:(iR a.num.natAbs b.num.natAbs==0)=false):false=decide (a=b):=by
 rw [alF] at h2
 symm;rw [decide_eq_false_iff_not,aft];intro h3;rw [decide_eq_false_iff_not] at h2;exact h2 h3.2.1
theorem asS (h:(decide (a<0)==decide (b<0))=true) (h2:(iR a.num.natAbs b.num.natAbs==0)=true):(iR (iD a) (iD b)==0)=decide (a=b):=by
 rw [alF] at h2 ⊢
 rw [decide_eq_decide,aft]
 exact⟨fun h3=>⟨eq_of_beq h,of_decide_eq_true h2,h3⟩,fun h3=>h3.2.2⟩
end
end Go.Proofs.YtckppbhafancnaaGreat
namespace Go.Lg
open Go.Proofs.YtckppbhafancnaaGreat in
theorem fL.afq {P:Program} {L:St} {dst:Option Nat} {T:TypeId} {p x:Operand} {b:Nat} {q:Rat} {s:Bool} (hp:L.ev p=.az b 3 0 0) (hb:L.heap b=some ⟨3,[ae q],true⟩) (hx:L.ev x=.v (.bool s)) (hT:bo P T 1 false)
  (hs:s=decide (-q<0)):fL P L dst (.store T p x) ((L.bF b (some ⟨3,[ae (-q)],true⟩)).put dst .any):=by
 have h0:LV.put (ae q) 0 (L.ev x)=some (ae (-q)):=by
  rw [hx,awx s hs,sP q]
  have e1:∀ n,(ba n).au=1:=fun _=>rfl
  simp [LV.put,vz,cF,LV.au,LV.isAgg]
 exact fL.store (P:=P) (dst:=dst) (T:=T) (p:=p) (x:=x) (y:=ae q) (y':=ae (-q)) hp hb rfl rfl rfl (ao.au _) h0 (by rw [hx];exact hT) (by rw [hx];exact⟨(fun h=>by cases h),(fun _ h=>by cases h)⟩)
end Go.Lg
namespace Go.Proofs.YtckppbhafancnaaGreat
open Go.Lg
theorem axS {n:Int} (h1:-9223372036854775808<=n) (h2:n<0):IntKind.i64.wrap (0-(n+1))=(((-(n+1)).toNat:Nat):Int):=by
 rw [IntWalk.i64_in _ J];omega
open H0 in
theorem ve (q:Rat):av Tryz.prog 137 [ae q] (ba q.den):=by
 refine aN Tryz.func137 ?_
 refine gz ?_
 refine aC rfl ?_ ?_<;>intro tj h6
 ·have kh:=ahN (show (al (iD q)).length=0 by omega)
  refine bf ?_
  rw [kh,show ba 1=.list 1 ([1].map bh) from rfl]
  exact mz [7] rfl rfl (eN ff rfl rfl rfl)
 ·have kh:=ae0 (q:=q) J
  refine bC ?_
  rw [<-kh]
  exact dF
namespace arw
theorem aH {p q:Prop} (k:q) (e:p=q:=by simp only [e1,e2,e3,e4,p1,p2,p3,q1,q2,q3,l1,t0,t1,r1,r2,r3,r4,Nat.zero_add,Nat.reduceMul,Nat.reduceAdd,b1,b2,b3,b4,b5,b6,i1,i2,i3,i4,i5,i6,Nat.reduceBEq,fb,bU,wV];exact rfl):p:=e.mpr k
end arw
open arw in
theorem aa3 (s:Bool) (m n:Nat) (eZ:(al m).length<=68719476736) (lg:(al n).length<=68719476736) (g7:0<n):av Tryz.prog 138 [bL s,ba m,ba n] (ae (qv s m n)):=by
 refine aN Tryz.func138 ?_
 refine bf ?_
 refine cp aK (su _ (cE _) J) ?_
 refine ar ?_
 refine cp aK (su _ (cE _) J) ?_
 refine bu ?_
 refine aC rfl ?_ ?_<;>intro ot jS
 ·have hm:m=0:=pW.1 (List.eq_nil_of_length_eq_zero J)
  refine bf ?_
  rw [hm,acp,nP]
  exact aa4
 ·have fV:0<m:=ag9.1 J
  have hg:0<Nat.gcd m n:=Nat.gcd_pos_of_pos_left _ fV
  have hE:=ade s fV g7
  have hgl:(al (Nat.gcd m n)).length<=68719476736:=Nat.le_trans (mH (Nat.le_of_dvd fV (Nat.gcd_dvd_left _ _))) eZ
  have xU:(al (m/Nat.gcd m n)).length<=68719476736:=Nat.le_trans (mH (Nat.div_le_self _ _)) eZ
  have hqb:(al (n/Nat.gcd m n)).length<=68719476736:=Nat.le_trans (mH (Nat.div_le_self _ _)) lg
  have aBk:=x8 (n:=Nat.gcd m n)
  refine aA ?_
  refine cp aq (azO _ _ J J) ?_
  refine a6 ?_
  refine fT (fun L=>∃ (t:Bool) (L1:St),(t=decide (Nat.gcd m n≠1))/\L=(((((((St.mk L1.slot (hp [(6,⟨3,[.agg [.v (.bool false),.list 1 [],.list 1 []]],true⟩)])).put (some 0) (bL s)).put (some 1) (ba m)).put (some 2) (ba n)).put (some 6) (.az 6 3 0 0)).put (some 7) (ba (Nat.gcd m n))).put (some 27) (bL t))) ?_ ?_
  ·refine a6 ?_
   refine dy 22 rfl ?_ ?_<;>intro adD h22
   ·refine aR ?_
    exact⟨true,_,by symm;rw [decide_eq_true_iff];intro e;rw [e,afc] at h22;exact h22 rfl,((aj (aj (aj (aj (aj (aj (bz cl) cl) cl) cl) cl) cl) cl)).symm⟩
   ·refine aR ?_
    exact⟨(((al (Nat.gcd m n)).getD 0 0:Int) != 1),_,by have:=(aBk J).1;rw [Bool.eq_iff_iff,bne_iff_ne,decide_eq_true_iff];omega,((aj (aj (aj (aj (aj (aj (bz cl) cl) cl) cl) cl) cl) cl)).symm⟩
  ·rintro _ ⟨t,LR5,ht,rfl⟩
   refine ar ?_
   refine fT (fun L=>∃ (x:Nat) (y:Nat) (L1:St),(x=m/Nat.gcd m n/\y=n/Nat.gcd m n)/\L=(((((St.mk L1.slot (hp [(6,⟨3,[.agg [.v (.bool false),.list 1 [],.list 1 []]],true⟩)])).put (some 0) (bL s)).put (some 1) (ba x)).put (some 2) (ba y)).put (some 6) (.az 6 3 0 0))) ?_ ?_
   ·refine aC rfl ?_ ?_<;>intro vq h27
    ·refine ax ?_
     refine cp aq (ahp _ _ J J hg) ?_
     refine bC ?_
     refine cp aq (ahp _ _ J J hg) ?_
     refine aR ?_
     exact⟨m/Nat.gcd m n,n/Nat.gcd m n,_,⟨rfl,rfl⟩,((aj (aj (aj (aj (bz cl) cl) cl) cl) cl)).symm⟩
    ·have mb:Nat.gcd m n=1:=by rw [ht,decide_eq_false_iff_not] at vq;omega
     refine aL ?_
     exact⟨m,n,_,⟨by rw [mb,Nat.div_one],by rw [mb,Nat.div_one]⟩,((aj (aj (aj (aj (bz cl) cl) cl) cl) cl)).symm⟩
   ·rintro _ ⟨x,y,aAs,⟨hx,hy⟩,rfl⟩
    rw [<-hx,<-hy] at hE
    have gR:0<y:=by rw [hy];exact Nat.div_pos (Nat.le_of_dvd g7 (Nat.gcd_dvd_right _ _)) hg
    refine bf ?_
    refine dy 45 rfl ?_ ?_<;>intro aDG h45
    ·refine aR ?_
     refine aC rfl ?_ ?_<;>intro aDl h50
     ·have kg:y=1:=by have:=(x8 (n:=y) J).1;omega
      refine dk ?_
      rw [hE,if_pos kg]
      exact fS [] rfl rfl rfl rfl rfl cK (.agg (.cons (.pure rfl) (.cons (.pure (iQ _)) (.cons (.nil 1) .nil))))
     ·have kg:y≠1:=by have:=(x8 (n:=y) J).1;omega
      refine bu ?_
      rw [hE,if_neg kg]
      exact adg
    ·have kg:y≠1:=fun e=>by rw [e,afc] at h45;exact h45 rfl
     refine nj ?_
     rw [hE,if_neg kg]
     exact adg
open H0 in
theorem agz (n:Int) (h1:-9223372036854775808<=n) (h2:n<=9223372036854775807):av Tryz.prog 36 [iL n] (.a7 [ba n.natAbs,bL (decide (n<0))]):=by
 refine aN Tryz.func36 ?_
 refine dj ?_
 refine aC rfl ?_ ?_<;>intro h5r h5
 ·refine ax ?_
  refine ak rfl (.neg rfl) ?_
  refine ak rfl (.age (n:=(-(n+1)).toNat) Tryz.underlying2 Tryz.underlying134 (by simp only [e1,p1,p2,Nat.reduceBEq];rw [axS h1 h5]) J) ?_
  refine ak rfl (.bin rfl rfl (akk (show (-(n+1)).toNat+1<18446744073709551616 by omega))) ?_
  refine cp aK (aai ((-(n+1)).toNat+1) J) ?_
  refine aA ?_
  rw [decide_eq_true h5,show n.natAbs=(-(n+1)).toNat+1 by omega]
  exact tB rfl (.pure (iQ _)) rfl (.pure rfl)
 ·refine a6 ?_
  refine ak rfl (.age (n:=n.natAbs) Tryz.underlying2 Tryz.underlying134 (by simp only [e1,p1,p2,Nat.reduceBEq];rw [show ((n.natAbs:Nat):Int)=n by omega];rfl) J) ?_
  refine cp aK (aai n.natAbs J) ?_
  refine a6 ?_
  rw [decide_eq_false h5]
  exact tB rfl (.pure (iQ _)) rfl (.pure rfl)
open H0 in
theorem ayN (n d:Int) (h1:-9223372036854775808<=n) (h2:n<=9223372036854775807) (h3:-9223372036854775808<=d) (h4:d<=9223372036854775807) (hd:d≠0):av Tryz.prog 78 [iL n,iL d] (.a7 [ae ((n:Rat)/(d:Rat)),iL 0]):=by
 refine aN Tryz.func78 ?_
 refine dj ?_
 refine aC rfl ?_ ?_<;>intro aeE zY
 ·exact absurd zY hd
 ·refine a6 ?_
  refine cp aK (agz _ J J) ?_
  refine bC ?_
  refine cp aK (agz _ J J) ?_
  refine dk ?_
  refine cp fH (aa3 (decide (n<0) != decide (d<0)) n.natAbs d.natAbs (Nat.le_trans (xe.2 J) J) (Nat.le_trans (xe.2 J) J) J) ?_
  refine a6 ?_
  rw [<-ac5]
  exact adj
open H0 in
theorem aam (n d:Int) (h1:-9223372036854775808<=n) (h2:n<=9223372036854775807) (h3:-9223372036854775808<=d) (h4:d<=9223372036854775807) (hd:d≠0):av Tryz.prog 35 [iL n,iL d] (ae ((n:Rat)/(d:Rat))):=by
 refine aN Tryz.func35 ?_
 refine bq ?_
 refine cp aq (ayN _ _ J J J J J) ?_
 refine gz ?_
 exact fk
open H0 in
theorem oJ (n:Int) (h1:-9223372036854775808<=n) (h2:n<=9223372036854775807):av Tryz.prog 13 [iL n] (ae (n:Rat)):=by
 refine aN Tryz.func13 ?_
 refine bf ?_
 refine cp aK (agz _ J J) ?_
 refine mA ?_
 rw [<-adH n]
 have hz:n.natAbs=0\/0<n.natAbs:=by omega
 rcases hz with hz | hz
 ·obtain rfl:n=0:=by omega
  rw [show qv (decide ((0:Int)<0)) (0:Int).natAbs 1=0 from acp _ _,nP]
  exact aa4
 ·rw [ade _ hz J,Nat.gcd_one_right,Nat.div_one,if_pos J]
  exact fS [] rfl rfl rfl rfl rfl cK (.agg (.cons (.pure rfl) (.cons (.pure (iQ _)) (.cons (.pure rfl) .nil))))
open H0 in
theorem azt (a b:Rat) (h:rl a+rl b<=1099511627776):av Tryz.prog 21 [ae a,ae b] (bL (decide (a=b))):=by
 have a1:=kW a
 have a3:=lM a
 have c1:=kW b
 have c3:=lM b
 refine aN Tryz.func21 ?_
 refine gz ?_
 refine dy 10 rfl ?_ ?_<;>intro l9 rR
 ·refine ax ?_
  refine cp aq (aad _ _ J J) ?_
  refine aJ ?_
  refine dy 18 rfl ?_ ?_<;>intro rD rZ
  ·refine ax ?_
   refine cp aq (aad _ _ J J) ?_
   refine aA ?_
   rw [<-asS l9 rD]
   exact dF
  ·refine bp ?_
   rw [<-ate rD]
   exact dF
 ·refine mV ?_
  rw [<-amP l9]
  exact dF
open H0 in
theorem aoN (q:Rat):av Tryz.prog 70 [ae q] (iL (cM q)):=by
 have hq:=aoQ q
 refine aN Tryz.func70 ?_
 refine gz ?_
 refine aC rfl ?_ ?_<;>intro tj h6
 ·have hz:q.num.natAbs=0:=pW.1 (List.eq_nil_of_length_eq_zero J)
  refine aR ?_
  rw [hq,if_pos hz]
  exact dF
 ·have hz:q.num.natAbs≠0:=fun e=>by rw [e,tQ] at h6;exact h6 rfl
  refine bq ?_
  refine aC rfl ?_ ?_<;>intro ni h8
  ·refine aR ?_
   rw [hq,if_neg hz,if_pos h8]
   exact dF
  ·refine bf ?_
   rw [hq,if_neg hz,if_neg h8]
   exact dF
open H0 in
theorem aug (q:Rat):av Tryz.prog 129 [ae q] (ae (-q)):=by
 refine aN Tryz.func129 ?_
 refine bu ?_
 refine dy 6 rfl ?_ ?_<;>intro tj h6
 ·refine aA ?_
  refine bI rfl (.afq rfl rfl rfl T4 (by first | exact adS tj | exact aet tj)) ?_
  refine bq ?_
  exact fk
 ·refine aA ?_
  refine bI rfl (.afq rfl rfl rfl T4 (by first | exact adS tj | exact aet tj)) ?_
  refine bq ?_
  exact fk
open H0 in
theorem rE (a b:Rat) (h:rl a+rl b<=34359738368):av Tryz.prog 60 [ae a,ae b] (ae (a*b)):=by
 have a1:=kW a
 have a2:=mr a
 have a3:=lM a
 have c1:=kW b
 have c2:=mr b
 have c3:=lM b
 have a0:=a.den_pos
 have c0:=b.den_pos
 have m1:=dS a1 c2
 have m2:=dS c1 a2
 have m3:=dS a2 c2
 have m4:=dS a1 c1
 have m5:=dS a2 c1
 have m6:=dS c2 a2
 have np:=Nat.mul_pos a0 c0
 have hE:=afE (decide (a<0)) (decide (b<0)) a.num.natAbs a.den b.num.natAbs b.den
 rw [kP,kP] at hE
 refine aN Tryz.func60 ?_
 refine bf ?_
 refine aY 16 an ?_
 refine bq ?_
 refine cp aq (vK _ _ J J) ?_
 refine ar ?_
 refine cp aK (ve _) ?_
 refine ar ?_
 refine cp aK (ve _) ?_
 refine cp aq (vK _ _ J J) ?_
 refine cp fH (aa3 _ _ _ J J np) ?_
 refine ax ?_
 rw [hE]
 exact fk
open H0 in
theorem anU (a b:Rat) (h:rl a+rl b<=34359738368):av Tryz.prog 226 [ae a,ae b] (.a7 [ae (a/b),iL (if b=0 then 3 else 0)]):=by
 have a1:=kW a
 have a2:=mr a
 have a3:=lM a
 have c1:=kW b
 have c2:=mr b
 have c3:=lM b
 have a0:=a.den_pos
 have c0:=b.den_pos
 have m1:=dS a1 c2
 have m2:=dS c1 a2
 have m3:=dS a2 c2
 have m4:=dS a1 c1
 have m5:=dS a2 c1
 have m6:=dS c2 a2
 have np:=Nat.mul_pos a0 c0
 have hE:=ae7 (decide (a<0)) (decide (b<0)) a.num.natAbs a.den b.num.natAbs b.den
 rw [kP,kP] at hE
 refine aN Tryz.func226 ?_
 refine im ?_
 refine aC rfl ?_ ?_<;>intro tf h9
 ·have hz:=we (q:=b) J
  refine bq ?_
  subst hz
  rw [show a/0=0 by rw [Rat.div_def];simp,nP]
  exact sE [] rfl rfl rfl rfl rfl cK (.pure rfl) rfl (.pure rfl)
 ·have fo:0<b.num.natAbs:=ag9.1 J
  have hz:b≠0:=by rintro rfl;exact absurd fo ai
  refine aJ ?_
  refine aY 16 an ?_
  refine bf ?_
  refine cp aK (ve _) ?_
  refine cp aq (vK _ _ J J) ?_
  refine ar ?_
  refine cp aK (ve _) ?_
  refine aL ?_
  refine cp aq (vK _ _ J J) ?_
  refine cp fH (aa3 _ _ _ J J (Nat.mul_pos a0 fo)) ?_
  refine a6 ?_
  rw [hE,if_neg hz]
  exact adj
open H0 in
theorem atm (a b:Rat) (h:rl a+rl b<=34359738368):av Tryz.prog 128 [ae a,ae b] (ae (a/b)):=by
 refine aN Tryz.func128 ?_
 refine bp ?_
 refine cp aq (anU _ _ J) ?_
 refine gz ?_
 exact fk
namespace ao9
theorem aH {p q:Prop} (k:q) (e:p=q:=by simp only [e1,e2,e3,e4,p1,p2,p3,q1,q2,q3,l1,t0,t1,r1,r2,r3,r4,Nat.zero_add,Nat.reduceMul,Nat.reduceAdd,b1,b2,b3,b4,b5,b6,i1,i2,i3,i4,i5,i6,Nat.reduceBEq,bU,yf];exact rfl):p:=e.mpr k
end ao9
open ao9 in
theorem nw (a b:Rat) (h:rl a+rl b<=34359738368):av Tryz.prog 59 [ae a,ae b] (ae (a+b)):=by
 have a1:=kW a
 have a2:=mr a
 have a3:=lM a
 have c1:=kW b
 have c2:=mr b
 have c3:=lM b
 have a0:=a.den_pos
 have c0:=b.den_pos
 have m1:=dS a1 c2
 have m2:=dS c1 a2
 have m3:=dS a2 c2
 have m4:=dS a1 c1
 have m5:=dS a2 c1
 have m6:=dS c2 a2
 have np:=Nat.mul_pos a0 c0
 have m7:(al (a.num.natAbs*b.den+b.num.natAbs*a.den)).length<=rl a+rl b+1:=agO m1 J
 have ls1:(al (a.num.natAbs*b.den-b.num.natAbs*a.den)).length<=rl a+rl b:=Nat.le_trans (mH (Nat.sub_le _ _)) m1
 have ls2:(al (b.num.natAbs*a.den-a.num.natAbs*b.den)).length<=rl b+rl a:=Nat.le_trans (mH (Nat.sub_le _ _)) m2
 refine aN Tryz.func59 ?_
 have yf:True:=trivial
 refine mA ?_
 refine aC rfl ?_ ?_<;>intro nB k6
 ·have hz:=we (q:=a) J
  refine bf ?_
  rw [hz,Rat.zero_add]
  exact fk
 ·refine bp ?_
  refine aC rfl ?_ ?_<;>intro xw yp
  ·have hz:=we (q:=b) J
   refine bf ?_
   rw [hz,Rat.add_zero]
   exact fk
  ·refine aJ ?_
   refine aY 12 an ?_
   refine aJ ?_
   refine cp aK (ve _) ?_
   refine cp aq (vK _ _ J J) ?_
   refine aJ ?_
   refine cp aK (ve _) ?_
   refine cp aq (vK _ _ J J) ?_
   refine a6 ?_
   refine aY 6 an ?_
   refine ar ?_
   refine cp aK (ve _) ?_
   refine ar ?_
   refine cp aK (ve _) ?_
   refine cp aq (vK _ _ J J) ?_
   refine dj ?_
   refine aC rfl ?_ ?_<;>intro aaU h41
   ·refine ar ?_
    refine aY 7 an ?_
    refine ax ?_
    refine cp aq (ayb _ _ J J) ?_
    refine ar ?_
    refine cp fH (aa3 _ _ _ J J np) ?_
    refine a6 ?_
    have E:=add_same (k:=1) (x:=a.num.natAbs*b.den) (y:=b.num.natAbs*a.den) (d:=a.den*b.den) J (Nat.mul_one _) (Nat.mul_one _) (Nat.mul_one _) (eq_of_beq aaU)
    rw [aeG,<-eq_of_beq aaU] at E
    rw [E]
    exact fk
   ·refine aR ?_
    refine cp aq (aad _ _ J J) ?_
    refine aJ ?_
    refine aC rfl ?_ ?_<;>intro aDq h52
    ·have bE:a.num.natAbs*b.den<b.num.natAbs*a.den:=by unfold iR at h52;split at h52;assumption;split at h52<;>omega
     have yf:=abZ (Nat.le_of_lt bE)
     refine ax ?_
     refine cp aq (ajV _ _ J J) ?_
     refine dj ?_
     refine cp fH (aa3 _ _ _ J J np) ?_
     refine a6 ?_
     have E:=ah4 (k:=1) (x:=a.num.natAbs*b.den) (y:=b.num.natAbs*a.den) (d:=a.den*b.den) J (Nat.mul_one _) (Nat.mul_one _) (Nat.mul_one _) (abg aaU) (Nat.le_of_lt bE)
     rw [aeG] at E
     rw [E]
     exact fk
    ·have hle:b.num.natAbs*a.den<=a.num.natAbs*b.den:=by
      rcases Nat.lt_or_ge (a.num.natAbs*b.den) (b.num.natAbs*a.den) with h | h
      ·rw [ox h] at h52;omega
      ·exact h
     have yf:=abZ hle
     refine aA ?_
     refine cp aq (ajV _ _ J J) ?_
     refine dj ?_
     refine cp fH (aa3 _ _ _ J J np) ?_
     refine ax ?_
     have E:=ah5 (k:=1) (x:=a.num.natAbs*b.den) (y:=b.num.natAbs*a.den) (d:=a.den*b.den) J (Nat.mul_one _) (Nat.mul_one _) (Nat.mul_one _) (abg aaU) hle
     rw [aeG] at E
     rw [E]
     exact fk
open H0 in
theorem yq (a b:Rat) (h:rl a+rl b<=34359738368):av Tryz.prog 62 [ae a,ae b] (ae (a-b)):=by
 refine aN Tryz.func62 ?_
 refine bf ?_
 refine aY 4 an ?_
 refine aL ?_
 refine cp aK (aug _) ?_
 refine cp aq (nw _ _ (by rw [afr];omega)) ?_
 refine ax ?_
 rw [Rat.sub_eq_add_neg]
 exact fk
open H0 in
theorem abN (a b:Rat) (h:rl a+rl b<=34359738368):av Tryz.prog 58 [ae a,ae b] (iL (fh a b)):=by
 have a1:=kW a
 have a2:=mr a
 have a3:=lM a
 have c1:=kW b
 have c2:=mr b
 have c3:=lM b
 have a0:=a.den_pos
 have c0:=b.den_pos
 have m1:=dS a1 c2
 have m2:=dS c1 a2
 have m3:=dS a2 c2
 have m4:=dS a1 c1
 have m5:=dS a2 c1
 have m6:=dS c2 a2
 have np:=Nat.mul_pos a0 c0
 refine aN Tryz.func58 ?_
 refine bq ?_
 refine aY 6 an ?_
 refine ar ?_
 refine cp aK (aoN _) ?_
 refine ar ?_
 refine cp aK (aoN _) ?_
 refine bp ?_
 refine aC rfl ?_ ?_<;>intro ot jS
 ·refine bf ?_
  refine aC rfl ?_ ?_<;>intro aaW xX
  ·refine bf ?_
   rw [aq8 xX]
   exact dF
  ·refine bq ?_
   rw [apu J]
   exact dF
 ·have mJ:cM a=cM b:=by omega
  obtain⟨c,hc⟩:∃ c,c=iR (a.num.natAbs*b.den) (b.num.natAbs*a.den):=⟨_,rfl⟩
  refine aJ ?_
  refine aY 12 an ?_
  refine aJ ?_
  refine cp aK (ve _) ?_
  refine cp aq (vK _ _ J J) ?_
  refine aJ ?_
  refine cp aK (ve _) ?_
  refine cp aq (vK _ _ J J) ?_
  refine cp aq (aad _ _ J J) ?_
  refine bC ?_
  refine aC rfl ?_ ?_<;>intro aaC yx
  ·refine bq ?_
   rw [ad9 mJ,if_pos yx,<-aps rfl]
   exact dF
  ·refine bq ?_
   rw [ad9 mJ,if_neg yx]
   exact dF
end Go.Proofs.YtckppbhafancnaaGreat
end
