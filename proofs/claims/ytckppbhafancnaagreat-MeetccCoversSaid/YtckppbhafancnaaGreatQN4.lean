/- Texts LgTy, N1, N2, N3, N4, N5, N6, N7, N8, N9, N10, N11, R1, R2, R3, R4, R5 of this proof, joined. -/
import Derived.Test.YtckppbhafancnaaGreatQN3
import Derived.Test.YtckppbhafancnaaGreatChecked
set_option linter.unusedVariables false
set_option linter.unusedSimpArgs false
section
set_option linter.unusedVariables false
set_option linter.unusedSimpArgs false
set_option maxHeartbeats 8000000
set_option maxRecDepth 100000
namespace Go.Proofs.YtckppbhafancnaaGreat
open Go.Lg
theorem fol:Tryz.prog.follows .mixedOrders=true:=by kernel_rfl
theorem T2:bp Tryz.prog 2 1 false:=⟨by kernel_rfl,_,Tryz.underlying2,rfl⟩
theorem B2:kM Tryz.prog 2 8:=⟨Tryz.t2,by kernel_rfl,rfl⟩
theorem Z2:cU Tryz.prog 2 (.v (.int .i64 0)):=⟨Tryz.t2,_,by kernel_rfl,rfl,rfl,fun _ _ _=>fp rfl⟩
instance:TI Tryz.prog 2 1 false:=⟨T2⟩
theorem T3:bp Tryz.prog 3 1 false:=⟨by kernel_rfl,_,Tryz.underlying3,rfl⟩
theorem B3:kM Tryz.prog 3 8:=⟨Tryz.t3,by kernel_rfl,rfl⟩
theorem Z3:cU Tryz.prog 3 (.v (.int .i64 0)):=⟨Tryz.t3,_,by kernel_rfl,rfl,rfl,fun _ _ _=>fp rfl⟩
instance:TI Tryz.prog 3 1 false:=⟨T3⟩
instance:ZI Tryz.prog 3 (.v (.int .i64 0)):=⟨Z3⟩
instance:UN Tryz.prog 4 .bool:=⟨Tryz.underlying4⟩
theorem T4:bp Tryz.prog 4 1 false:=⟨by kernel_rfl,_,Tryz.underlying4,rfl⟩
instance:TI Tryz.prog 4 1 false:=⟨T4⟩
instance:UN Tryz.prog 5 (.int .u8):=⟨Tryz.underlying5⟩
instance:UN Tryz.prog 22 (.slice 3):=⟨Tryz.underlying22⟩
theorem T22:bp Tryz.prog 22 1 false:=⟨by kernel_rfl,_,Tryz.underlying22,rfl⟩
instance:TI Tryz.prog 22 1 false:=⟨T22⟩
instance:UN Tryz.prog 25 (.slice 31):=⟨Tryz.underlying25⟩
theorem T25:bp Tryz.prog 25 1 false:=⟨by kernel_rfl,_,Tryz.underlying25,rfl⟩
instance:TI Tryz.prog 25 1 false:=⟨T25⟩
instance:UN Tryz.prog 26 (.slice 42):=⟨Tryz.underlying26⟩
theorem T26:bp Tryz.prog 26 1 false:=⟨by kernel_rfl,_,Tryz.underlying26,rfl⟩
instance:TI Tryz.prog 26 1 false:=⟨T26⟩
theorem jI:bp Tryz.prog 28 3 true:=⟨by kernel_rfl,_,Tryz.underlying28,rfl⟩
theorem B28:kM Tryz.prog 28 56:=⟨Tryz.t28,by kernel_rfl,rfl⟩
theorem Z28:cU Tryz.prog 28 (.agg [.v (.int .i64 0),.v (.slice none 0 0),.v (.slice none 0 0)]):=⟨Tryz.t28,_,by kernel_rfl,rfl,rfl,fun _ _ _=>ec (bn (c1:=[.int .i64 0]) rfl (fp rfl) (bn (c1:=[.slice none 0 0]) rfl (fp rfl) (bn (c1:=[.slice none 0 0]) rfl (fp rfl) (eg))))⟩
instance:TI Tryz.prog 28 3 true:=⟨jI⟩
instance:ZI Tryz.prog 28 (.agg [.v (.int .i64 0),.v (.slice none 0 0),.v (.slice none 0 0)]):=⟨Z28⟩
theorem aC1:jV Tryz.prog 28 [(1,false),(1,false),(1,false)]:=⟨_,Tryz.underlying28,⟨rfl,T3,⟨rfl,T25,⟨rfl,T26,trivial⟩⟩⟩,by decide⟩
instance:SI Tryz.prog 28 [(1,false),(1,false),(1,false)]:=⟨aC1⟩
instance:UN Tryz.prog 29 (.slice 202):=⟨Tryz.underlying29⟩
theorem T29:bp Tryz.prog 29 1 false:=⟨by kernel_rfl,_,Tryz.underlying29,rfl⟩
instance:TI Tryz.prog 29 1 false:=⟨T29⟩
theorem cJ:bp Tryz.prog 31 3 true:=⟨by kernel_rfl,_,Tryz.underlying31,rfl⟩
theorem kA:kM Tryz.prog 31 56:=⟨Tryz.t31,by kernel_rfl,rfl⟩
theorem Z31:cU Tryz.prog 31 (ae 0):=⟨Tryz.t31,_,by kernel_rfl,rfl,ao.pure 0,fun _ _ _=>db⟩
theorem jY:cU Tryz.prog 31 (.agg [.v (.bool false),.list 1 [],.list 1 []]):=oa ▸ Z31
instance:TI Tryz.prog 31 3 true:=⟨cJ⟩
instance:BI Tryz.prog 31 56:=⟨kA⟩
instance:ZI Tryz.prog 31 (.agg [.v (.bool false),.list 1 [],.list 1 []]):=⟨jY⟩
theorem aq9:jV Tryz.prog 31 [(1,false),(1,false),(1,false)]:=⟨_,Tryz.underlying31,⟨rfl,T4,⟨rfl,T29,⟨rfl,T29,trivial⟩⟩⟩,by decide⟩
instance:SI Tryz.prog 31 [(1,false),(1,false),(1,false)]:=⟨aq9⟩
theorem T35:bp Tryz.prog 35 5 true:=⟨by kernel_rfl,_,Tryz.underlying35,rfl⟩
theorem Z35:cU Tryz.prog 35 (.agg [.v (.int .i64 0),.v (.int .i64 0),ae 0]):=⟨Tryz.t35,_,by kernel_rfl,rfl,by simp [LV.pure,aG,ao.pure],fun _ _ _=>ec (bn (c1:=[.int .i64 0]) rfl (fp rfl) (bn (c1:=[.int .i64 0]) rfl (fp rfl) (bn (c1:=[.bool false,.slice none 0 0,.slice none 0 0]) cm (db) (eg))))⟩
instance:TI Tryz.prog 35 5 true:=⟨T35⟩
instance:ZI Tryz.prog 35 (.agg [.v (.int .i64 0),.v (.int .i64 0),ae 0]):=⟨Z35⟩
theorem afd:jV Tryz.prog 35 [(1,false),(1,false),(3,true)]:=⟨_,Tryz.underlying35,⟨rfl,T3,⟨rfl,T3,⟨rfl,cJ,trivial⟩⟩⟩,by decide⟩
instance:SI Tryz.prog 35 [(1,false),(1,false),(3,true)]:=⟨afd⟩
instance:UN Tryz.prog 40 (.array 3 31):=⟨Tryz.underlying40⟩
theorem ij:bp Tryz.prog 40 9 true:=⟨by kernel_rfl,_,Tryz.underlying40,rfl⟩
theorem B40:kM Tryz.prog 40 168:=⟨Tryz.t40,by kernel_rfl,rfl⟩
theorem Z40:cU Tryz.prog 40 (.agg [ae 0,ae 0,ae 0]):=⟨Tryz.t40,_,by kernel_rfl,rfl,by simp [LV.pure,aG,ao.pure],fun _ _ _=>ec (bn (c1:=[.bool false,.slice none 0 0,.slice none 0 0]) cm (db) (bn (c1:=[.bool false,.slice none 0 0,.slice none 0 0]) cm (db) (bn (c1:=[.bool false,.slice none 0 0,.slice none 0 0]) cm (db) (eg))))⟩
instance:TI Tryz.prog 40 9 true:=⟨ij⟩
instance:ZI Tryz.prog 40 (.agg [ae 0,ae 0,ae 0]):=⟨Z40⟩
theorem rT:bp Tryz.prog 42 12 true:=⟨by kernel_rfl,_,Tryz.underlying42,rfl⟩
theorem B42:kM Tryz.prog 42 224:=⟨Tryz.t42,by kernel_rfl,rfl⟩
theorem zq:cU Tryz.prog 42 (.agg [.agg [ae 0,ae 0,ae 0],ae 0]):=⟨Tryz.t42,_,by kernel_rfl,rfl,by simp [LV.pure,aG,ao.pure],fun _ _ _=>ec (bn (c1:=[.bool false,.slice none 0 0,.slice none 0 0,.bool false,.slice none 0 0,.slice none 0 0,.bool false,.slice none 0 0,.slice none 0 0]) cm (ec (bn (c1:=[.bool false,.slice none 0 0,.slice none 0 0]) cm (db) (bn (c1:=[.bool false,.slice none 0 0,.slice none 0 0]) cm (db) (bn (c1:=[.bool false,.slice none 0 0,.slice none 0 0]) cm (db) (eg))))) (bn (c1:=[.bool false,.slice none 0 0,.slice none 0 0]) cm (db) (eg)))⟩
instance:TI Tryz.prog 42 12 true:=⟨rT⟩
instance:ZI Tryz.prog 42 (.agg [.agg [ae 0,ae 0,ae 0],ae 0]):=⟨zq⟩
theorem aCu:jV Tryz.prog 42 [(9,true),(3,true)]:=⟨_,Tryz.underlying42,⟨rfl,ij,⟨rfl,cJ,trivial⟩⟩,by decide⟩
instance:SI Tryz.prog 42 [(9,true),(3,true)]:=⟨aCu⟩
instance:UN Tryz.prog 43 (.slice 51):=⟨Tryz.underlying43⟩
theorem T43:bp Tryz.prog 43 1 false:=⟨by kernel_rfl,_,Tryz.underlying43,rfl⟩
instance:TI Tryz.prog 43 1 false:=⟨T43⟩
instance:UN Tryz.prog 49 (.slice 54):=⟨Tryz.underlying49⟩
theorem T49:bp Tryz.prog 49 1 false:=⟨by kernel_rfl,_,Tryz.underlying49,rfl⟩
instance:TI Tryz.prog 49 1 false:=⟨T49⟩
theorem nP:bp Tryz.prog 51 4 true:=⟨by kernel_rfl,_,Tryz.underlying51,rfl⟩
theorem B51:kM Tryz.prog 51 64:=⟨Tryz.t51,by kernel_rfl,rfl⟩
theorem Z51:cU Tryz.prog 51 (.agg [.v (.slice none 0 0),.v (.slice none 0 0),.v (.int .i64 0),.v (.int .i64 0)]):=⟨Tryz.t51,_,by kernel_rfl,rfl,rfl,fun _ _ _=>ec (bn (c1:=[.slice none 0 0]) rfl (fp rfl) (bn (c1:=[.slice none 0 0]) rfl (fp rfl) (bn (c1:=[.int .i64 0]) rfl (fp rfl) (bn (c1:=[.int .i64 0]) rfl (fp rfl) (eg)))))⟩
instance:TI Tryz.prog 51 4 true:=⟨nP⟩
instance:ZI Tryz.prog 51 (.agg [.v (.slice none 0 0),.v (.slice none 0 0),.v (.int .i64 0),.v (.int .i64 0)]):=⟨Z51⟩
theorem aCI:jV Tryz.prog 51 [(1,false),(1,false),(1,false),(1,false)]:=⟨_,Tryz.underlying51,⟨rfl,T49,⟨rfl,T49,⟨rfl,T3,⟨rfl,T3,trivial⟩⟩⟩⟩,by decide⟩
instance:SI Tryz.prog 51 [(1,false),(1,false),(1,false),(1,false)]:=⟨aCI⟩
theorem lE:bp Tryz.prog 54 6 true:=⟨by kernel_rfl,_,Tryz.underlying54,rfl⟩
theorem B54:kM Tryz.prog 54 112:=⟨Tryz.t54,by kernel_rfl,rfl⟩
theorem Z54:cU Tryz.prog 54 (.agg [ae 0,ae 0]):=⟨Tryz.t54,_,by kernel_rfl,rfl,by simp [LV.pure,aG,ao.pure],fun _ _ _=>ec (bn (c1:=[.bool false,.slice none 0 0,.slice none 0 0]) cm (db) (bn (c1:=[.bool false,.slice none 0 0,.slice none 0 0]) cm (db) (eg)))⟩
instance:TI Tryz.prog 54 6 true:=⟨lE⟩
instance:ZI Tryz.prog 54 (.agg [ae 0,ae 0]):=⟨Z54⟩
theorem ard:jV Tryz.prog 54 [(3,true),(3,true)]:=⟨_,Tryz.underlying54,⟨rfl,cJ,⟨rfl,cJ,trivial⟩⟩,by decide⟩
instance:SI Tryz.prog 54 [(3,true),(3,true)]:=⟨ard⟩
instance:UN Tryz.prog 66 (.array 3 40):=⟨Tryz.underlying66⟩
theorem T66:bp Tryz.prog 66 27 true:=⟨by kernel_rfl,_,Tryz.underlying66,rfl⟩
theorem Z66:cU Tryz.prog 66 (.agg [.agg [ae 0,ae 0,ae 0],.agg [ae 0,ae 0,ae 0],.agg [ae 0,ae 0,ae 0]]):=⟨Tryz.t66,_,by kernel_rfl,rfl,by simp [LV.pure,aG,ao.pure],fun _ _ _=>ec (bn (c1:=[.bool false,.slice none 0 0,.slice none 0 0,.bool false,.slice none 0 0,.slice none 0 0,.bool false,.slice none 0 0,.slice none 0 0]) cm (ec (bn (c1:=[.bool false,.slice none 0 0,.slice none 0 0]) cm (db) (bn (c1:=[.bool false,.slice none 0 0,.slice none 0 0]) cm (db) (bn (c1:=[.bool false,.slice none 0 0,.slice none 0 0]) cm (db) (eg))))) (bn (c1:=[.bool false,.slice none 0 0,.slice none 0 0,.bool false,.slice none 0 0,.slice none 0 0,.bool false,.slice none 0 0,.slice none 0 0]) cm (ec (bn (c1:=[.bool false,.slice none 0 0,.slice none 0 0]) cm (db) (bn (c1:=[.bool false,.slice none 0 0,.slice none 0 0]) cm (db) (bn (c1:=[.bool false,.slice none 0 0,.slice none 0 0]) cm (db) (eg))))) (bn (c1:=[.bool false,.slice none 0 0,.slice none 0 0,.bool false,.slice none 0 0,.slice none 0 0,.bool false,.slice none 0 0,.slice none 0 0]) cm (ec (bn (c1:=[.bool false,.slice none 0 0,.slice none 0 0]) cm (db) (bn (c1:=[.bool false,.slice none 0 0,.slice none 0 0]) cm (db) (bn (c1:=[.bool false,.slice none 0 0,.slice none 0 0]) cm (db) (eg))))) (eg))))⟩
instance:TI Tryz.prog 66 27 true:=⟨T66⟩
theorem uM:bp Tryz.prog 68 36 true:=⟨by kernel_rfl,_,Tryz.underlying68,rfl⟩
theorem Z68:cU Tryz.prog 68 (.agg [.agg [.agg [ae 0,ae 0,ae 0],.agg [ae 0,ae 0,ae 0],.agg [ae 0,ae 0,ae 0]],.agg [ae 0,ae 0,ae 0]]):=⟨Tryz.t68,_,by kernel_rfl,rfl,by simp [LV.pure,aG,ao.pure],fun _ _ _=>ec (bn (c1:=[.bool false,.slice none 0 0,.slice none 0 0,.bool false,.slice none 0 0,.slice none 0 0,.bool false,.slice none 0 0,.slice none 0 0,.bool false,.slice none 0 0,.slice none 0 0,.bool false,.slice none 0 0,.slice none 0 0,.bool false,.slice none 0 0,.slice none 0 0,.bool false,.slice none 0 0,.slice none 0 0,.bool false,.slice none 0 0,.slice none 0 0,.bool false,.slice none 0 0,.slice none 0 0]) cm (ec (bn (c1:=[.bool false,.slice none 0 0,.slice none 0 0,.bool false,.slice none 0 0,.slice none 0 0,.bool false,.slice none 0 0,.slice none 0 0]) cm (ec (bn (c1:=[.bool false,.slice none 0 0,.slice none 0 0]) cm (db) (bn (c1:=[.bool false,.slice none 0 0,.slice none 0 0]) cm (db) (bn (c1:=[.bool false,.slice none 0 0,.slice none 0 0]) cm (db) (eg))))) (bn (c1:=[.bool false,.slice none 0 0,.slice none 0 0,.bool false,.slice none 0 0,.slice none 0 0,.bool false,.slice none 0 0,.slice none 0 0]) cm (ec (bn (c1:=[.bool false,.slice none 0 0,.slice none 0 0]) cm (db) (bn (c1:=[.bool false,.slice none 0 0,.slice none 0 0]) cm (db) (bn (c1:=[.bool false,.slice none 0 0,.slice none 0 0]) cm (db) (eg))))) (bn (c1:=[.bool false,.slice none 0 0,.slice none 0 0,.bool false,.slice none 0 0,.slice none 0 0,.bool false,.slice none 0 0,.slice none 0 0]) cm (ec (bn (c1:=[.bool false,.slice none 0 0,.slice none 0 0]) cm (db) (bn (c1:=[.bool false,.slice none 0 0,.slice none 0 0]) cm (db) (bn (c1:=[.bool false,.slice none 0 0,.slice none 0 0]) cm (db) (eg))))) (eg))))) (bn (c1:=[.bool false,.slice none 0 0,.slice none 0 0,.bool false,.slice none 0 0,.slice none 0 0,.bool false,.slice none 0 0,.slice none 0 0]) cm (ec (bn (c1:=[.bool false,.slice none 0 0,.slice none 0 0]) cm (db) (bn (c1:=[.bool false,.slice none 0 0,.slice none 0 0]) cm (db) (bn (c1:=[.bool false,.slice none 0 0,.slice none 0 0]) cm (db) (eg))))) (eg)))⟩
instance:TI Tryz.prog 68 36 true:=⟨uM⟩
theorem aCD:jV Tryz.prog 68 [(27,true),(9,true)]:=⟨_,Tryz.underlying68,⟨rfl,T66,⟨rfl,ij,trivial⟩⟩,by decide⟩
instance:SI Tryz.prog 68 [(27,true),(9,true)]:=⟨aCD⟩
theorem Z83:cU Tryz.prog 83 (.agg [.agg [.v (.int .i64 0),.v (.slice none 0 0),.v (.slice none 0 0)],.agg [.v (.int .i64 0),.v (.slice none 0 0),.v (.slice none 0 0)]]):=⟨Tryz.t83,_,by kernel_rfl,rfl,rfl,fun _ _ _=>ec (bn (c1:=[.int .i64 0,.slice none 0 0,.slice none 0 0]) rfl (ec (bn (c1:=[.int .i64 0]) rfl (fp rfl) (bn (c1:=[.slice none 0 0]) rfl (fp rfl) (bn (c1:=[.slice none 0 0]) rfl (fp rfl) (eg))))) (bn (c1:=[.int .i64 0,.slice none 0 0,.slice none 0 0]) rfl (ec (bn (c1:=[.int .i64 0]) rfl (fp rfl) (bn (c1:=[.slice none 0 0]) rfl (fp rfl) (bn (c1:=[.slice none 0 0]) rfl (fp rfl) (eg))))) (eg)))⟩
theorem Z87:cU Tryz.prog 87 (.agg [.agg [.v (.int .i64 0),.v (.int .i64 0),ae 0],.v (.slice none 0 0),.v (.int .i64 0)]):=⟨Tryz.t87,_,by kernel_rfl,rfl,by simp [LV.pure,aG,ao.pure],fun _ _ _=>ec (bn (c1:=[.int .i64 0,.int .i64 0,.bool false,.slice none 0 0,.slice none 0 0]) cm (ec (bn (c1:=[.int .i64 0]) rfl (fp rfl) (bn (c1:=[.int .i64 0]) rfl (fp rfl) (bn (c1:=[.bool false,.slice none 0 0,.slice none 0 0]) cm (db) (eg))))) (bn (c1:=[.slice none 0 0]) rfl (fp rfl) (bn (c1:=[.int .i64 0]) rfl (fp rfl) (eg))))⟩
theorem anM:jV Tryz.prog 87 [(5,true),(1,false),(1,false)]:=⟨_,Tryz.underlying87,⟨rfl,T35,⟨rfl,T43,⟨rfl,T3,trivial⟩⟩⟩,by decide⟩
instance:SI Tryz.prog 87 [(5,true),(1,false),(1,false)]:=⟨anM⟩
instance:UN Tryz.prog 88 (.slice 28):=⟨Tryz.underlying88⟩
theorem T92:bp Tryz.prog 92 3 true:=⟨by kernel_rfl,_,Tryz.underlying92,rfl⟩
theorem Z92:cU Tryz.prog 92 (.agg [.v (.bool false),.v (.int .i64 0),.v (.int .i64 0)]):=⟨Tryz.t92,_,by kernel_rfl,rfl,rfl,fun _ _ _=>ec (bn (c1:=[.bool false]) rfl (fp rfl) (bn (c1:=[.int .i64 0]) rfl (fp rfl) (bn (c1:=[.int .i64 0]) rfl (fp rfl) (eg))))⟩
instance:TI Tryz.prog 92 3 true:=⟨T92⟩
instance:ZI Tryz.prog 92 (.agg [.v (.bool false),.v (.int .i64 0),.v (.int .i64 0)]):=⟨Z92⟩
theorem az8:jV Tryz.prog 92 [(1,false),(1,false),(1,false)]:=⟨_,Tryz.underlying92,⟨rfl,T4,⟨rfl,T3,⟨rfl,T3,trivial⟩⟩⟩,by decide⟩
instance:SI Tryz.prog 92 [(1,false),(1,false),(1,false)]:=⟨az8⟩
instance:UN Tryz.prog 97 (.array 3 54):=⟨Tryz.underlying97⟩
theorem T97:bp Tryz.prog 97 18 true:=⟨by kernel_rfl,_,Tryz.underlying97,rfl⟩
theorem Z97:cU Tryz.prog 97 (.agg [.agg [ae 0,ae 0],.agg [ae 0,ae 0],.agg [ae 0,ae 0]]):=⟨Tryz.t97,_,by kernel_rfl,rfl,by simp [LV.pure,aG,ao.pure],fun _ _ _=>ec (bn (c1:=[.bool false,.slice none 0 0,.slice none 0 0,.bool false,.slice none 0 0,.slice none 0 0]) cm (ec (bn (c1:=[.bool false,.slice none 0 0,.slice none 0 0]) cm (db) (bn (c1:=[.bool false,.slice none 0 0,.slice none 0 0]) cm (db) (eg)))) (bn (c1:=[.bool false,.slice none 0 0,.slice none 0 0,.bool false,.slice none 0 0,.slice none 0 0]) cm (ec (bn (c1:=[.bool false,.slice none 0 0,.slice none 0 0]) cm (db) (bn (c1:=[.bool false,.slice none 0 0,.slice none 0 0]) cm (db) (eg)))) (bn (c1:=[.bool false,.slice none 0 0,.slice none 0 0,.bool false,.slice none 0 0,.slice none 0 0]) cm (ec (bn (c1:=[.bool false,.slice none 0 0,.slice none 0 0]) cm (db) (bn (c1:=[.bool false,.slice none 0 0,.slice none 0 0]) cm (db) (eg)))) (eg))))⟩
instance:TI Tryz.prog 97 18 true:=⟨T97⟩
instance:ZI Tryz.prog 97 (.agg [.agg [ae 0,ae 0],.agg [ae 0,ae 0],.agg [ae 0,ae 0]]):=⟨Z97⟩
instance:UN Tryz.prog 116 (.array 4 31):=⟨Tryz.underlying116⟩
theorem agW:bp Tryz.prog 116 12 true:=⟨by kernel_rfl,_,Tryz.underlying116,rfl⟩
theorem aBd:cU Tryz.prog 116 (.agg [ae 0,ae 0,ae 0,ae 0]):=⟨Tryz.t116,_,by kernel_rfl,rfl,by simp [LV.pure,aG,ao.pure],fun _ _ _=>ec (bn (c1:=[.bool false,.slice none 0 0,.slice none 0 0]) cm (db) (bn (c1:=[.bool false,.slice none 0 0,.slice none 0 0]) cm (db) (bn (c1:=[.bool false,.slice none 0 0,.slice none 0 0]) cm (db) (bn (c1:=[.bool false,.slice none 0 0,.slice none 0 0]) cm (db) (eg)))))⟩
instance:TI Tryz.prog 116 12 true:=⟨agW⟩
instance:ZI Tryz.prog 116 (.agg [ae 0,ae 0,ae 0,ae 0]):=⟨aBd⟩
theorem aBO:cU Tryz.prog 120 (.agg [.v (.slice none 0 0),.v (.int .i64 0)]):=⟨Tryz.t120,_,by kernel_rfl,rfl,rfl,fun _ _ _=>ec (bn (c1:=[.slice none 0 0]) rfl (fp rfl) (bn (c1:=[.int .i64 0]) rfl (fp rfl) (eg)))⟩
theorem arx:jV Tryz.prog 120 [(1,false),(1,false)]:=⟨_,Tryz.underlying120,⟨rfl,T22,⟨rfl,T3,trivial⟩⟩,by decide⟩
instance:SI Tryz.prog 120 [(1,false),(1,false)]:=⟨arx⟩
instance:UN Tryz.prog 123 (.slice 2):=⟨Tryz.underlying123⟩
instance:UN Tryz.prog 134 (.int .u64):=⟨Tryz.underlying134⟩
instance:UN Tryz.prog 137 (.slice 159):=⟨Tryz.underlying137⟩
theorem aps:bp Tryz.prog 137 1 false:=⟨by kernel_rfl,_,Tryz.underlying137,rfl⟩
instance:TI Tryz.prog 137 1 false:=⟨aps⟩
theorem afg:bp Tryz.prog 139 3 true:=⟨by kernel_rfl,_,Tryz.underlying139,rfl⟩
theorem asI:cU Tryz.prog 139 (.agg [.v (.int .i64 0),.v (.slice none 0 0),.v (.slice none 0 0)]):=⟨Tryz.t139,_,by kernel_rfl,rfl,rfl,fun _ _ _=>ec (bn (c1:=[.int .i64 0]) rfl (fp rfl) (bn (c1:=[.slice none 0 0]) rfl (fp rfl) (bn (c1:=[.slice none 0 0]) rfl (fp rfl) (eg))))⟩
instance:TI Tryz.prog 139 3 true:=⟨afg⟩
instance:ZI Tryz.prog 139 (.agg [.v (.int .i64 0),.v (.slice none 0 0),.v (.slice none 0 0)]):=⟨asI⟩
theorem aAO:jV Tryz.prog 139 [(1,false),(1,false),(1,false)]:=⟨_,Tryz.underlying139,⟨rfl,T3,⟨rfl,T25,⟨rfl,aps,trivial⟩⟩⟩,by decide⟩
instance:SI Tryz.prog 139 [(1,false),(1,false),(1,false)]:=⟨aAO⟩
theorem vJ:bp Tryz.prog 147 3 true:=⟨by kernel_rfl,_,Tryz.underlying147,rfl⟩
theorem awy:kM Tryz.prog 147 56:=⟨Tryz.t147,by kernel_rfl,rfl⟩
theorem aBw:cU Tryz.prog 147 (.agg [.v (.slice none 0 0),.v (.int .i64 0),.v (.slice none 0 0)]):=⟨Tryz.t147,_,by kernel_rfl,rfl,rfl,fun _ _ _=>ec (bn (c1:=[.slice none 0 0]) rfl (fp rfl) (bn (c1:=[.int .i64 0]) rfl (fp rfl) (bn (c1:=[.slice none 0 0]) rfl (fp rfl) (eg))))⟩
instance:TI Tryz.prog 147 3 true:=⟨vJ⟩
instance:ZI Tryz.prog 147 (.agg [.v (.slice none 0 0),.v (.int .i64 0),.v (.slice none 0 0)]):=⟨aBw⟩
theorem aCU:jV Tryz.prog 147 [(1,false),(1,false),(1,false)]:=⟨_,Tryz.underlying147,⟨rfl,T49,⟨rfl,T3,⟨rfl,T22,trivial⟩⟩⟩,by decide⟩
instance:SI Tryz.prog 147 [(1,false),(1,false),(1,false)]:=⟨aCU⟩
instance:UN Tryz.prog 148 (.slice 147):=⟨Tryz.underlying148⟩
instance:UN Tryz.prog 155 (.slice 31):=⟨Tryz.underlying155⟩
theorem azp:bp Tryz.prog 155 1 false:=⟨by kernel_rfl,_,Tryz.underlying155,rfl⟩
instance:TI Tryz.prog 155 1 false:=⟨azp⟩
instance:UN Tryz.prog 156 (.array 4 155):=⟨Tryz.underlying156⟩
theorem arz:bp Tryz.prog 156 4 true:=⟨by kernel_rfl,_,Tryz.underlying156,rfl⟩
theorem auY:cU Tryz.prog 156 (.agg [.v (.slice none 0 0),.v (.slice none 0 0),.v (.slice none 0 0),.v (.slice none 0 0)]):=⟨Tryz.t156,_,by kernel_rfl,rfl,rfl,fun _ _ _=>ec (bn (c1:=[.slice none 0 0]) rfl (fp rfl) (bn (c1:=[.slice none 0 0]) rfl (fp rfl) (bn (c1:=[.slice none 0 0]) rfl (fp rfl) (bn (c1:=[.slice none 0 0]) rfl (fp rfl) (eg)))))⟩
instance:TI Tryz.prog 156 4 true:=⟨arz⟩
instance:ZI Tryz.prog 156 (.agg [.v (.slice none 0 0),.v (.slice none 0 0),.v (.slice none 0 0),.v (.slice none 0 0)]):=⟨auY⟩
instance:UN Tryz.prog 159 (.array 4 31):=⟨Tryz.underlying159⟩
theorem yJ:bp Tryz.prog 159 12 true:=⟨by kernel_rfl,_,Tryz.underlying159,rfl⟩
theorem aoc:kM Tryz.prog 159 224:=⟨Tryz.t159,by kernel_rfl,rfl⟩
theorem aew:cU Tryz.prog 159 (.agg [ae 0,ae 0,ae 0,ae 0]):=⟨Tryz.t159,_,by kernel_rfl,rfl,by simp [LV.pure,aG,ao.pure],fun _ _ _=>ec (bn (c1:=[.bool false,.slice none 0 0,.slice none 0 0]) cm (db) (bn (c1:=[.bool false,.slice none 0 0,.slice none 0 0]) cm (db) (bn (c1:=[.bool false,.slice none 0 0,.slice none 0 0]) cm (db) (bn (c1:=[.bool false,.slice none 0 0,.slice none 0 0]) cm (db) (eg)))))⟩
instance:TI Tryz.prog 159 12 true:=⟨yJ⟩
instance:ZI Tryz.prog 159 (.agg [ae 0,ae 0,ae 0,ae 0]):=⟨aew⟩
instance:UN Tryz.prog 165 (.slice 40):=⟨Tryz.underlying165⟩
theorem ai2:bp Tryz.prog 165 1 false:=⟨by kernel_rfl,_,Tryz.underlying165,rfl⟩
instance:TI Tryz.prog 165 1 false:=⟨ai2⟩
instance:UN Tryz.prog 169 (.array 2 54):=⟨Tryz.underlying169⟩
theorem amX:bp Tryz.prog 169 12 true:=⟨by kernel_rfl,_,Tryz.underlying169,rfl⟩
theorem aoS:cU Tryz.prog 169 (.agg [.agg [ae 0,ae 0],.agg [ae 0,ae 0]]):=⟨Tryz.t169,_,by kernel_rfl,rfl,by simp [LV.pure,aG,ao.pure],fun _ _ _=>ec (bn (c1:=[.bool false,.slice none 0 0,.slice none 0 0,.bool false,.slice none 0 0,.slice none 0 0]) cm (ec (bn (c1:=[.bool false,.slice none 0 0,.slice none 0 0]) cm (db) (bn (c1:=[.bool false,.slice none 0 0,.slice none 0 0]) cm (db) (eg)))) (bn (c1:=[.bool false,.slice none 0 0,.slice none 0 0,.bool false,.slice none 0 0,.slice none 0 0]) cm (ec (bn (c1:=[.bool false,.slice none 0 0,.slice none 0 0]) cm (db) (bn (c1:=[.bool false,.slice none 0 0,.slice none 0 0]) cm (db) (eg)))) (eg)))⟩
instance:TI Tryz.prog 169 12 true:=⟨amX⟩
instance:UN Tryz.prog 170 (.array 2 169):=⟨Tryz.underlying170⟩
theorem aBH:cU Tryz.prog 170 (.agg [.agg [.agg [ae 0,ae 0],.agg [ae 0,ae 0]],.agg [.agg [ae 0,ae 0],.agg [ae 0,ae 0]]]):=⟨Tryz.t170,_,by kernel_rfl,rfl,by simp [LV.pure,aG,ao.pure],fun _ _ _=>ec (bn (c1:=[.bool false,.slice none 0 0,.slice none 0 0,.bool false,.slice none 0 0,.slice none 0 0,.bool false,.slice none 0 0,.slice none 0 0,.bool false,.slice none 0 0,.slice none 0 0]) cm (ec (bn (c1:=[.bool false,.slice none 0 0,.slice none 0 0,.bool false,.slice none 0 0,.slice none 0 0]) cm (ec (bn (c1:=[.bool false,.slice none 0 0,.slice none 0 0]) cm (db) (bn (c1:=[.bool false,.slice none 0 0,.slice none 0 0]) cm (db) (eg)))) (bn (c1:=[.bool false,.slice none 0 0,.slice none 0 0,.bool false,.slice none 0 0,.slice none 0 0]) cm (ec (bn (c1:=[.bool false,.slice none 0 0,.slice none 0 0]) cm (db) (bn (c1:=[.bool false,.slice none 0 0,.slice none 0 0]) cm (db) (eg)))) (eg)))) (bn (c1:=[.bool false,.slice none 0 0,.slice none 0 0,.bool false,.slice none 0 0,.slice none 0 0,.bool false,.slice none 0 0,.slice none 0 0,.bool false,.slice none 0 0,.slice none 0 0]) cm (ec (bn (c1:=[.bool false,.slice none 0 0,.slice none 0 0,.bool false,.slice none 0 0,.slice none 0 0]) cm (ec (bn (c1:=[.bool false,.slice none 0 0,.slice none 0 0]) cm (db) (bn (c1:=[.bool false,.slice none 0 0,.slice none 0 0]) cm (db) (eg)))) (bn (c1:=[.bool false,.slice none 0 0,.slice none 0 0,.bool false,.slice none 0 0,.slice none 0 0]) cm (ec (bn (c1:=[.bool false,.slice none 0 0,.slice none 0 0]) cm (db) (bn (c1:=[.bool false,.slice none 0 0,.slice none 0 0]) cm (db) (eg)))) (eg)))) (eg)))⟩
theorem axH:bp Tryz.prog 181 2 true:=⟨by kernel_rfl,_,Tryz.underlying181,rfl⟩
theorem awh:cU Tryz.prog 181 (.agg [.v (.slice none 0 0),.v (.slice none 0 0)]):=⟨Tryz.t181,_,by kernel_rfl,rfl,rfl,fun _ _ _=>ec (bn (c1:=[.slice none 0 0]) rfl (fp rfl) (bn (c1:=[.slice none 0 0]) rfl (fp rfl) (eg)))⟩
instance:TI Tryz.prog 181 2 true:=⟨axH⟩
instance:ZI Tryz.prog 181 (.agg [.v (.slice none 0 0),.v (.slice none 0 0)]):=⟨awh⟩
theorem awQ:jV Tryz.prog 181 [(1,false),(1,false)]:=⟨_,Tryz.underlying181,⟨rfl,ai2,⟨rfl,ai2,trivial⟩⟩,by decide⟩
instance:SI Tryz.prog 181 [(1,false),(1,false)]:=⟨awQ⟩
instance:UN Tryz.prog 202 (.int .u32):=⟨Tryz.underlying202⟩
theorem ph:bp Tryz.prog 202 1 false:=⟨by kernel_rfl,_,Tryz.underlying202,rfl⟩
theorem aah:kM Tryz.prog 202 4:=⟨Tryz.t202,by kernel_rfl,rfl⟩
theorem aac:cU Tryz.prog 202 (.v (.int .u32 0)):=⟨Tryz.t202,_,by kernel_rfl,rfl,rfl,fun _ _ _=>fp rfl⟩
instance:TI Tryz.prog 202 1 false:=⟨ph⟩
instance:BI Tryz.prog 202 4:=⟨aah⟩
instance:UN Tryz.prog 212 (.array 2 31):=⟨Tryz.underlying212⟩
theorem atC:bp Tryz.prog 212 6 true:=⟨by kernel_rfl,_,Tryz.underlying212,rfl⟩
theorem auK:cU Tryz.prog 212 (.agg [ae 0,ae 0]):=⟨Tryz.t212,_,by kernel_rfl,rfl,by simp [LV.pure,aG,ao.pure],fun _ _ _=>ec (bn (c1:=[.bool false,.slice none 0 0,.slice none 0 0]) cm (db) (bn (c1:=[.bool false,.slice none 0 0,.slice none 0 0]) cm (db) (eg)))⟩
instance:TI Tryz.prog 212 6 true:=⟨atC⟩
instance:ZI Tryz.prog 212 (.agg [ae 0,ae 0]):=⟨auK⟩
instance:UN Tryz.prog 230 (.array 3 155):=⟨Tryz.underlying230⟩
theorem arJ:bp Tryz.prog 230 3 true:=⟨by kernel_rfl,_,Tryz.underlying230,rfl⟩
theorem azF:cU Tryz.prog 230 (.agg [.v (.slice none 0 0),.v (.slice none 0 0),.v (.slice none 0 0)]):=⟨Tryz.t230,_,by kernel_rfl,rfl,rfl,fun _ _ _=>ec (bn (c1:=[.slice none 0 0]) rfl (fp rfl) (bn (c1:=[.slice none 0 0]) rfl (fp rfl) (bn (c1:=[.slice none 0 0]) rfl (fp rfl) (eg))))⟩
instance:TI Tryz.prog 230 3 true:=⟨arJ⟩
instance:ZI Tryz.prog 230 (.agg [.v (.slice none 0 0),.v (.slice none 0 0),.v (.slice none 0 0)]):=⟨azF⟩
instance:UN Tryz.prog 261 (.array 3 212):=⟨Tryz.underlying261⟩
theorem awp:cU Tryz.prog 261 (.agg [.agg [ae 0,ae 0],.agg [ae 0,ae 0],.agg [ae 0,ae 0]]):=⟨Tryz.t261,_,by kernel_rfl,rfl,by simp [LV.pure,aG,ao.pure],fun _ _ _=>ec (bn (c1:=[.bool false,.slice none 0 0,.slice none 0 0,.bool false,.slice none 0 0,.slice none 0 0]) cm (ec (bn (c1:=[.bool false,.slice none 0 0,.slice none 0 0]) cm (db) (bn (c1:=[.bool false,.slice none 0 0,.slice none 0 0]) cm (db) (eg)))) (bn (c1:=[.bool false,.slice none 0 0,.slice none 0 0,.bool false,.slice none 0 0,.slice none 0 0]) cm (ec (bn (c1:=[.bool false,.slice none 0 0,.slice none 0 0]) cm (db) (bn (c1:=[.bool false,.slice none 0 0,.slice none 0 0]) cm (db) (eg)))) (bn (c1:=[.bool false,.slice none 0 0,.slice none 0 0,.bool false,.slice none 0 0,.slice none 0 0]) cm (ec (bn (c1:=[.bool false,.slice none 0 0,.slice none 0 0]) cm (db) (bn (c1:=[.bool false,.slice none 0 0,.slice none 0 0]) cm (db) (eg)))) (eg))))⟩
instance:ZI Tryz.prog 261 (.agg [.agg [ae 0,ae 0],.agg [ae 0,ae 0],.agg [ae 0,ae 0]]):=⟨awp⟩
theorem xr:cU Tryz.prog 54 (aD (0,0)):=by rw [uw];exact Z54
instance:EC Tryz.prog 2 eW 1 false 0:=⟨m8,Z2,T2⟩
instance:EC Tryz.prog 3 eW 1 false 0:=⟨m8,Z3,T3⟩
instance:EC Tryz.prog 31 ae 3 true 0:=⟨ao,Z31,cJ⟩
instance:EC Tryz.prog 40 aS 9 true ⟨0,0,0⟩:=⟨bg,Z40,ij⟩
instance:EC Tryz.prog 42 aT 12 true ⟨⟨0,0,0⟩,0⟩:=⟨bw,zq,rT⟩
instance:EC Tryz.prog 54 aD 6 true (0,0):=⟨bS,xr,lE⟩
instance:AE Tryz.prog 54 aD 6 true (0,0):=⟨bS,xr⟩
instance:EC Tryz.prog 202 bh 1 false 0:=⟨eZ,aac,ph⟩
section
variable {f:FuncId} {fn:Func} {c:Code} {args:List LV} {r:LV}
theorem aN (hf:Tryz.prog.funcs[f]?=some fn)
  (h:cx Tryz.prog c (fun e L=>match e with | .exit _=>False | _=>nt Tryz.prog fn.results.toList L r []) (St.mk (fun t=>args.getD t .any) (hp [])))
  (hb:fn.body=some c:=by exact rfl) (hn:(fn.name== "runtime.NumGoroutine")=false:=by decide +kernel) (hd:jF fn.ntmps c=true:=by decide +kernel) (hlen:args.length<=fn.ntmps:=by exact Nat.le_of_ble_eq_true rfl) (ht:∀ g,r.bJ g=r:=by exact tm0):av Tryz.prog f args r:=atU fol hf hb hn hd hlen ht h
theorem fnO {bs:List a8} (hf:Tryz.prog.funcs[f]?=some fn)
  (h:cx Tryz.prog c (fun e L=>match e with | .exit _=>False | _=>nt Tryz.prog fn.results.toList L r bs) (St.mk (fun t=>args.getD t .any) (hp [])))
  (hb:fn.body=some c:=by exact rfl) (hn:(fn.name== "runtime.NumGoroutine")=false:=by decide +kernel) (hd:jF fn.ntmps c=true:=by decide +kernel) (hlen:args.length<=fn.ntmps:=by exact Nat.le_of_ble_eq_true rfl):nk Tryz.prog f args r bs:=auO fol hf hb hn hd hlen h
theorem ud {blk blk':a8} (hf:Tryz.prog.funcs[f]?=some fn)
  (h:cx Tryz.prog c (fun e L=>match e with | .exit _=>False | _=>u9 Tryz.prog fn.results.toList L r blk') (St.mk (fun t=>args.getD t .any) (hp [(0,blk)])))
  (hb:fn.body=some c:=by exact rfl) (hn:(fn.name== "runtime.NumGoroutine")=false:=by decide +kernel) (hd:jF fn.ntmps c=true:=by decide +kernel) (hlen:args.length<=fn.ntmps:=by exact Nat.le_of_ble_eq_true rfl) (eA:blk.mt=true:=by exact rfl):lH Tryz.prog f blk args r blk':=aAo fol hf hb hn hd hlen eA h
end
end Go.Proofs.YtckppbhafancnaaGreat
end
section
set_option linter.unusedVariables false
set_option linter.unusedSimpArgs false
set_option maxHeartbeats 8000000
set_option maxRecDepth 100000
attribute [local irreducible] Go.Lg.opsL Go.Lg.cx Go.Lg.nn Go.Lg.oB
namespace Go.Proofs.YtckppbhafancnaaGreat
open Go.Lg
namespace alR
theorem uh {p q:Prop} (k:q) (e:p=q:=by simp only [e1,e2,e3,e4,p1,p2,p3,q1,q2,q3,l1,t0,t1,r1,r2,r3,r4,Nat.zero_add,Nat.reduceMul,Nat.reduceAdd,b1,b2,b3,b4,b5,b6,i1,i2,i3,i4,i5,i6,Nat.reduceBEq,ej,ek];exact rfl):p:=e.mpr k
theorem qS {p:Prop} (h:p:=by first | (refine uh ?_;exact rfl) | exact rfl):p:=h
theorem ajo {p q:Prop} (k:q) (e:p=q:=by simp only [e1,e2,e3,e4,p1,p2,p3,q1,q2,q3,l1,t0,t1,r1,r2,r3,r4,Nat.zero_add,Nat.reduceMul,Nat.reduceAdd,b1,b2,b3,b4,b5,b6,i1,i2,i3,i4,i5,i6,Nat.reduceBEq,ek];exact rfl):p:=e.mpr k
theorem nf2 {p:Prop} (h:p:=by first | (refine ajo ?_;exact rfl) | exact rfl):p:=h
end alR
open alR H0 in
theorem amT (l:List Nat) (hl:l.length<=4611686018427387904):av Tryz.prog 149 [ee l] (ee (vr l)):=by
 unfold ee vr
 refine aN Tryz.func149 ?_
 refine dj ?_
 refine dG (fun(k:Nat) L=>(((St.mk L.slot (hp [])).put (some 0) (.list 1 (l.map bh))).put (some 3) (ah k))) (fun k=>k<=l.length/\ig l.length l=ig k l) (fun k=>k) l.length ⟨Nat.le_refl _,rfl⟩ ?_
 rintro k L1 ⟨hk,tX⟩
 refine az ?_
 refine dy 8 rfl ?_ ?_<;>intro mX h8
 ·obtain⟨j,rfl⟩:∃ j,k=j+1:=⟨k-1,J⟩
  have ej:(((j+1:Nat):Int)-1).toNat=j:=by omega
  have ek:(((j+1:Nat):Int)-1)=j:=by omega
  refine aR ?_
  refine qn qS ?_
  refine ar ?_
  refine aC rfl ?_ ?_<;>intro nH lJ
  ·refine aR ?_
   refine qn nf2 ?_
   refine aL ?_
   exact iJ j ⟨J,tX.trans (by simp only [ig];rw [if_pos (by simpa using lJ)])⟩
  ·refine bq ?_
   refine ak rfl aaO ?_
   refine ax ?_
   rw [tX,ig,if_neg (by simpa using lJ)]
   exact dB rfl (.pure (eB eZ _ _))
 ·have ku:k=0:=by omega
  subst ku
  have ej:True:=trivial
  have ek:True:=trivial
  refine aR ?_
  refine qn qS ?_
  refine bo ?_
  refine ak rfl aaO ?_
  refine ax ?_
  rw [tX]
  exact dB rfl (.pure (eB eZ _ _))
namespace aa2
theorem aH {p q:Prop} (k:q) (e:p=q:=by simp only [e1,e2,e3,e4,p1,p2,p3,q1,q2,q3,l1,t0,t1,r1,r2,r3,r4,Nat.zero_add,Nat.reduceMul,Nat.reduceAdd,b1,b2,b3,b4,b5,b6,i1,i2,i3,i4,i5,i6,Nat.reduceBEq,fc];exact rfl):p:=e.mpr k
end aa2
open aa2 in
theorem ahC (a b:List Nat) (ha:bM a) (hb:bM b) (fb:a.length<=1099511627776) (lg:b.length<=1099511627776):av Tryz.prog 248 [ee a,ee b] (ba (val a+val b)):=by
 unfold ee ba
 refine aN Tryz.func248 ?_
 refine gy ?_
 refine fZ (fun L=>∃ (x:List Nat) (y:List Nat) (L1:St),(bM x/\bM y/\x.length<=1099511627776/\y.length<=x.length/\val a+val b=val x+val y)/\L=(((St.mk L1.slot (hp [])).put (some 0) (.list 1 (x.map bh))).put (some 1) (.list 1 (y.map bh)))) ?_ ?_
 ·refine aC rfl ?_ ?_<;>intro aeu h13
  ·refine aR ?_
   exact⟨b,a,_,⟨hb,ha,lg,J,Nat.add_comm _ _⟩,((aj (aj (bC cl) cl) cl)).symm⟩
  ·refine aL ?_
   exact⟨a,b,_,⟨ha,hb,fb,J,rfl⟩,((aj (aj (bC cl) cl) cl)).symm⟩
 ·rintro _ ⟨x,y,aDE,⟨hx,hy,hlx,hyx,hxy⟩,rfl⟩
  rw [hxy]
  refine az ?_
  refine eI rfl rfl (.kK (n:=x.length+1) (m:=x.length+1) ml ml om om om) ?_
  refine im ?_
  refine rf (fun(k:Nat) (o:List Nat) (c:Nat) L=>((((((((St.mk L.slot (hp [(19,⟨1,o.map bh,true⟩)])).put (some 0) (.list 1 (x.map bh))).put (some 1) (.list 1 (y.map bh))).put (some 5) (.ref 19 1 0 (x.length+1))).put (some 6) (cC c)).put (some 20) (.list 1 (x.map bh))).put (some 21) (ah x.length)).put (some 22) (ah k))) (fun k o c=>k<=x.length/\o.length=x.length+1/\c<=1/\bM o/\val (o.take k)+4294967296 ^ k*c=val (x.take k)+val (y.take k)) (fun k o c=>x.length-k) 0 (List.replicate (x.length+1) 0) 0 ⟨Nat.zero_le _,by simp,J,sv _,by simp [val]⟩ ?_
  rintro k o c L1 ⟨hk,cN,hc,bX,hv⟩
  have r9:=gZ hx k
  have hyk:=gZ hy k
  refine az ?_
  refine aC rfl ?_ ?_<;>intro p7 oS
  ·refine anh ?_
   refine aC rfl ?_ ?_<;>intro aeG yL
   ·refine aCV ?_
    exact qc (k+1) (o.set k ((c+x.getD k 0+y.getD k 0) % 4294967296)) ((c+x.getD k 0+y.getD k 0)/4294967296) ⟨J,by simp [cN],J,kQ bX _ _ (Nat.mod_lt _ J),al4 J hv rfl⟩
   ·refine yl ?_
    exact qc (k+1) (o.set k ((c+x.getD k 0) % 4294967296)) ((c+x.getD k 0)/4294967296) ⟨J,by simp [cN],J,kQ bX _ _ (Nat.mod_lt _ J),al4 J hv (by rw [re y k J];rfl)⟩
  ·obtain rfl:k=x.length:=by omega
   refine nh ?_
   refine pO [19] pB (amT _ qO) ?_
   refine ax ?_
   rw [<-atc (c:=c % 4294967296) hyx cN bX J (by rw [Nat.mod_eq_of_lt J];exact hv)]
   exact dB rfl (.pure (xd _))
theorem oq (l:List Nat) (h:bM l) (hl:l.length<=4611686018427387904):av Tryz.prog 149 [ee l] (ba (val l)):=by
 have:=amT l hl
 rwa [sZ h] at this
namespace ada
theorem aH {p q:Prop} (k:q) (e:p=q:=by simp only [e1,e2,e3,e4,p1,p2,p3,q1,q2,q3,l1,t0,t1,r1,r2,r3,r4,Nat.zero_add,Nat.reduceMul,Nat.reduceAdd,b1,b2,b3,b4,b5,b6,i1,i2,i3,i4,i5,i6,Nat.reduceBEq,fc,ej];exact rfl):p:=e.mpr k
end ada
open ada in
theorem avZ (a:List Nat) (hl:a.length<=4611686018427387904):av Tryz.prog 147 [ee a] (bL (decide (a.length=0\/a.getD (a.length-1) 0≠0))):=by
 unfold ee
 refine aN Tryz.func147 ?_
 have ej:True:=trivial
 refine bo ?_
 refine dy 6 rfl ?_ ?_<;>intro tE h6
 ·have ej:True:=trivial
  refine bu ?_
  refine dB ?_ (.pure rfl)
  simp only [e1,e2,e3,e4,p1,p2,p3,q1,q2,q3,Nat.reduceBEq]
  congr 2
  first | (symm;rw [decide_eq_true_iff];omega) | (rw [Bool.eq_iff_iff,bne_iff_ne,decide_eq_true_iff];omega)
 ·have ej:((a.length:Int)-1).toNat=a.length-1:=by omega
  refine bu ?_
  refine dB ?_ (.pure rfl)
  simp only [e1,e2,e3,e4,p1,p2,p3,q1,q2,q3,Nat.reduceBEq]
  congr 2
  first | (symm;rw [decide_eq_true_iff];omega) | (rw [Bool.eq_iff_iff,bne_iff_ne,decide_eq_true_iff];omega)
namespace aa6
theorem aH {p q:Prop} (k:q) (e:p=q:=by simp only [e1,e2,e3,e4,p1,p2,p3,q1,q2,q3,l1,t0,t1,r1,r2,r3,r4,Nat.zero_add,Nat.reduceMul,Nat.reduceAdd,b1,b2,b3,b4,b5,b6,i1,i2,i3,i4,i5,i6,Nat.reduceBEq,fc,ej,ek];exact rfl):p:=e.mpr k
end aa6
open aa6 in
theorem aoY (a:List Nat) (h:bM a) (hl:a.length<=2):av Tryz.prog 237 [ee a] (cC (val a)):=by
 unfold ee
 refine aN Tryz.func237 ?_
 have ej:True:=trivial
 have ek:True:=trivial
 refine nj ?_
 refine jL (fun(k n:Nat) L=>((((St.mk L.slot (hp [])).put (some 0) (.list 1 (a.map bh))).put (some 3) (cC n)).put (some 4) (iL ((k:Int)-1)))) (fun k n=>k<=a.length/\n=val (a.drop k)) (fun k n=>k) a.length 0 ⟨Nat.le_refl _,by simp [val]⟩ ?_
 rintro k n L1 ⟨hk,hn⟩
 refine aR ?_
 refine aC rfl ?_ ?_<;>intro ta h9
 ·obtain⟨j,rfl⟩:∃ j,k=j+1:=⟨k-1,J⟩
  have ej:(((j+1:Nat):Int)-1).toNat=j:=by omega
  have ek:(((j+1:Nat):Int)-1)=j:=by omega
  have hb:=gZ h j
  have lI:n<4294967296:=by have:=amc h (k:=j+1) (j:=1) J;rw [hn];simpa using this
  refine yu ?_
  exact fU j (n*4294967296+a.getD j 0) ⟨J,by rw [nr J,hn];omega⟩
 ·obtain rfl:k=0:=by omega
  have ej:True:=trivial
  have ek:True:=trivial
  rw [List.drop_zero] at hn
  rw [<-hn]
  refine bu ?_
  exact dC
open aa6 in
theorem abV (a b:List Nat) (ha:bM a) (hb:bM b) (fb:a.length<=1099511627776) (lg:b.length<=1099511627776):av Tryz.prog 173 [ee a,ee b] (iL (iT (val a) (val b))):=by
 refine aN Tryz.func173 ?_
 have ej:True:=trivial
 have ek:True:=trivial
 refine bf ?_
 refine cp aK (oq _ gV J) ?_
 refine ar ?_
 refine cp aK (oq _ gV J) ?_
 refine dj ?_
 refine aC rfl ?_ ?_<;>intro oI kg
 ·have zA:(al (val a)).length<=1099511627776:=by rw [<-sZ ha];unfold vr;simp;omega
  refine bB ?_
  refine aC rfl ?_ ?_<;>intro ae8 h19
  ·have hE:=ad4 (m:=val a) (n:=val b) J
   refine bf ?_
   first | (rw [ot hE];exact dB rfl (.pure rfl)) | (rw [qi hE];exact dB rfl (.pure rfl)) | (rw [rq hE];exact dB rfl (.pure rfl))
  ·have hE:=ad4 (m:=val b) (n:=val a) J
   refine bq ?_
   first | (rw [ot hE];exact dB rfl (.pure rfl)) | (rw [qi hE];exact dB rfl (.pure rfl)) | (rw [rq hE];exact dB rfl (.pure rfl))
 ·have hlen:(al (val a)).length=(al (val b)).length:=by omega
  have zA:(al (val a)).length<=1099511627776:=by rw [<-sZ ha];unfold vr;simp;omega
  clear kg oI
  refine bu ?_
  refine dG (fun(k:Nat) L=>((((St.mk L.slot (hp [])).put (some 0) (ba (val a))).put (some 1) (ba (val b))).put (some 5) (iL ((k:Int)-1)))) (fun k=>k<=(al (val a)).length/\(al (val a)).drop k=(al (val b)).drop k) (fun k=>k) ((al (val a)).length) ⟨Nat.le_refl _,by rw [List.drop_length,List.drop_of_length_le J]⟩ ?_
  rintro k L1 ⟨hk,hd⟩
  refine aR ?_
  refine aC rfl ?_ ?_<;>intro o7 rv
  ·obtain⟨j,rfl⟩:∃ j,k=j+1:=⟨k-1,J⟩
   have ej:(((j+1:Nat):Int)-1).toNat=j:=by omega
   have ek:(((j+1:Nat):Int)-1)=j:=by omega
   refine aZ ?_
   refine aY 9 an ?_
   refine bo ?_
   refine aC rfl ?_ ?_<;>intro xf vR
   ·refine aL ?_
    refine aY 9 an ?_
    refine bo ?_
    refine aC rfl ?_ ?_<;>intro ar5 h44
    ·have hE:=af8 (cE (val a)) (k:=j) J J hd J
     rw [bU,bU] at hE
     refine bu ?_
     first | (rw [ot hE];exact dB rfl (.pure rfl)) | (rw [qi hE];exact dB rfl (.pure rfl)) | (rw [rq hE];exact dB rfl (.pure rfl))
    ·have hE:=af8 (cE (val b)) (k:=j) J J hd.symm J
     rw [bU,bU] at hE
     refine dp ?_
     first | (rw [ot hE];exact dB rfl (.pure rfl)) | (rw [qi hE];exact dB rfl (.pure rfl)) | (rw [rq hE];exact dB rfl (.pure rfl))
   ·refine bq ?_
    exact iJ j ⟨J,apP J J hd J⟩
  ·obtain rfl:k=0:=by omega
   have ej:True:=trivial
   have ek:True:=trivial
   rw [List.drop_zero,List.drop_zero] at hd
   have hE:val a=val b:=by have:=congrArg val hd;rwa [bU,bU] at this
   refine bo ?_
   first | (rw [ot hE];exact dB rfl (.pure rfl)) | (rw [qi hE];exact dB rfl (.pure rfl)) | (rw [rq hE];exact dB rfl (.pure rfl))
theorem aq8 {b:List Nat} (h:bM b):(al (val b)).length<=b.length:=by
 rw [<-sZ h];unfold vr;simp;exact Nat.min_le_right _ _
open H0 in
theorem azK (a b:List Nat) (ha:bM a) (hb:bM b) (fb:a.length<=1099511627776) (lg:b.length<=1099511627776) (bE:val a<val b):av Tryz.prog 249 [ee a,ee b] (.a7 [ee [],iL 7]):=by
 refine aN Tryz.func249 ?_
 refine bo ?_
 refine cp aq (abV _ _ gV gV J J) ?_
 refine aJ ?_
 refine aC rfl ?_ ?_<;>intro nH lJ
 ·refine bf ?_
  exact tU rfl (.nil 1) rfl (.pure rfl)
 ·exfalso;rw [ot bE] at lJ;omega
theorem auH {k br:Nat} {a b o:List Nat} (cN:k<o.length) (mJ:br<=1) (hx:a.getD k 0<4294967296) (hyb:b.getD k 0<4294967296) (bX:bM o) (hv:val (o.take k)+val (b.take k)=val (a.take k)+4294967296 ^ k*br) {y d:Nat}
  (hy:y=br+b.getD k 0) (hd:d=(18446744073709551616+a.getD k 0-y) % 18446744073709551616) :
  d/9223372036854775808<=1/\bM (o.set k (d % 4294967296))/\val ((o.set k (d % 4294967296)).take (k+1))+val (b.take (k+1))=val (a.take (k+1))+4294967296 ^ (k+1)*(d/9223372036854775808):=by
 refine⟨J,kQ bX _ _ J,?_⟩
 rcases Nat.lt_or_ge (a.getD k 0) y with h | h
 ·have h1:d % 4294967296=4294967296+a.getD k 0-y:=by omega
  have h2:d/9223372036854775808=1:=by omega
  rw [h1,h2]
  exact anm cN hv hy h J
 ·have h1:d % 4294967296=a.getD k 0-y:=by omega
  have h2:d/9223372036854775808=0:=by omega
  rw [h1,h2]
  exact ako cN hv hy h
open aa2 in
theorem auT (a b:List Nat) (ha:bM a) (hb:bM b) (fb:a.length<=1099511627776) (lg:b.length<=1099511627776) (hle:val b<=val a):av Tryz.prog 249 [ee a,ee b] (.a7 [ba (val a-val b),iL 0]):=by
 have pU:(al (val b)).length<=a.length:=by
  apply u6;exact Nat.lt_of_le_of_lt hle (zQ ha)
 refine aN Tryz.func249 ?_
 refine bo ?_
 refine cp aq (abV _ _ gV gV J J) ?_
 refine aJ ?_
 refine aC rfl ?_ ?_<;>intro nH lJ
 ·exfalso
  rcases Nat.lt_or_eq_of_le hle with h | h
  ·rw [qi h] at lJ;omega
  ·rw [rq h.symm] at lJ;omega
 ·refine aZ ?_
  refine cp aK (oq _ gV J) ?_
  refine aR ?_
  refine eI rfl rfl (.kK (n:=a.length) (m:=a.length) ml ml om om om) ?_
  refine im ?_
  refine rf (fun(k:Nat) (o:List Nat) (br:Nat) L=>((((((((St.mk L.slot (hp [(20,⟨1,o.map bh,true⟩)])).put (some 0) (.list 1 (a.map bh))).put (some 1) (ba (val b))).put (some 6) (.ref 20 1 0 a.length)).put (some 7) (cC br)).put (some 21) (.list 1 (a.map bh))).put (some 22) (ah a.length)).put (some 23) (ah k))) (fun k o br=>k<=a.length/\o.length=a.length/\br<=1/\bM o/\val (o.take k)+val ((al (val b)).take k)=val (a.take k)+4294967296 ^ k*br) (fun k o br=>a.length-k) 0 (List.replicate a.length 0) 0 ⟨Nat.zero_le _,by simp,J,sv _,by simp [val]⟩ ?_
  rintro k o br L1 ⟨hk,cN,mJ,bX,hv⟩
  have r9:=gZ ha k
  have hyk:=gG (val b) k
  refine az ?_
  refine aC rfl ?_ ?_<;>intro o7 rv
  ·refine ahZ ?_
   refine fZ (fun L=>∃ (y:Nat) (L1:St),(y=br+(al (val b)).getD k 0)/\L=(((((((((((St.mk L1.slot (hp [(20,⟨1,o.map bh,true⟩)])).put (some 0) (.list 1 (a.map bh))).put (some 1) (ba (val b))).put (some 6) (.ref 20 1 0 a.length)).put (some 7) (cC br)).put (some 21) (.list 1 (a.map bh))).put (some 22) (ah a.length)).put (some 23) (ah k)).put (some 9) (bh (a.getD k 0))).put (some 8) (ah k)).put (some 10) (cC y))) ?_ ?_
   ·refine aC rfl ?_ ?_<;>intro afX h32
    ·refine bo ?_
     exact⟨br+(al (val b)).getD k 0,_,rfl,((aj (aj (aj (aj (aj (aj (aj (aj (aj (aj (bC cl) cl) cl) cl) cl) cl) cl) cl) cl) cl) cl)).symm⟩
    ·refine aL ?_
     exact⟨br,_,by rw [re _ k J];rfl,((aj (aj (aj (aj (aj (aj (aj (aj (aj (aj (bC cl) cl) cl) cl) cl) cl) cl) cl) cl) cl) cl)).symm⟩
   ·rintro _ ⟨y,aDf,hy,rfl⟩
    refine az ?_
    refine ak rfl (.bin rfl rfl (ab2 J)) ?_
    refine tk ?_
    exact qc (k+1) (o.set k ((18446744073709551616+a.getD k 0-y) % 18446744073709551616 % 4294967296)) ((18446744073709551616+a.getD k 0-y) % 18446744073709551616/9223372036854775808) ⟨J,by simp [cN],auH J mJ r9 hyk bX hv hy rfl⟩
  ·obtain rfl:k=a.length:=by omega
   refine bf ?_
   refine pO [20] pB (oq _ gV J) ?_
   refine aZ ?_
   have e:=aoO ha bX cN pU (by rw [bU];exact hle) hv
   rw [sZ bX,bU] at e
   have e2:=congrArg val e
   rw [bU,bU] at e2
   rw [<-e2]
   exact tU rfl (.pure (iN _)) rfl (.pure rfl)
theorem an7 {c x y z:Nat} (hc:c<4294967296) (hx:x<4294967296) (hy:y<4294967296) (hz:z<4294967296):c+(x*y+z)<18446744073709551616:=by
 have:=sb hx hy;omega
theorem mul_zero {i x:Nat} {a b o:List Nat} (hx:x=a.getD i 0) (h0:x=0) (hv:val o=val (a.take i)*val b):val o=val (a.take (i+1))*val b:=by
 rw [nB,<-hx,h0];simpa using hv
theorem arK {i m j x:Nat} {o:List Nat} (hj:j<m) (hz:∀ p,i+m<=p->o.getD p 0=0):∀ p,i+m<=p->(o.set (i+j) x).getD p 0=0:=fun p hp=>by
 rw [Go.Lg.getD_set_ne _ _ _ _ J];exact hz p hp
theorem ama {i m x:Nat} {o:List Nat} (hz:∀ p,i+m<=p->o.getD p 0=0):∀ p,i+1+m<=p->(o.set (i+m) x).getD p 0=0:=fun p hp=>by
 rw [Go.Lg.getD_set_ne _ _ _ _ J];exact hz p J
theorem aqZ (n p:Nat):(List.replicate n 0).getD p 0=0:=by
 rw [List.getD_eq_getElem?_getD,List.getElem?_replicate];split<;>rfl
namespace agG
theorem aH {p q:Prop} (k:q) (e:p=q:=by simp only [e1,e2,e3,e4,p1,p2,p3,q1,q2,q3,l1,t0,t1,r1,r2,r3,r4,Nat.zero_add,Nat.reduceMul,Nat.reduceAdd,b1,b2,b3,b4,b5,b6,i1,i2,i3,i4,i5,i6,Nat.reduceBEq,fc,ji];exact rfl):p:=e.mpr k
end agG
open agG in
theorem vM (a b:List Nat) (ha:bM a) (hb:bM b) (fb:a.length<=1099511627776) (lg:b.length<=1099511627776):av Tryz.prog 174 [ee a,ee b] (ba (val a*val b)):=by
 unfold ee
 refine aN Tryz.func174 ?_
 have ji:True:=trivial
 refine bu ?_
 refine eI rfl rfl (.kK (n:=a.length+b.length) (m:=a.length+b.length) ml ml om om om) ?_
 refine bu ?_
 refine jL (fun(i:Nat) (o:List Nat) L=>(((((((St.mk L.slot (hp [(16,⟨1,o.map bh,true⟩)])).put (some 0) (.list 1 (a.map bh))).put (some 1) (.list 1 (b.map bh))).put (some 5) (.ref 16 1 0 (a.length+b.length))).put (some 17) (.list 1 (a.map bh))).put (some 18) (ah a.length)).put (some 19) (ah i))) (fun i o=>i<=a.length/\o.length=a.length+b.length/\bM o/\val o=val (a.take i)*val b/\∀ p,i+b.length<=p->o.getD p 0=0) (fun i o=>a.length-i) 0 (List.replicate (a.length+b.length) 0) ⟨Nat.zero_le _,by simp,sv _,by simp [val,aeV],fun p _=>aqZ _ _⟩ ?_
 rintro i o L1 ⟨hi,cN,bX,hv,hz⟩
 have w8:=gZ ha i
 have ji:True:=trivial
 refine az ?_
 refine aC rfl ?_ ?_<;>intro yZ y8
 ·refine nj ?_
  refine aC rfl ?_ ?_<;>intro af0 x9
  ·refine bq ?_
   exact fU (i+1) o ⟨J,cN,bX,mul_zero rfl J hv,fun p hp=>hz p J⟩
  ·refine mH ?_
   refine rf (fun(j:Nat) (o:List Nat) (c:Nat) L=>(((((((((((((St.mk L.slot (hp [(16,⟨1,o.map bh,true⟩)])).put (some 0) (.list 1 (a.map bh))).put (some 1) (.list 1 (b.map bh))).put (some 5) (.ref 16 1 0 (a.length+b.length))).put (some 17) (.list 1 (a.map bh))).put (some 18) (ah a.length)).put (some 19) (ah i)).put (some 6) (ah i)).put (some 7) (bh (a.getD i 0))).put (some 8) (cC c)).put (some 26) (.list 1 (b.map bh))).put (some 27) (ah b.length)).put (some 28) (ah j))) (fun j o c=>j<=b.length/\o.length=a.length+b.length/\bM o/\c<4294967296/\val o+4294967296 ^ (i+j)*c=val (a.take i)*val b+4294967296 ^ i*(a.getD i 0*val (b.take j))/\∀ p,i+b.length<=p->o.getD p 0=0) (fun j o c=>b.length-j) 0 o 0 ⟨Nat.zero_le _,cN,bX,J,by rw [hv];simp [val],hz⟩ ?_
   rintro j o c L2 ⟨hj,cN,bX,hc,hv,hz⟩
   have hyj:=gZ hb j
   have hzj:=gZ bX (i+j)
   have hs:=an7 hc w8 hyj hzj
   have ji:((i:Int)+(j:Int)).toNat=i+j:=by omega
   refine az ?_
   refine aC rfl ?_ ?_<;>intro aal xq
   ·refine as8 ?_
    exact qc (j+1) (o.set (i+j) ((c+(a.getD i 0*b.getD j 0+o.getD (i+j) 0)) % 4294967296)) ((c+(a.getD i 0*b.getD j 0+o.getD (i+j) 0))/4294967296) ⟨J,by simp [cN],kQ bX _ _ (Nat.mod_lt _ J),J,apo J hv rfl,arK J hz⟩
   ·obtain rfl:j=b.length:=by omega
    have aBA:((i:Int)+(b.length:Int)).toNat=i+b.length:=by omega
    refine yu ?_
    exact fU (i+1) (o.set (i+b.length) (c % 4294967296)) ⟨J,by simp [cN],kQ bX _ _ (Nat.mod_lt _ J),by rw [Nat.mod_eq_of_lt hc];exact ak1 J J (hz _ (Nat.le_refl _)) rfl rfl hv,ama hz⟩
 ·obtain rfl:i=a.length:=by omega
  refine bf ?_
  refine pO [16] pB (oq _ gV qO) ?_
  refine ax ?_
  rw [List.take_length] at hv
  rw [<-hv]
  exact dC
open aa6 in
theorem atN (a:List Nat) (d:Nat) (ha:bM a) (fb:a.length<=1099511627776) (jw:0<d) (hd:d<4294967296):av Tryz.prog 275 [ee a,nM d] (.a7 [ba (val a/d),nM (val a % d)]):=by
 unfold ee
 refine aN Tryz.func275 ?_
 have ej:True:=trivial
 have ek:True:=trivial
 refine bB ?_
 refine eI rfl rfl (.kK (n:=a.length) (m:=a.length) ml ml om om om) ?_
 refine mQ ?_
 refine rf (fun(k:Nat) (q:List Nat) (r:Nat) L=>((((((St.mk L.slot (hp [(11,⟨1,q.map bh,true⟩)])).put (some 0) (.list 1 (a.map bh))).put (some 1) (nM d)).put (some 6) (.ref 11 1 0 a.length)).put (some 7) (cC r)).put (some 8) (iL ((k:Int)-1)))) (fun k q r=>k<=a.length/\q.length=a.length/\bM q/\r<d/\val (q.drop k)*d+r=val (a.drop k)) (fun k q r=>k) a.length (List.replicate a.length 0) 0 ⟨Nat.le_refl _,by simp,sv _,jw,by simp [val]⟩ ?_
 rintro k q r L1 ⟨hk,iH,kF,hr,hv⟩
 refine aR ?_
 refine aC rfl ?_ ?_<;>intro yH uA
 ·obtain⟨j,rfl⟩:∃ j,k=j+1:=⟨k-1,J⟩
  have ej:(((j+1:Nat):Int)-1).toNat=j:=by omega
  have ek:(((j+1:Nat):Int)-1)=j:=by omega
  have hxj:=gZ ha j
  refine yl ?_
  refine ak rfl abP ?_
  refine nj ?_
  exact qc j (q.set j ((r*4294967296+a.getD j 0)/d % 4294967296)) ((r*4294967296+a.getD j 0) % d) ⟨J,by simp [iH],kQ kF _ _ (Nat.mod_lt _ J),Nat.mod_lt _ jw,by rw [Nat.mod_eq_of_lt (akY hr hxj)];exact ars J iH hv rfl⟩
 ·obtain rfl:k=0:=by omega
  have ej:True:=trivial
  have ek:True:=trivial
  refine bf ?_
  refine pO [11] pB (oq _ gV qO) ?_
  refine aR ?_
  obtain⟨E1,E2⟩:=aoF jw hr kF hv
  rw [sZ kF] at E1
  have E3:=congrArg val E1
  rw [bU,bU] at E3
  rw [<-E3,<-E2]
  have E4:r % 4294967296=r:=Nat.mod_eq_of_lt J
  refine tU rfl (.pure (iN _)) rfl ?_
  show cG _ (nM (r % 4294967296)) (nM r)
  rw [E4]
  exact .pure rfl
theorem adl {s:Nat} (hs:s<32):2 ^ s<=2147483648/\0<2 ^ s:=⟨Nat.pow_le_pow_right (n:=2) J (show s<=31 by omega),Nat.pow_pos J⟩
theorem aqK {m:Nat} (h:m<256):(0:Int)<=IntKind.u8.wrap (m:Int)/\(IntKind.u8.wrap (m:Int)).toNat=m:=by
 rw [IntKind.wrap_u8];omega
theorem alU {x p:Nat} (hx:x<4294967296) (hp:p<=2147483648):x*p<=9223372034707292160:=by
 have:=Nat.mul_le_mul (Nat.le_sub_one_of_lt hx) hp;simpa using this
theorem aod {x p c:Nat} (hx:x<4294967296) (hc:c<p):(x*p+c)/4294967296<p:=by
 rw [Nat.div_lt_iff_lt_mul J]
 have:(x+1)*p<=4294967296*p:=Nat.mul_le_mul_right _ hx
 rw [Nat.add_mul] at this
 rw [Nat.mul_comm p];omega
open aa2 in
theorem axr (a:List Nat) (s:Nat) (ha:bM a) (fb:a.length<=1099511627776) (hs:s<32):nk Tryz.prog 277 [ee a,ah s] (.ref 1 1 0 (a.length+1)) [⟨1,(gM (a.length+1) (val a*2 ^ s)).map bh,true⟩]:=by
 unfold ee
 refine fnO Tryz.func277 ?_
 refine bB ?_
 refine eI rfl rfl (.kK (n:=a.length+1) (m:=a.length+1) ml ml om om om) ?_
 refine im ?_
 refine rf (fun(k:Nat) (o:List Nat) (c:Nat) L=>((((((((St.mk L.slot (hp [(12,⟨1,o.map bh,true⟩)])).put (some 0) (.list 1 (a.map bh))).put (some 1) (ah s)).put (some 5) (.ref 12 1 0 (a.length+1))).put (some 6) (cC c)).put (some 13) (.list 1 (a.map bh))).put (some 14) (ah a.length)).put (some 15) (ah k))) (fun k o c=>k<=a.length/\o.length=a.length+1/\c<2 ^ s/\bM o/\val (o.take k)+4294967296 ^ k*c=val (a.take k)*2 ^ s) (fun k o c=>a.length-k) 0 (List.replicate (a.length+1) 0) 0 ⟨Nat.zero_le _,by simp,(adl hs).2,sv _,by simp [val]⟩ ?_
 rintro k o c L1 ⟨hk,cN,hc,bX,hv⟩
 have r9:=gZ ha k
 obtain⟨iM,pj⟩:=adl hs
 have sM:=alU r9 iM
 refine az ?_
 refine aC rfl ?_ ?_<;>intro yH uA
 ·refine nh ?_
  refine ak rfl (.sh rfl rfl (amp J J)) ?_
  refine ak rfl (.bin rfl rfl (orV hc J)) ?_
  refine tk ?_
  exact qc (k+1) (o.set k ((a.getD k 0*2 ^ s+c) % 4294967296)) ((a.getD k 0*2 ^ s+c)/4294967296) ⟨J,by simp [cN],aod r9 hc,kQ bX _ _ (Nat.mod_lt _ J),ax9 J hv rfl⟩
 ·obtain rfl:k=a.length:=by omega
  refine yu ?_
  have xl:c % 4294967296=c:=Nat.mod_eq_of_lt J
  have E:=aA5 cN hv
  have E2:=aeK (kQ bX a.length c J) (by simp only [List.length_set];exact cN)
  rw [E] at E2
  rw [<-E2]
  simp only [xl]
  exact acA rfl rfl (aW eZ _)
open H0 in
theorem agm (n:Nat) (hn:n<18446744073709551616):av Tryz.prog 238 [cC n] (ba n):=by
 have hL:bM [n % 4294967296,n/4294967296 % 4294967296]:=by
  intro x hx;simp at hx;omega
 have hV:val [n % 4294967296,n/4294967296 % 4294967296]=n:=by rw [val_two];omega
 refine aN Tryz.func238 ?_
 refine dp ?_
 refine pO [8] pB (oq _ gV qO) ?_
 refine ax ?_
 skip
 exact dB rfl (by rw [hV];exact .pure (iN _))
namespace aqw
theorem uh {p q:Prop} (k:q) (e:p=q:=by simp only [e1,e2,e3,e4,p1,p2,p3,q1,q2,q3,l1,t0,t1,r1,r2,r3,r4,Nat.zero_add,Nat.reduceMul,Nat.reduceAdd,b1,b2,b3,b4,b5,b6,i1,i2,i3,i4,i5,i6,Nat.reduceBEq,hbn];exact rfl):p:=e.mpr k
theorem qS {p:Prop} (h:p:=by first | (refine uh ?_;exact rfl) | exact rfl):p:=h
end aqw
open aqw H0 in
theorem apd (n:Nat) (hn:n<4294967296):av Tryz.prog 150 [nM n] (iL (di n)):=by
 refine aN Tryz.func150 ?_
 refine bu ?_
 refine fZ (fun L=>∃ (m:Nat) (q:Nat) (L1:St),(di n=q+di m/\m<65536/\q<=16)/\L=(((St.mk L1.slot (hp [])).put (some 0) (nM m)).put (some 2) (iL q))) ?_ ?_
 ·refine aC rfl ?_ ?_<;>intro h4r h4
  ·refine aJ ?_
   refine ak rfl (.sh rfl rfl (ade (m:=16) ai)) ?_
   refine aR ?_
   exact⟨n/2 ^ 16,16,_,⟨afk J,J,J⟩,((aj (aj (bC cl) cl) cl)).symm⟩
  ·refine aL ?_
   exact⟨n,0,_,⟨J,J,J⟩,((aj (aj (bC cl) cl) cl)).symm⟩
 ·rintro _ ⟨m,q,LC4,⟨wu,hm,hq⟩,rfl⟩
  refine bf ?_
  refine fZ (fun L=>∃ (m2:Nat) (q2:Nat) (L1:St),(di n=q2+di m2/\m2<256/\q2<=24)/\L=(((St.mk L1.slot (hp [])).put (some 0) (nM m2)).put (some 2) (iL q2))) ?_ ?_
  ·refine aC rfl ?_ ?_<;>intro mX h8
   ·refine aJ ?_
    refine ak rfl (.sh rfl rfl (ade (m:=8) ai)) ?_
    refine bq ?_
    exact⟨m/2 ^ 8,q+8,_,⟨by rw [wu,afk (n:=m) (k:=8) J];omega,J,J⟩,((aj (aj (bC cl) cl) cl)).symm⟩
   ·refine aL ?_
    exact⟨m,q,_,⟨wu,J,J⟩,((aj (aj (bC cl) cl) cl)).symm⟩
  ·rintro _ ⟨m2,q2,LC8,⟨tZ,dY,zr⟩,rfl⟩
   have hb8:di m2<=8:=sO.2 dY
   have hbn:(UInt8.ofNat (di m2)).toNat=di m2:=(by decide:∀ k,k<=8->(UInt8.ofNat k).toNat=k) _ hb8
   refine az ?_
   refine ak rfl (.aeW (b:=UInt8.ofNat (di m2)) rfl Tryz.underlying9 rfl (aqK dY).1 (by rw [(aqK dY).2];exact tbl an dY)) ?_
   refine ak rfl (.cvI Tryz.underlying5 Tryz.underlying3 rfl J J) ?_
   refine ak rfl v8 ?_
   refine ar ?_
   refine qn qS ?_
   refine aL ?_
   rw [tZ]
   exact dB rfl (by first | exact .pure rfl | (rw [hbn];exact .pure rfl))
open H0 in
theorem aAN (n:Nat) (hn:n<4294967296):av Tryz.prog 276 [nM n] (iL (32-di n)):=by
 have hb:di n<=32:=sO.2 hn
 refine aN Tryz.func276 ?_
 refine bf ?_
 refine cp aK (apd _ J) ?_
 refine aZ ?_
 exact dC
theorem aae (l:List Nat) (h:bM l) (hl:l.length<=1099511627776):(al (val l)).length<=1099511627776:=Nat.le_trans (aq8 h) hl
theorem ap3 {n:Nat} (h:0<(al n).length):32*((al n).length-1)+di ((al n).getD ((al n).length-1) 0)=di n:=by
 have:=aCb (cE n) (ac4 n) h
 rw [bU] at this;omega
open ada in
theorem aaU (a:List Nat) (ha:bM a) (fb:a.length<=1099511627776):av Tryz.prog 81 [ee a] (iL (di (val a))):=by
 have bE:=aae a ha fb
 refine aN Tryz.func81 ?_
 have ej:True:=trivial
 refine bf ?_
 refine cp aK (oq _ gV qO) ?_
 refine bo ?_
 refine aC rfl ?_ ?_<;>intro h7r h7
 ·have h0:val a=0:=pw.1 (List.eq_nil_of_length_eq_zero J)
  have hz:di (val a)=0:=tj.2 h0
  refine aR ?_
  rw [hz]
  exact dC
 ·have kI:0<(al (val a)).length:=by omega
  have ej:(((al (val a)).length:Int)-1).toNat=(al (val a)).length-1:=by omega
  have hz:=ap3 kI
  have zu:=gG (val a) ((al (val a)).length-1)
  have aje:di ((al (val a)).getD ((al (val a)).length-1) 0)<=32:=sO.2 zu
  refine dj ?_
  refine cp aK (apd _ (by rw [ej];exact zu)) ?_
  refine ak rfl (.bin rfl rfl (py (by simp only [ej,fc];omega) (by simp only [ej,fc];omega))) ?_
  refine ax ?_
  refine dB ?_ (.pure rfl)
  simp only [e1,e2,e3,e4,p1,p2,p3,q1,q2,q3,Nat.reduceBEq]
  congr 2
  omega
namespace ao6
theorem uh {p q:Prop} (k:q) (e:p=q:=by simp only [e1,e2,e3,e4,p1,p2,p3,q1,q2,q3,l1,t0,t1,r1,r2,r3,r4,Nat.zero_add,Nat.reduceMul,Nat.reduceAdd,b1,b2,b3,b4,b5,b6,i1,i2,i3,i4,i5,i6,Nat.reduceBEq,List.take_zero,List.take_nil,List.nil_append,aP eZ,LV.kill];exact rfl):p:=e.mpr k
theorem qS {p:Prop} (h:p:=by first | (refine uh ?_;exact rfl) | exact rfl):p:=h
end ao6
open ao6 H0 in
theorem adK (a:List Nat) (fb:a.length<=1099511627776):av Tryz.prog 235 [ee a] (ee a):=by
 unfold ee
 refine aN Tryz.func235 ?_
 refine aR ?_
 refine aen (axZ (sz:=1) (l:=a.map bh) rfl Tryz.underlying29 (fun b hb=>?_))
 refine ar ?_
 refine aC rfl ?_ ?_<;>intro h4r h4
 ·have adf:a=[]:=by simpa using hb h4r
  subst adf
  refine aR ?_
  exact dB rfl (.nil 1)
 ·refine az ?_
  refine bI rfl (.app rfl rfl rfl rfl rfl (Nat.zero_le _) (.inr rfl) ai Tryz.underlying29 Tryz.underlying29 aac ph rfl aah (.inr (.inl rfl)) bm bm ai) ?_
  refine ar ?_
  refine qn qS ?_
  refine aL ?_
  exact mL [7] rfl rfl (eM eZ rfl rfl aO)
open aa2 in
theorem aeT (a b:List Nat) (fb:a.length<=1099511627776) (lg:b.length<=1099511627776):av Tryz.prog 172 [ee a,ee b] (bL (decide (a=b))):=by
 unfold ee
 refine aN Tryz.func172 ?_
 refine gy ?_
 refine aC rfl ?_ ?_<;>intro l8 rC
 ·have hE:a≠b:=by rintro rfl;omega
  refine aR ?_
  first | (rw [decide_eq_true hE];exact dB rfl (.pure rfl)) | (rw [decide_eq_false hE];exact dB rfl (.pure rfl))
 ·have hl:a.length=b.length:=by omega
  clear rC l8
  refine bo ?_
  refine dG (fun(k:Nat) L=>((((((St.mk L.slot (hp [])).put (some 0) (.list 1 (a.map bh))).put (some 1) (.list 1 (b.map bh))).put (some 11) (.list 1 (a.map bh))).put (some 12) (ah a.length)).put (some 13) (ah k))) (fun k=>k<=a.length/\a.take k=b.take k) (fun k=>a.length-k) 0 ⟨Nat.zero_le _,rfl⟩ ?_
  rintro k L1 ⟨hk,ht⟩
  refine az ?_
  refine aC rfl ?_ ?_<;>intro oI kg
  ·refine bo ?_
   refine aY 9 an ?_
   refine bo ?_
   refine aC rfl ?_ ?_<;>intro o7 rv
   ·have hE:a≠b:=by rintro rfl;omega
    refine bo ?_
    first | (rw [decide_eq_true hE];exact dB rfl (.pure rfl)) | (rw [decide_eq_false hE];exact dB rfl (.pure rfl))
   ·refine bf ?_
    exact iJ (k+1) ⟨J,ax4 J J ht J⟩
  ·obtain rfl:k=a.length:=by omega
   have hE:a=b:=by rw [List.take_length,hl,List.take_length] at ht;exact ht
   refine bo ?_
   first | (rw [decide_eq_true hE];exact dB rfl (.pure rfl)) | (rw [decide_eq_false hE];exact dB rfl (.pure rfl))
namespace apO
theorem aH {p q:Prop} (k:q) (e:p=q:=by simp only [e1,e2,e3,e4,p1,p2,p3,q1,q2,q3,l1,t0,t1,r1,r2,r3,r4,Nat.zero_add,Nat.reduceMul,Nat.reduceAdd,b1,b2,b3,b4,b5,b6,i1,i2,i3,i4,i5,i6,Nat.reduceBEq,ej,ek,fc];exact rfl):p:=e.mpr k
end apO
open apO in
theorem aAb (l:List Nat) (hl:l.length<=4611686018427387904) (h0:0<l.length):lH Tryz.prog 149 ⟨1,l.map bh,true⟩ [.ref 0 1 0 l.length] (.ref 0 1 0 (ig l.length l)) ⟨1,l.map bh,true⟩:=by
 refine ud Tryz.func149 ?_
 have ej:True:=trivial
 have ek:True:=trivial
 refine dj ?_
 refine dG (fun(k:Nat) L=>(((St.mk L.slot (hp [(0,⟨1,l.map bh,true⟩)])).put (some 0) (.ref 0 1 0 l.length)).put (some 3) (ah k))) (fun k=>k<=l.length/\ig l.length l=ig k l) (fun k=>k) l.length ⟨Nat.le_refl _,rfl⟩ ?_
 rintro k L1 ⟨hk,tX⟩
 refine az ?_
 refine dy 8 rfl ?_ ?_<;>intro mX h8
 ·obtain⟨j,rfl⟩:∃ j,k=j+1:=⟨k-1,J⟩
  have ej:(((j+1:Nat):Int)-1).toNat=j:=by omega
  have ek:(((j+1:Nat):Int)-1)=j:=by omega
  refine bq ?_
  refine aC rfl ?_ ?_<;>intro nH lJ
  ·refine bB ?_
   exact iJ j ⟨J,tX.trans (by simp only [ig];rw [if_pos (by simpa using lJ)])⟩
  ·refine bq ?_
   refine ak rfl aaO ?_
   refine ax ?_
   rw [tX,ig,if_neg (by simpa using lJ)]
   exact sw rfl .ref rfl rfl (aW eZ _)
 ·have ku:k=0:=by omega
  subst ku
  refine nh ?_
  refine ak rfl aaO ?_
  refine ax ?_
  rw [tX]
  exact sw rfl .ref rfl rfl (aW eZ _)
theorem auV (l:List Nat) (n:Nat) (hn:n=l.length) (hl:n<=4611686018427387904) (h0:0<n):lH Tryz.prog 149 ⟨1,l.map bh,true⟩ [.ref 0 1 0 n] (.ref 0 1 0 (ig n l)) ⟨1,l.map bh,true⟩:=by
 subst hn;exact aAb l hl h0
theorem amC (x s:Nat) (fb:(al x).length<=1099511627776) (hs:s<32):nk Tryz.prog 277 [ba x,ah s] (.ref 1 1 0 ((al x).length+1)) [⟨1,(gM ((al x).length+1) (x*2 ^ s)).map bh,true⟩]:=by
 have:=axr (al x) s (cE x) fb hs
 rw [bU] at this
 exact this
theorem val_one (x:Nat):val [x]=x:=by simp [val]
theorem akF {x:Nat} (h:x<=32):(32:Int)-(x:Int)=((32-x:Nat):Int):=by omega
namespace aad
theorem aH {p q:Prop} (k:q) (e:p=q:=by simp only [e1,e2,e3,e4,p1,p2,p3,q1,q2,q3,l1,t0,t1,r1,r2,r3,r4,Nat.zero_add,Nat.reduceMul,Nat.reduceAdd,b1,b2,b3,b4,b5,b6,i1,i2,i3,i4,i5,i6,Nat.reduceBEq,fc,bU,ej,ek,es,eV,mW,mD,oY,pT,qD,mV,oc,ji,rA,rB,nu,oN,List.set_set,List.length_set,Nat.add_mod_mod,pQ,pE,kZ,iQ];exact rfl):p:=e.mpr k
theorem uh {p q:Prop} (k:q) (e:p=q:=by simp only [e1,e2,e3,e4,p1,p2,p3,q1,q2,q3,l1,t0,t1,r1,r2,r3,r4,Nat.zero_add,Nat.reduceMul,Nat.reduceAdd,b1,b2,b3,b4,b5,b6,i1,i2,i3,i4,i5,i6,Nat.reduceBEq,fc,bU,ej,ek,es,eV,mW,mD,oY,pT,qD,mV,oc,ji,rA,rB,nu,oN,List.set_set,List.length_set,Nat.add_mod_mod,pQ,pE,kZ,iQ,qD];exact rfl):p:=e.mpr k
theorem qS {p:Prop} (h:p:=by first | (refine uh ?_;exact rfl) | exact rfl):p:=h
theorem ajo {p q:Prop} (k:q) (e:p=q:=by simp only [e1,e2,e3,e4,p1,p2,p3,q1,q2,q3,l1,t0,t1,r1,r2,r3,r4,Nat.zero_add,Nat.reduceMul,Nat.reduceAdd,b1,b2,b3,b4,b5,b6,i1,i2,i3,i4,i5,i6,Nat.reduceBEq,fc,bU,ej,ek,es,eV,mW,mD,oY,pT,qD,mV,oc,ji,rA,rB,nu,oN,List.set_set,List.length_set,Nat.add_mod_mod,pQ,pE,kZ,iQ,val_one];exact rfl):p:=e.mpr k
theorem nf2 {p:Prop} (h:p:=by first | (refine ajo ?_;exact rfl) | exact rfl):p:=h
theorem aAj {p q:Prop} (k:q) (e:p=q:=by simp only [e1,e2,e3,e4,p1,p2,p3,q1,q2,q3,l1,t0,t1,r1,r2,r3,r4,Nat.zero_add,Nat.reduceMul,Nat.reduceAdd,b1,b2,b3,b4,b5,b6,i1,i2,i3,i4,i5,i6,Nat.reduceBEq,fc,bU,ej,ek,es,eV,mW,mD,oY,pT,qD,mV,oc,ji,rA,rB,nu,oN,List.set_set,List.length_set,Nat.add_mod_mod,pQ,pE,kZ,iQ,abA,pT];exact rfl):p:=e.mpr k
theorem nf3 {p:Prop} (h:p:=by first | (refine aAj ?_;exact rfl) | exact rfl):p:=h
theorem apJ {p q:Prop} (k:q) (e:p=q:=by simp only [e1,e2,e3,e4,p1,p2,p3,q1,q2,q3,l1,t0,t1,r1,r2,r3,r4,Nat.zero_add,Nat.reduceMul,Nat.reduceAdd,b1,b2,b3,b4,b5,b6,i1,i2,i3,i4,i5,i6,Nat.reduceBEq,fc,bU,ej,ek,es,eV,mW,mD,oY,pT,qD,mV,oc,ji,rA,rB,nu,oN,List.set_set,List.length_set,Nat.add_mod_mod,pQ,pE,kZ,iQ,iQ];exact rfl):p:=e.mpr k
theorem nf4 {p:Prop} (h:p:=by first | (refine apJ ?_;exact rfl) | exact rfl):p:=h
theorem et {p:Prop} (h:p:=by first | rfl | (refine apJ ?_;first | exact trivial | rfl | (congr 3<;>omega) | (congr 2<;>omega))):p:=h
theorem aCK {p q:Prop} (k:q) (e:p=q:=by simp only [e1,e2,e3,e4,p1,p2,p3,q1,q2,q3,l1,t0,t1,r1,r2,r3,r4,Nat.zero_add,Nat.reduceMul,Nat.reduceAdd,b1,b2,b3,b4,b5,b6,i1,i2,i3,i4,i5,i6,Nat.reduceBEq,fc,bU,ej,ek,es,eV,mW,mD,oY,pT,qD,mV,oc,ji,rA,rB,nu,oN,List.set_set,List.length_set,Nat.add_mod_mod,pQ,pE,kZ,iQ,iQ,pT];exact rfl):p:=e.mpr k
theorem qK {p:Prop} (h:p:=by first | rfl | (refine aCK ?_;first | exact trivial | rfl | (congr 3<;>omega) | (congr 2<;>omega))):p:=h
theorem av5 {p q:Prop} (k:q) (e:p=q:=by simp only [e1,e2,e3,e4,p1,p2,p3,q1,q2,q3,l1,t0,t1,r1,r2,r3,r4,Nat.zero_add,Nat.reduceMul,Nat.reduceAdd,b1,b2,b3,b4,b5,b6,i1,i2,i3,i4,i5,i6,Nat.reduceBEq,fc,bU,ej,ek,es,eV,mW,mD,oY,pT,qD,mV,oc,ji,rA,rB,nu,oN,List.set_set,List.length_set,Nat.add_mod_mod,pQ,pE,kZ,iQ,<-hT];exact rfl):p:=e.mpr k
theorem nf6 {p:Prop} (h:p:=by first | (refine av5 ?_;exact rfl) | exact rfl):p:=h
end aad
open aad in
theorem ays (b ul ql:List Nat) (n s m q0 j:Nat) (iQ:(al (val b*2 ^ s)).length=n+2) (je:n+2<=m) (mn:m<=1099511627776) (ni:q0=m+1-(n+2)) (hk:j+1<=q0) (kC:ul.length=m+1) (iH:ql.length=q0) (fC:bM ul) (kF:bM ql) (rY:2147483648<=(al (val b*2 ^ s)).getD (n+1) 0) (jG:0<(val b*2 ^ s)) (sP:(val b*2 ^ s)<4294967296 ^ (n+2)) (bE:val ul<(val b*2 ^ s)*4294967296 ^ (j+1)) {Q:iS->St->Prop} (L1:St)
  (hQ:∀ (x:Nat) (L2:St),(val ul/4294967296 ^ j/(val b*2 ^ s)<=x/\x<=val ul/4294967296 ^ j/(val b*2 ^ s)+1/\x<4294967296)->Q .normal ((((((((St.mk L2.slot (hp [(1001057,⟨1,ul.map bh,true⟩),(1001105,⟨1,(gM ((al (val b)).length+1) (val b*2 ^ s)).map bh,false⟩),(77,⟨1,ql.map bh,true⟩)])).put (some 4) (.ref 77 1 0 q0)).put (some 9) (ah s)).put (some 10) (.ref 1001057 1 0 (m+1))).put (some 11) (ba (val b*2 ^ s))).put (some 12) (ah (n+2))).put (some 13) (iL (((j+1:Nat):Int)-1))).put (some 15) (cC x))) :
  cx Tryz.prog ((zL Tryz.f236 [1,1,1,1,1,1,1,0,1,0,0,1,0,0,1,1,0]).getD .skip) Q (((((((((St.mk L1.slot (hp [(1001057,⟨1,ul.map bh,true⟩),(1001105,⟨1,(gM ((al (val b)).length+1) (val b*2 ^ s)).map bh,false⟩),(77,⟨1,ql.map bh,true⟩)])).put (some 4) (.ref 77 1 0 q0)).put (some 9) (ah s)).put (some 10) (.ref 1001057 1 0 (m+1))).put (some 11) (ba (val b*2 ^ s))).put (some 12) (ah (n+2))).put (some 13) (iL (((j+1:Nat):Int)-1))).put (some 15) (cC ((ul.getD (n+2+j) 0*4294967296+ul.getD (n+1+j) 0)/(al (val b*2 ^ s)).getD (n+1) 0))).put (some 16) (cC ((ul.getD (n+2+j) 0*4294967296+ul.getD (n+1+j) 0) % (al (val b*2 ^ s)).getD (n+1) 0))):=by
 have ej:True:=trivial
 have ek:True:=trivial
 have es:True:=trivial
 have eV:True:=trivial
 have mW:True:=trivial
 have mD:True:=trivial
 have oY:True:=trivial
 have pT:True:=trivial
 have qD:True:=trivial
 have mV:True:=trivial
 have oc:True:=trivial
 have ji:True:=trivial
 have rA:True:=trivial
 have rB:True:=trivial
 have nu:True:=trivial
 have oN:True:=trivial
 have pQ:True:=trivial
 have pE:True:=trivial
 have kZ:True:=trivial
 have mW:((j:Int)+((n+2:Nat):Int)).toNat=n+2+j:=by omega
 have mD:((j:Int)+((n+2:Nat):Int)-1).toNat=n+1+j:=by omega
 have oY:((j:Int)+((n+2:Nat):Int)-2).toNat=n+j:=by omega
 have mV:(((n+2:Nat):Int)-1).toNat=n+1:=by omega
 have oc:(((n+2:Nat):Int)-2).toNat=n:=by omega
 have ek:(((j+1:Nat):Int)-1)=(j:Int):=by omega
 have adB:=gG ((val b*2 ^ s)) (n+1)
 have yA:=gG ((val b*2 ^ s)) n
 have hu0:=gZ fC (n+2+j)
 have vx:=gZ fC (n+1+j)
 have ri:=gZ fC (n+j)
 obtain⟨vl,rl,pA,lh,hVe,hRe,zz⟩:=ajK (j:=j) iQ J fC bE
 have hun:=awS hVe hRe pA yA zz
 have ahT:=asO hVe hRe lh ri J
 have hqB:val ul/4294967296 ^ j/(val b*2 ^ s)<4294967296:=by rw [Nat.div_lt_iff_lt_mul jG,Nat.mul_comm];exact zz
 refine acS rfl ?_
 refine ar ?_
 refine jL (fun(x rest:Nat) L=>(((((((((St.mk L.slot (hp [(1001057,⟨1,ul.map bh,true⟩),(1001105,⟨1,(gM ((al (val b)).length+1) (val b*2 ^ s)).map bh,false⟩),(77,⟨1,ql.map bh,true⟩)])).put (some 4) (.ref 77 1 0 q0)).put (some 9) (ah s)).put (some 10) (.ref 1001057 1 0 (m+1))).put (some 11) (ba (val b*2 ^ s))).put (some 12) (ah (n+2))).put (some 13) (iL (((j+1:Nat):Int)-1))).put (some 15) (cC x)).put (some 16) (cC rest))) (fun x rest=>val ul/4294967296 ^ j/(val b*2 ^ s)<=x/\x*(al (val b*2 ^ s)).getD (n+1) 0+rest=(ul.getD (n+2+j) 0*4294967296+ul.getD (n+1+j) 0)/\rest<4294967296) (fun x rest=>x) ((ul.getD (n+2+j) 0*4294967296+ul.getD (n+1+j) 0)/(al (val b*2 ^ s)).getD (n+1) 0) ((ul.getD (n+2+j) 0*4294967296+ul.getD (n+1+j) 0) % (al (val b*2 ^ s)).getD (n+1) 0) ⟨ahT,by rw [Nat.mul_comm];exact Nat.div_add_mod _ _,Nat.lt_trans (Nat.mod_lt _ J) adB⟩ ?_
 rintro x rest L2 ⟨hx,tq,amP⟩
 have hxt:x<=x*(al (val b*2 ^ s)).getD (n+1) 0:=Nat.le_mul_of_pos_right _ J
 refine aL ?_
 refine aY 24 an ?_
 refine aJ ?_
 refine dy 120 rfl ?_ ?_<;>intro aDF aDt
 ·have hxd:val ul/4294967296 ^ j/(val b*2 ^ s)<=x-1:=by omega
  have fx:1<=x:=by omega
  refine ahZ ?_
  have aaM:(x-1)*(al (val b*2 ^ s)).getD (n+1) 0+(rest+(al (val b*2 ^ s)).getD (n+1) 0)=(ul.getD (n+2+j) 0*4294967296+ul.getD (n+1+j) 0):=by
   have e:(x-1)*(al (val b*2 ^ s)).getD (n+1) 0+(al (val b*2 ^ s)).getD (n+1) 0=x*(al (val b*2 ^ s)).getD (n+1) 0:=by rw [<-Nat.succ_mul];congr 1;omega
   omega
  refine tk ?_
  refine aC rfl ?_ ?_<;>intro aCa asa
  ·have jN:=anS (u2:=ul.getD (n+j) 0) aaM hun vx yA J
   refine ax ?_
   exact aoh
  ·refine aJ ?_
   exact fU (x-1) (rest+(al (val b*2 ^ s)).getD (n+1) 0) ⟨hxd,aaM,J⟩
 ·have hmul:=sb (show x<4294967296 by omega) yA
  refine yu ?_
  refine aC rfl ?_ ?_<;>intro aDk aAh
  ·have fx:1<=x:=by
    rcases Nat.eq_zero_or_pos x with e | e
    ·rw [e,Nat.zero_mul] at aAh;omega
    ·exact e
   have hxd:val ul/4294967296 ^ j/(val b*2 ^ s)<=x-1:=by have:=aum hVe hRe lh jG tq J;omega
   refine ax ?_
   have aaM:(x-1)*(al (val b*2 ^ s)).getD (n+1) 0+(rest+(al (val b*2 ^ s)).getD (n+1) 0)=(ul.getD (n+2+j) 0*4294967296+ul.getD (n+1+j) 0):=by
    have e:(x-1)*(al (val b*2 ^ s)).getD (n+1) 0+(al (val b*2 ^ s)).getD (n+1) 0=x*(al (val b*2 ^ s)).getD (n+1) 0:=by rw [<-Nat.succ_mul];congr 1;omega
    omega
   refine tk ?_
   refine aC rfl ?_ ?_<;>intro aCa asa
   ·have jN:=anS (u2:=ul.getD (n+j) 0) aaM hun vx yA J
    refine ax ?_
    exact aoh
   ·refine aJ ?_
    exact fU (x-1) (rest+(al (val b*2 ^ s)).getD (n+1) 0) ⟨hxd,aaM,J⟩
  ·refine ax ?_
   exact aaw (hQ (x) _ ⟨hx,aq2 hVe hRe pA J jG tq J J,J⟩) (aj (aj (aj (aj (aj (aj (aj (bC cl) cl) cl) cl) cl) cl) cl) cl)
open aad in
theorem atm (b ul ql:List Nat) (n s m q0 j:Nat) (iQ:(al (val b*2 ^ s)).length=n+2) (je:n+2<=m) (mn:m<=1099511627776) (ni:q0=m+1-(n+2)) (hk:j+1<=q0) (kC:ul.length=m+1) (iH:ql.length=q0) (fC:bM ul) (kF:bM ql) (rY:2147483648<=(al (val b*2 ^ s)).getD (n+1) 0) (jG:0<(val b*2 ^ s)) (sP:(val b*2 ^ s)<4294967296 ^ (n+2)) (bE:val ul<(val b*2 ^ s)*4294967296 ^ (j+1)) (x:Nat) (eX:val ul/4294967296 ^ j/(val b*2 ^ s)<=x) (hxB:x<4294967296) {Q:iS->St->Prop} (L1:St)
  (hQ:∀ (wl:List Nat) (c:Nat) (br:Nat) (L2:St),(wl.length=m+1/\bM wl/\c<4294967296/\br<=1/\val wl+4294967296 ^ j*(x*(val b*2 ^ s))=val ul+4294967296 ^ (n+2+j)*(c+br)/\∀ p,n+2+j<=p->wl.getD p 0=ul.getD p 0)->Q .normal ((((((((((St.mk L2.slot (hp [(1001057,⟨1,wl.map bh,true⟩),(1001105,⟨1,(gM ((al (val b)).length+1) (val b*2 ^ s)).map bh,false⟩),(77,⟨1,ql.map bh,true⟩)])).put (some 4) (.ref 77 1 0 q0)).put (some 9) (ah s)).put (some 10) (.ref 1001057 1 0 (m+1))).put (some 11) (ba (val b*2 ^ s))).put (some 12) (ah (n+2))).put (some 13) (iL (((j+1:Nat):Int)-1))).put (some 15) (cC x)).put (some 17) (cC br)).put (some 18) (cC c))) :
  cx Tryz.prog ((zL Tryz.f236 [1,1,1,1,1,1,1,0,1,0,0,1,0,0,1,1,1,1,0,1]).getD .skip) Q (((((((((((((St.mk L1.slot (hp [(1001057,⟨1,ul.map bh,true⟩),(1001105,⟨1,(gM ((al (val b)).length+1) (val b*2 ^ s)).map bh,false⟩),(77,⟨1,ql.map bh,true⟩)])).put (some 4) (.ref 77 1 0 q0)).put (some 9) (ah s)).put (some 10) (.ref 1001057 1 0 (m+1))).put (some 11) (ba (val b*2 ^ s))).put (some 12) (ah (n+2))).put (some 13) (iL (((j+1:Nat):Int)-1))).put (some 15) (cC x)).put (some 17) (cC 0)).put (some 18) (cC 0)).put (some 154) (ba (val b*2 ^ s))).put (some 155) (ah (n+2))).put (some 156) (ah 0)):=by
 have ej:True:=trivial
 have ek:True:=trivial
 have es:True:=trivial
 have eV:True:=trivial
 have mW:True:=trivial
 have mD:True:=trivial
 have oY:True:=trivial
 have pT:True:=trivial
 have qD:True:=trivial
 have mV:True:=trivial
 have oc:True:=trivial
 have ji:True:=trivial
 have rA:True:=trivial
 have rB:True:=trivial
 have nu:True:=trivial
 have oN:True:=trivial
 have pQ:True:=trivial
 have pE:True:=trivial
 have kZ:True:=trivial
 have mW:((j:Int)+((n+2:Nat):Int)).toNat=n+2+j:=by omega
 have mD:((j:Int)+((n+2:Nat):Int)-1).toNat=n+1+j:=by omega
 have oY:((j:Int)+((n+2:Nat):Int)-2).toNat=n+j:=by omega
 have mV:(((n+2:Nat):Int)-1).toNat=n+1:=by omega
 have oc:(((n+2:Nat):Int)-2).toNat=n:=by omega
 have ek:(((j+1:Nat):Int)-1)=(j:Int):=by omega
 have adB:=gG ((val b*2 ^ s)) (n+1)
 have yA:=gG ((val b*2 ^ s)) n
 have hu0:=gZ fC (n+2+j)
 have vx:=gZ fC (n+1+j)
 have ri:=gZ fC (n+j)
 refine acS rfl ?_
 refine ar ?_
 refine lp4 (fun(i:Nat) (wl:List Nat) (c br:Nat) L=>(((((((((((((St.mk L.slot (hp [(1001057,⟨1,wl.map bh,true⟩),(1001105,⟨1,(gM ((al (val b)).length+1) (val b*2 ^ s)).map bh,false⟩),(77,⟨1,ql.map bh,true⟩)])).put (some 4) (.ref 77 1 0 q0)).put (some 9) (ah s)).put (some 10) (.ref 1001057 1 0 (m+1))).put (some 11) (ba (val b*2 ^ s))).put (some 12) (ah (n+2))).put (some 13) (iL (((j+1:Nat):Int)-1))).put (some 15) (cC x)).put (some 17) (cC br)).put (some 18) (cC c)).put (some 154) (ba (val b*2 ^ s))).put (some 155) (ah (n+2))).put (some 156) (ah i))) (fun i wl c br=>i<=n+2/\wl.length=m+1/\bM wl/\c<4294967296/\br<=1/\val wl+4294967296 ^ j*(x*val ((al (val b*2 ^ s)).take i))=val ul+4294967296 ^ (i+j)*(c+br)/\∀ p,n+2+j<=p->wl.getD p 0=ul.getD p 0) (fun i wl c br=>n+2-i) 0 ul 0 0 ⟨Nat.zero_le _,kC,fC,J,J,by simp [val],fun _ _=>rfl⟩ (h0:=⟨_,aw.of_eq (aj (aj (aj (aj (aj (aj (aj (aj (aj (aj (aj (aj (bC et) et) et) et) et) et) et) et) et) et) et) et) et)⟩) ?_
 rintro i wl c br L3 ⟨hi,gO,gQ,hc,mJ,xp,zp⟩
 have ji:((i:Int)+(j:Int)).toNat=i+j:=by omega
 have hvi:=gG (val b*2 ^ s) i
 have hmul:=sb hxB hvi
 have hwi:=gZ gQ (i+j)
 refine az ?_
 refine aC rfl ?_ ?_<;>intro aDj aEb
 ·refine akd ?_
  refine ak rfl (.bin rfl rfl (auG)) ?_
  refine ak rfl (.bin rfl rfl (ab2 J)) ?_
  refine ar ?_
  refine ak rfl (.bin rfl rfl (ab2 J)) ?_
  refine akd ?_
  exact oP (i+1) (wl.set (i+j) (((18446744073709551616+(18446744073709551616+wl.getD (i+j) 0-(c+x*(al (val b*2 ^ s)).getD i 0) % 4294967296) % 18446744073709551616-br) % 18446744073709551616) % 4294967296)) ((c+x*(al (val b*2 ^ s)).getD i 0)/4294967296) (((18446744073709551616+(18446744073709551616+wl.getD (i+j) 0-(c+x*(al (val b*2 ^ s)).getD i 0) % 4294967296) % 18446744073709551616-br) % 18446744073709551616)/9223372036854775808) (by
   obtain⟨g1,g2,g3⟩:=aCi J gQ mJ xp (c1:=(c+x*(al (val b*2 ^ s)).getD i 0)) rfl rfl
   exact⟨J,by simp [gO],g2,J,g1,g3,fun p hp=>by rw [Go.Lg.getD_set_ne _ _ _ _ J];exact zp p hp⟩) (he:=aw.of_eq (aj (aj (aj (aj (aj (aj (aj (aj (aj (aj (aj (aj (bC et) et) et) et) et) et) et) et) et) et) et) et) et))
 ·obtain rfl:i=n+2:=by omega
  rw [List.take_of_length_le J,bU] at xp
  refine ax ?_
  exact aaw (hQ (wl) (c) (br) _ ⟨gO,gQ,hc,mJ,xp,zp⟩) (aj (aj (aj (aj (aj (aj (aj (aj (aj (bC cl) cl) cl) cl) cl) cl) cl) cl) cl) cl)
open aad in
theorem aty (b ul ql:List Nat) (n s m q0 j:Nat) (iQ:(al (val b*2 ^ s)).length=n+2) (je:n+2<=m) (mn:m<=1099511627776) (ni:q0=m+1-(n+2)) (hk:j+1<=q0) (kC:ul.length=m+1) (iH:ql.length=q0) (fC:bM ul) (kF:bM ql) (rY:2147483648<=(al (val b*2 ^ s)).getD (n+1) 0) (jG:0<(val b*2 ^ s)) (sP:(val b*2 ^ s)<4294967296 ^ (n+2)) (bE:val ul<(val b*2 ^ s)*4294967296 ^ (j+1)) (x:Nat) (eX:val ul/4294967296 ^ j/(val b*2 ^ s)<=x) (qj:x<=val ul/4294967296 ^ j/(val b*2 ^ s)+1) (hxB:x<4294967296) (wl:List Nat) (c br:Nat) (gO:wl.length=m+1) (gQ:bM wl) (hc:c<4294967296) (mJ:br<=1) (xp:val wl+4294967296 ^ j*(x*(val b*2 ^ s))=val ul+4294967296 ^ (n+2+j)*(c+br)) (zp:∀ p,n+2+j<=p->wl.getD p 0=ul.getD p 0) {Q:iS->St->Prop} (L1:St)
  (hQ:∀ (w4:List Nat) (x4:Nat) (L2:St),(x4=val ul/4294967296 ^ j/(val b*2 ^ s)/\w4.length=m+1/\bM w4/\val w4+4294967296 ^ j*(x4*(val b*2 ^ s))=val ul)->Q .normal ((((((((St.mk L2.slot (hp [(1001057,⟨1,w4.map bh,true⟩),(1001105,⟨1,(gM ((al (val b)).length+1) (val b*2 ^ s)).map bh,false⟩),(77,⟨1,ql.map bh,true⟩)])).put (some 4) (.ref 77 1 0 q0)).put (some 9) (ah s)).put (some 10) (.ref 1001057 1 0 (m+1))).put (some 11) (ba (val b*2 ^ s))).put (some 12) (ah (n+2))).put (some 13) (iL (((j+1:Nat):Int)-1))).put (some 15) (cC x4))) :
  cx Tryz.prog ((zL Tryz.f236 [1,1,1,1,1,1,1,0,1,0,0,1,0,0,1,1,1,1,1,1,1,0,1]).getD .skip) Q ((((((((((St.mk L1.slot (hp [(1001057,⟨1,(wl.set (n+2+j) (((18446744073709551616+(18446744073709551616+wl.getD (n+2+j) 0-c) % 18446744073709551616-br) % 18446744073709551616) % 4294967296)).map bh,true⟩),(1001105,⟨1,(gM ((al (val b)).length+1) (val b*2 ^ s)).map bh,false⟩),(77,⟨1,ql.map bh,true⟩)])).put (some 4) (.ref 77 1 0 q0)).put (some 9) (ah s)).put (some 10) (.ref 1001057 1 0 (m+1))).put (some 11) (ba (val b*2 ^ s))).put (some 12) (ah (n+2))).put (some 13) (iL (((j+1:Nat):Int)-1))).put (some 15) (cC x)).put (some 22) (cC ((18446744073709551616+(18446744073709551616+wl.getD (n+2+j) 0-c) % 18446744073709551616-br) % 18446744073709551616))).put (some 211) (.v (.bool (((((18446744073709551616+(18446744073709551616+wl.getD (n+2+j) 0-c) % 18446744073709551616-br) % 18446744073709551616)/9223372036854775808:Nat):Int) != 0)))):=by
 have ej:True:=trivial
 have ek:True:=trivial
 have es:True:=trivial
 have eV:True:=trivial
 have mW:True:=trivial
 have mD:True:=trivial
 have oY:True:=trivial
 have pT:True:=trivial
 have qD:True:=trivial
 have mV:True:=trivial
 have oc:True:=trivial
 have ji:True:=trivial
 have rA:True:=trivial
 have rB:True:=trivial
 have nu:True:=trivial
 have oN:True:=trivial
 have pQ:True:=trivial
 have pE:True:=trivial
 have kZ:True:=trivial
 have mW:((j:Int)+((n+2:Nat):Int)).toNat=n+2+j:=by omega
 have mD:((j:Int)+((n+2:Nat):Int)-1).toNat=n+1+j:=by omega
 have oY:((j:Int)+((n+2:Nat):Int)-2).toNat=n+j:=by omega
 have mV:(((n+2:Nat):Int)-1).toNat=n+1:=by omega
 have oc:(((n+2:Nat):Int)-2).toNat=n:=by omega
 have ek:(((j+1:Nat):Int)-1)=(j:Int):=by omega
 have adB:=gG ((val b*2 ^ s)) (n+1)
 have yA:=gG ((val b*2 ^ s)) n
 have hu0:=gZ fC (n+2+j)
 have vx:=gZ fC (n+1+j)
 have ri:=gZ fC (n+j)
 have hz:=afA (n:=n+2) (j:=j) sP bE
 obtain⟨aeq,tD,hv6⟩:=alh (n:=n+2) J gQ mJ hc xp rfl rfl
 have jt:=gZ gQ (n+2+j)
 refine acS rfl ?_
 refine aC rfl ?_ ?_<;>intro aDJ aDA
 ·have ks:((18446744073709551616+(18446744073709551616+wl.getD (n+2+j) 0-c) % 18446744073709551616-br) % 18446744073709551616)/9223372036854775808=1:=by omega
  have zS:=asl (V:=(val b*2 ^ s)) (n:=n+2) (j:=j) (x:=x) (ul:=(wl.set (n+2+j) (((18446744073709551616+(18446744073709551616+wl.getD (n+2+j) 0-c) % 18446744073709551616-br) % 18446744073709551616) % 4294967296))) (ul0:=ul) (by rw [hv6,ks,Nat.mul_one]) (aCf aeq (fun p hp=>by rw [Go.Lg.getD_set_ne _ _ _ _ J,zp p J];exact hz p hp)) jG
  have fx:1<=x:=Nat.lt_of_le_of_lt (Nat.zero_le _) zS
  refine aJ ?_
  refine ak rfl (.bin rfl rfl (amf (show 1<=x by omega) J)) ?_
  refine im ?_
  refine rf (fun(ii:Nat) (w3:List Nat) (c3:Nat) L=>((((((((((((St.mk L.slot (hp [(1001057,⟨1,w3.map bh,true⟩),(1001105,⟨1,(gM ((al (val b)).length+1) (val b*2 ^ s)).map bh,false⟩),(77,⟨1,ql.map bh,true⟩)])).put (some 4) (.ref 77 1 0 q0)).put (some 9) (ah s)).put (some 10) (.ref 1001057 1 0 (m+1))).put (some 11) (ba (val b*2 ^ s))).put (some 12) (ah (n+2))).put (some 13) (iL (((j+1:Nat):Int)-1))).put (some 15) (cC (x-1))).put (some 18) (cC c3)).put (some 214) (ba (val b*2 ^ s))).put (some 215) (ah (n+2))).put (some 216) (ah ii))) (fun ii w3 c3=>ii<=n+2/\w3.length=m+1/\bM w3/\c3<=1/\val w3+4294967296 ^ (ii+j)*c3=val (wl.set (n+2+j) (((18446744073709551616+(18446744073709551616+wl.getD (n+2+j) 0-c) % 18446744073709551616-br) % 18446744073709551616) % 4294967296))+4294967296 ^ j*val ((al (val b*2 ^ s)).take ii)/\∀ p,n+2+j+1<=p->w3.getD p 0=0) (fun ii w3 c3=>n+2-ii) 0 (wl.set (n+2+j) (((18446744073709551616+(18446744073709551616+wl.getD (n+2+j) 0-c) % 18446744073709551616-br) % 18446744073709551616) % 4294967296)) 0 ⟨Nat.zero_le _,by simp [gO],aeq,J,by simp [val],fun p hp=>by rw [Go.Lg.getD_set_ne _ _ _ _ J,zp p J];exact hz p hp⟩ (h0:=⟨_,aw.of_eq (aj (aj (aj (aj (aj (aj (aj (aj (aj (aj (aj (bC et) et) et) et) et) et) et) et) et) et) et) et)⟩) ?_
  rintro ii w3 c3 L4 ⟨hi3,hw3,lf,hc3,hv7,hz7⟩
  have rA:((ii:Int)+(j:Int)).toNat=ii+j:=by omega
  have aDO:=gG (val b*2 ^ s) ii
  have aEg:=gZ lf (ii+j)
  refine az ?_
  refine aC rfl ?_ ?_<;>intro aC8 aDN
  ·refine azS ?_
   exact qc (ii+1) (w3.set (ii+j) ((c3+(w3.getD (ii+j) 0+(al (val b*2 ^ s)).getD ii 0)) % 4294967296)) ((c3+(w3.getD (ii+j) 0+(al (val b*2 ^ s)).getD ii 0))/4294967296) (by
    obtain⟨g1,g2⟩:=aw3 J lf hv7 (s:=(c3+(w3.getD (ii+j) 0+(al (val b*2 ^ s)).getD ii 0))) rfl
    exact⟨J,by simp [hw3],g1,J,g2,fun p hp=>by rw [Go.Lg.getD_set_ne _ _ _ _ J];exact hz7 p hp⟩) (he:=aw.of_eq (aj (aj (aj (aj (aj (aj (aj (aj (aj (aj (aj (bC et) et) et) et) et) et) et) et) et) et) et) et))
  ·obtain rfl:ii=n+2:=by omega
   rw [List.take_of_length_le J,bU] at hv7
   have aEs:=gZ lf (n+2+j)
   have hxe:x-1=val ul/4294967296 ^ j/(val b*2 ^ s):=by omega
   have atP:4294967296 ^ j*((x-1)*(val b*2 ^ s))<=val ul:=by rw [hxe];exact Nat.le_trans (Nat.mul_le_mul_left _ (Nat.div_mul_le_self _ _)) (Nat.mul_div_le _ _)
   have jN:=awm (ul:=(wl.set (n+2+j) (((18446744073709551616+(18446744073709551616+wl.getD (n+2+j) 0-c) % 18446744073709551616-br) % 18446744073709551616) % 4294967296))) (ul0:=ul) (n:=n+2) (j:=j) (x:=x) (V:=(val b*2 ^ s)) (ul3:=w3) (c:=c3) J atP (by rw [hv6,ks,Nat.mul_one]) J lf hz7 hc3 hv7 rfl
   refine dj ?_
   refine ak rfl (.bin rfl rfl (awX)) ?_
   refine aJ ?_
   exact aaw (hQ (w3.set (n+2+j) ((w3.getD (n+2+j) 0+c3) % 4294967296)) (x-1) _ ⟨hxe,by simp [hw3],jN.1,jN.2⟩) (aj (aj (aj (aj (aj (aj (aj (bC cl) cl) cl) cl) cl) cl) cl) cl)
 ·have jw:((18446744073709551616+(18446744073709551616+wl.getD (n+2+j) 0-c) % 18446744073709551616-br) % 18446744073709551616)/9223372036854775808=0:=by omega
  rw [jw,Nat.mul_zero,Nat.add_zero] at hv6
  have hxF:x=val ul/4294967296 ^ j/(val b*2 ^ s):=by have:=aBF hv6 jG;omega
  refine ar ?_
  exact aaw (hQ ((wl.set (n+2+j) (((18446744073709551616+(18446744073709551616+wl.getD (n+2+j) 0-c) % 18446744073709551616-br) % 18446744073709551616) % 4294967296))) (x) _ ⟨hxF,by simp [gO],aeq,hv6⟩) (aj (aj (aj (aj (aj (aj (aj (bC cl) cl) cl) cl) cl) cl) cl) cl)
open aad in
theorem awH (b ul ql:List Nat) (n s m q0 j:Nat) (iQ:(al (val b*2 ^ s)).length=n+2) (je:n+2<=m) (mn:m<=1099511627776) (ni:q0=m+1-(n+2)) (hk:j+1<=q0) (kC:ul.length=m+1) (iH:ql.length=q0) (fC:bM ul) (kF:bM ql) (rY:2147483648<=(al (val b*2 ^ s)).getD (n+1) 0) (jG:0<(val b*2 ^ s)) (sP:(val b*2 ^ s)<4294967296 ^ (n+2)) (bE:val ul<(val b*2 ^ s)*4294967296 ^ (j+1)) {Q:iS->St->Prop} (L1:St)
  (hQ:∀ (w4:List Nat) (x4:Nat) (L2:St),(x4=val ul/4294967296 ^ j/(val b*2 ^ s)/\w4.length=m+1/\bM w4/\val w4+4294967296 ^ j*(x4*(val b*2 ^ s))=val ul)->Q .normal (((((((St.mk L2.slot (hp [(1001057,⟨1,w4.map bh,true⟩),(1001105,⟨1,(gM ((al (val b)).length+1) (val b*2 ^ s)).map bh,false⟩),(77,⟨1,(ql.set j (x4 % 4294967296)).map bh,true⟩)])).put (some 4) (.ref 77 1 0 q0)).put (some 9) (ah s)).put (some 10) (.ref 1001057 1 0 (m+1))).put (some 11) (ba (val b*2 ^ s))).put (some 12) (ah (n+2))).put (some 13) (iL (((j+1:Nat):Int)-1)))) :
  cx Tryz.prog ((zL Tryz.f236 [1,1,1,1,1,1,1,0,1,0,0,1,0]).getD .skip) Q (((((((St.mk L1.slot (hp [(1001057,⟨1,ul.map bh,true⟩),(1001105,⟨1,(gM ((al (val b)).length+1) (val b*2 ^ s)).map bh,false⟩),(77,⟨1,ql.map bh,true⟩)])).put (some 4) (.ref 77 1 0 q0)).put (some 9) (ah s)).put (some 10) (.ref 1001057 1 0 (m+1))).put (some 11) (ba (val b*2 ^ s))).put (some 12) (ah (n+2))).put (some 13) (iL (((j+1:Nat):Int)-1))):=by
 have ej:True:=trivial
 have ek:True:=trivial
 have es:True:=trivial
 have eV:True:=trivial
 have mW:True:=trivial
 have mD:True:=trivial
 have oY:True:=trivial
 have pT:True:=trivial
 have qD:True:=trivial
 have mV:True:=trivial
 have oc:True:=trivial
 have ji:True:=trivial
 have rA:True:=trivial
 have rB:True:=trivial
 have nu:True:=trivial
 have oN:True:=trivial
 have pQ:True:=trivial
 have pE:True:=trivial
 have kZ:True:=trivial
 have mW:((j:Int)+((n+2:Nat):Int)).toNat=n+2+j:=by omega
 have mD:((j:Int)+((n+2:Nat):Int)-1).toNat=n+1+j:=by omega
 have oY:((j:Int)+((n+2:Nat):Int)-2).toNat=n+j:=by omega
 have mV:(((n+2:Nat):Int)-1).toNat=n+1:=by omega
 have oc:(((n+2:Nat):Int)-2).toNat=n:=by omega
 have ek:(((j+1:Nat):Int)-1)=(j:Int):=by omega
 have adB:=gG ((val b*2 ^ s)) (n+1)
 have yA:=gG ((val b*2 ^ s)) n
 have hu0:=gZ fC (n+2+j)
 have vx:=gZ fC (n+1+j)
 have ri:=gZ fC (n+j)
 have hz:=afA (n:=n+2) (j:=j) sP bE
 refine acS rfl ?_
 refine aL ?_
 refine aY 18 an ?_
 refine xT ?_
 refine aY 18 an ?_
 refine aR ?_
 refine ak rfl (.bin rfl rfl (aed (by simp only [mV,fc];omega) J)) ?_
 refine aR ?_
 refine ak rfl (.bin rfl rfl (ajN (by simp only [mV,fc];omega))) ?_
 refine aZ ?_
 refine acQ (S:=fun L=>(((((((((St.mk L.slot (hp [(1001057,⟨1,ul.map bh,true⟩),(1001105,⟨1,(gM ((al (val b)).length+1) (val b*2 ^ s)).map bh,false⟩),(77,⟨1,ql.map bh,true⟩)])).put (some 4) (.ref 77 1 0 q0)).put (some 9) (ah s)).put (some 10) (.ref 1001057 1 0 (m+1))).put (some 11) (ba (val b*2 ^ s))).put (some 12) (ah (n+2))).put (some 13) (iL (((j+1:Nat):Int)-1))).put (some 15) (cC ((ul.getD (n+2+j) 0*4294967296+ul.getD (n+1+j) 0)/(al (val b*2 ^ s)).getD (n+1) 0))).put (some 16) (cC ((ul.getD (n+2+j) 0*4294967296+ul.getD (n+1+j) 0) % (al (val b*2 ^ s)).getD (n+1) 0)))) (aj (aj (aj (aj (aj (aj (aj (aj (bC cl) cl) cl) cl) cl) cl) cl) cl) cl) ?_
 refine ays b ul ql n s m q0 j iQ je mn ni hk kC iH fC kF rY jG sP bE _ ?_
 rintro x LQ ⟨eX,qj,hxB⟩
 refine gy ?_
 refine acQ (S:=fun L=>(((((((((((((St.mk L.slot (hp [(1001057,⟨1,ul.map bh,true⟩),(1001105,⟨1,(gM ((al (val b)).length+1) (val b*2 ^ s)).map bh,false⟩),(77,⟨1,ql.map bh,true⟩)])).put (some 4) (.ref 77 1 0 q0)).put (some 9) (ah s)).put (some 10) (.ref 1001057 1 0 (m+1))).put (some 11) (ba (val b*2 ^ s))).put (some 12) (ah (n+2))).put (some 13) (iL (((j+1:Nat):Int)-1))).put (some 15) (cC x)).put (some 17) (cC 0)).put (some 18) (cC 0)).put (some 154) (ba (val b*2 ^ s))).put (some 155) (ah (n+2))).put (some 156) (ah 0))) (aj (aj (aj (aj (aj (aj (aj (aj (aj (aj (aj (aj (bC cl) cl) cl) cl) cl) cl) cl) cl) cl) cl) cl) cl) cl) ?_
 refine atm b ul ql n s m q0 j iQ je mn ni hk kC iH fC kF rY jG sP bE x eX hxB _ ?_
 rintro wl c br LQ ⟨gO,gQ,hc,mJ,xp,zp⟩
 obtain⟨aeq,tD,hv6⟩:=alh (n:=n+2) J gQ mJ hc xp rfl rfl
 have jt:=gZ gQ (n+2+j)
 refine bo ?_
 refine ak rfl (.bin rfl rfl (ab2 J)) ?_
 refine ar ?_
 refine ak rfl (.bin rfl rfl (ab2 J)) ?_
 refine yu ?_
 refine acQ (S:=fun L=>((((((((((St.mk L.slot (hp [(1001057,⟨1,(wl.set (n+2+j) (((18446744073709551616+(18446744073709551616+wl.getD (n+2+j) 0-c) % 18446744073709551616-br) % 18446744073709551616) % 4294967296)).map bh,true⟩),(1001105,⟨1,(gM ((al (val b)).length+1) (val b*2 ^ s)).map bh,false⟩),(77,⟨1,ql.map bh,true⟩)])).put (some 4) (.ref 77 1 0 q0)).put (some 9) (ah s)).put (some 10) (.ref 1001057 1 0 (m+1))).put (some 11) (ba (val b*2 ^ s))).put (some 12) (ah (n+2))).put (some 13) (iL (((j+1:Nat):Int)-1))).put (some 15) (cC x)).put (some 22) (cC ((18446744073709551616+(18446744073709551616+wl.getD (n+2+j) 0-c) % 18446744073709551616-br) % 18446744073709551616))).put (some 211) (.v (.bool (((((18446744073709551616+(18446744073709551616+wl.getD (n+2+j) 0-c) % 18446744073709551616-br) % 18446744073709551616)/9223372036854775808:Nat):Int) != 0))))) (aj (aj (aj (aj (aj (aj (aj (aj (aj (bC cl) cl) cl) cl) cl) cl) cl) cl) cl) cl) ?_
 refine aty b ul ql n s m q0 j iQ je mn ni hk kC iH fC kF rY jG sP bE x eX qj hxB wl c br gO gQ hc mJ xp zp _ ?_
 rintro w4 x4 LQ ⟨hx4,hw4,hl4,hv8⟩
 have zz:val ul/4294967296 ^ j<(val b*2 ^ s)*4294967296:=by
  obtain⟨_,_,_,_,_,_,h⟩:=ajK (j:=j) iQ J fC bE
  exact h
 have hqB:val ul/4294967296 ^ j/(val b*2 ^ s)<4294967296:=by rw [Nat.div_lt_iff_lt_mul jG,Nat.mul_comm];exact zz
 have ajp:x4<4294967296:=by rw [hx4];exact hqB
 have al1:x4 % 4294967296=x4:=Nat.mod_eq_of_lt ajp
 refine bB ?_
 exact aaw (hQ (w4) (x4) _ ⟨hx4,hw4,hl4,hv8⟩) (aj (aj (aj (aj (aj (aj (bC cl) cl) cl) cl) cl) cl) cl)
open aad in
theorem avD (b ul ql:List Nat) (s m q0 T:Nat) (qB:s<32) (mn:m<=1099511627776) (kC:ul.length=m+1) (fC:bM ul) (hTm:T<=m+1) (hTz:∀ p,T<=p->ul.getD p 0=0) (yI:ul.getD 0 0 % 2 ^ s=0) {Q:iS->St->Prop} (L1:St)
  (hQ:∀ (w:List Nat) (L2:St),(w.length=m+1/\bM w/\2 ^ s*val (w.take T)=val (ul.take T)+4294967296 ^ T*(ul.getD T 0 % 2 ^ s))->Q .normal (((St.mk L2.slot (hp [(1001057,⟨1,w.map bh,true⟩),(1001105,⟨1,(gM ((al (val b)).length+1) (val b*2 ^ s)).map bh,false⟩),(77,⟨1,ql.map bh,true⟩)])).put (some 4) (.ref 77 1 0 q0)).put (some 5) (.ref 1001057 1 0 T))) :
  cx Tryz.prog ((zL Tryz.f236 [1,1,1,1,1,1,1,1,1,0,1]).getD .skip) Q (((((((St.mk L1.slot (hp [(1001057,⟨1,ul.map bh,true⟩),(1001105,⟨1,(gM ((al (val b)).length+1) (val b*2 ^ s)).map bh,false⟩),(77,⟨1,ql.map bh,true⟩)])).put (some 4) (.ref 77 1 0 q0)).put (some 5) (.ref 1001057 1 0 T)).put (some 9) (ah s)).put (some 260) (.ref 1001057 1 0 T)).put (some 261) (ah T)).put (some 262) (ah 0)):=by
 have ej:True:=trivial
 have ek:True:=trivial
 have es:True:=trivial
 have eV:True:=trivial
 have mW:True:=trivial
 have mD:True:=trivial
 have oY:True:=trivial
 have pT:True:=trivial
 have qD:True:=trivial
 have mV:True:=trivial
 have oc:True:=trivial
 have ji:True:=trivial
 have rA:True:=trivial
 have rB:True:=trivial
 have nu:True:=trivial
 have oN:True:=trivial
 have pQ:True:=trivial
 have pE:True:=trivial
 have kZ:True:=trivial
 have iQ:True:=trivial
 refine acS rfl ?_
 refine ar ?_
 refine jL (fun(i:Nat) (w:List Nat) L=>(((((((St.mk L.slot (hp [(1001057,⟨1,w.map bh,true⟩),(1001105,⟨1,(gM ((al (val b)).length+1) (val b*2 ^ s)).map bh,false⟩),(77,⟨1,ql.map bh,true⟩)])).put (some 4) (.ref 77 1 0 q0)).put (some 5) (.ref 1001057 1 0 T)).put (some 9) (ah s)).put (some 260) (.ref 1001057 1 0 T)).put (some 261) (ah T)).put (some 262) (ah i))) (fun i w=>i<=T/\w.length=m+1/\bM w/\(∀ p,i<=p->w.getD p 0=ul.getD p 0)/\2 ^ s*val (w.take i)=val (ul.take i)+4294967296 ^ i*(ul.getD i 0 % 2 ^ s)) (fun i w=>T-i) 0 ul ⟨Nat.zero_le _,kC,fC,fun _ _=>rfl,by rw [yI];simp [val]⟩ ?_
 rintro i w L5 ⟨hi,gO,gQ,hz9,yt⟩
 have kZ:((i:Int)+1).toNat=i+1:=by omega
 have hwi:=gZ gQ i
 have aD7:=gZ fC (i+1)
 have nu:=hz9 i (Nat.le_refl _)
 have oN:=hz9 (i+1) J
 have hui:=gZ fC i
 obtain⟨hh1,hh2⟩:=agD (z:=ul.getD (i+1) 0) (show s<=32 by omega) hui
 have hh3:ul.getD i 0/2 ^ s<4294967296:=by omega
 refine az ?_
 refine aC rfl ?_ ?_<;>intro aEn aEd
 ·have pQ:(w.set i (ul.getD i 0/2 ^ s)).getD i 0=ul.getD i 0/2 ^ s:=apC _ _ _ J
  have pE:(w.set i (ul.getD i 0/2 ^ s)).getD (i+1) 0=ul.getD (i+1) 0:=by rw [Go.Lg.getD_set_ne _ _ _ _ J];exact oN
  refine im ?_
  refine ak rfl (.sh rfl rfl (ade (m:=s) (by show s<=32;omega))) ?_
  refine bq ?_
  refine dy 274 rfl ?_ ?_<;>intro aDG aD0
  ·refine bf ?_
   refine aC rfl ?_ ?_<;>intro aEi aDT
   ·refine aY 14 an ?_
    refine bo ?_
    refine ak rfl (.sh rfl rfl (azz (s:=s) J)) ?_
    refine ak rfl (.bin rfl rfl (aCF (by simp only [e1,e2,e3,e4,p1,p2,p3,q1,q2,q3,l1,t0,t1,r1,r2,r3,r4,Nat.zero_add,Nat.reduceMul,Nat.reduceAdd,b1,b2,b3,b4,b5,b6,i1,i2,i3,i4,i5,i6,Nat.reduceBEq,fc,nu,oN,pQ,pE,kZ];exact hh1) (by simp only [e1,e2,e3,e4,p1,p2,p3,q1,q2,q3,l1,t0,t1,r1,r2,r3,r4,Nat.zero_add,Nat.reduceMul,Nat.reduceAdd,b1,b2,b3,b4,b5,b6,i1,i2,i3,i4,i5,i6,Nat.reduceBEq,fc,nu,oN,pQ,pE,kZ];exact hh2))) ?_
    refine bB ?_
    exact fU (i+1) (w.set i (ul.getD (i+1) 0 % 2 ^ s*2 ^ (32-s)+ul.getD i 0/2 ^ s)) ⟨J,by simp [gO],kQ gQ _ _ hh2,fun p hp=>by rw [Go.Lg.getD_set_ne _ _ _ _ J];exact hz9 p J,aju J qB nu yt (Nat.add_comm _ _)⟩
   ·refine bf ?_
    exact fU (i+1) (w.set i (ul.getD i 0/2 ^ s)) ⟨J,by simp [gO],kQ gQ _ _ hh3,fun p hp=>by rw [Go.Lg.getD_set_ne _ _ _ _ J];exact hz9 p J,aju J qB nu yt (by rw [hTz (i+1) J];simp)⟩
  ·refine im ?_
   exact fU (i+1) (w.set i (ul.getD i 0/2 ^ s)) ⟨J,by simp [gO],kQ gQ _ _ hh3,fun p hp=>by rw [Go.Lg.getD_set_ne _ _ _ _ J];exact hz9 p J,aju J qB nu yt (by rw [show s=0 by omega];simp [Nat.mod_one])⟩
 ·obtain rfl:i=T:=by omega
  refine ax ?_
  exact aaw (hQ (w) _ ⟨gO,gQ,yt⟩) (aj (aj (bC cl) cl) cl)
open aad in
theorem afx (a b:List Nat) (ha:bM a) (hb:bM b) (fb:a.length<=1099511627776) (lg:b.length<=1099511627776) (fo:0<val b):av Tryz.prog 236 [ee a,ee b] (.a7 [ba (val a/val b),ba (val a % val b),iL 0]):=by
 have zA:=aae a ha fb
 have ae2:=aae b hb lg
 have aDY:(al (val b)).length≠0:=fun h=>by have:=pw.1 (List.eq_nil_of_length_eq_zero h);omega
 refine aN Tryz.func236 ?_
 have ej:True:=trivial
 have ek:True:=trivial
 have es:True:=trivial
 have eV:True:=trivial
 have mW:True:=trivial
 have mD:True:=trivial
 have oY:True:=trivial
 have pT:True:=trivial
 have qD:True:=trivial
 have mV:True:=trivial
 have oc:True:=trivial
 have ji:True:=trivial
 have rA:True:=trivial
 have rB:True:=trivial
 have nu:True:=trivial
 have oN:True:=trivial
 have pQ:True:=trivial
 have pE:True:=trivial
 have kZ:True:=trivial
 have iQ:True:=trivial
 refine bB ?_
 refine cp aK (oq _ gV qO) ?_
 refine ar ?_
 refine cp aK (oq _ gV qO) ?_
 refine dj ?_
 refine aC rfl ?_ ?_<;>intro abB yb
 ·exfalso
  omega
 ·refine ax ?_
  refine cp aq (abV _ _ gV gV J J) ?_
  refine ax ?_
  refine aC rfl ?_ ?_<;>intro aeG yL
  ·have bE:val a<val b:=by
    apply Classical.byContradiction
    intro hh
    rcases Nat.lt_or_eq_of_le (Nat.le_of_not_lt hh) with h | h
    ·rw [qi h] at yL;omega
    ·rw [rq h.symm] at yL;omega
   refine aJ ?_
   refine cp aK (adK _ J) ?_
   refine bf ?_
   rw [Nat.div_eq_of_lt bE,Nat.mod_eq_of_lt bE]
   exact zZ [] rfl rfl (.nil 1) rfl (.pure (xd _)) rfl (.pure rfl)
  ·have jd:val b<=val a:=by
    apply Classical.byContradiction
    intro hh
    rw [ot J] at yL;omega
   refine bf ?_
   refine aC rfl ?_ ?_<;>intro aaF h41
   ·have aje:val b<4294967296:=rL.1 J
    have ks:al (val b)=[val b]:=aaV fo aje
    have o8:(al (val b)).getD 0 0=val b:=by rw [ks];rfl
    have qD:=o8
    have tP:=Nat.mod_lt (val a) fo
    refine az ?_
    refine cp aq (atN _ _ (cE _) J (by show 0<(al (val b)).getD 0 0;rw [o8];exact fo) (gG _ _)) ?_
    refine aZ ?_
    refine qn qS ?_
    refine az ?_
    refine pO [55] pB (oq [val a % val b] (aB9 J) aO) ?_
    refine aJ ?_
    refine qn nf2 ?_
    refine ax ?_
    exact acr
   ·obtain⟨n,hn⟩:∃ n,(al (val b)).length=n+2:=⟨(al (val b)).length-2,J⟩
    obtain⟨m,hm⟩:∃ m,(al (val a)).length=m:=⟨_,rfl⟩
    have pT:=hm
    have mn:m<=1099511627776:=by omega
    have je:n+1+1<=m:=by rw [<-hm];have:=mO jd;omega
    have ej:(((al (val b)).length:Int)-1).toNat=n+1:=by omega
    obtain⟨s,hs⟩:∃ s,s=32-di ((al (val b)).getD (n+1) 0):=⟨_,rfl⟩
    have aAT:di ((al (val b)).getD (n+1) 0)<=32:=sO.2 (gG _ _)
    have es:(32:Int)-((di ((al (val b)).getD (n+1) 0):Nat):Int)=((s:Nat):Int):=by rw [akF aAT,hs]
    obtain⟨qB,iQ,aex,sP⟩:=apn (n:=n+1) hn hs
    have jG:0<val b*2 ^ s:=Nat.mul_pos fo (Nat.pow_pos J)
    have eV:val (gM ((al (val b)).length+1) (val b*2 ^ s))=val b*2 ^ s:=agK (by rw [hn];exact Nat.lt_of_lt_of_le sP (Nat.pow_le_pow_right J J))
    have rY:=apb iQ aex
    have adB:=gG (val b*2 ^ s) (n+1)
    have yA:=gG (val b*2 ^ s) n
    obtain⟨auZ,ayo⟩:=ay5 (n:=n+1) qB hm je aex
    obtain⟨q0,ni⟩:∃ q0,q0=m+1-(n+2):=⟨_,rfl⟩
    have rB:((m:Int)+1-((n+2:Nat):Int))=((q0:Nat):Int):=by omega
    have mV:(((n+2:Nat):Int)-1).toNat=n+1:=by omega
    have oc:(((n+2:Nat):Int)-2).toNat=n:=by omega
    have hB1:val (gM (m+1) (val a*2 ^ s))=val a*2 ^ s:=agK ayo
    refine bo ?_
    refine cp aK (aAN _ (gG _ _)) ?_
    refine aR ?_
    refine yD [] rfl rfl (.cons (.pure (iN _)) (.cons (.pure rfl) .nil)) (amC (val a) s J qB) (aW eZ _) rfl ?_
    refine aL ?_
    refine yD [] rfl rfl (.cons (.pure (iN _)) (.cons (.pure rfl) .nil)) (amC (val b) s J qB) (aW eZ _) rfl ?_
    refine afv [1001105] rfl rfl (.cons (eM eZ rfl rfl (abn _ _).symm) .nil) (oq (gM ((al (val b)).length+1) (val b*2 ^ s)) (aif _ _) (by rw [abn];omega)) ?_
    refine aL ?_
    refine qn nf3 ?_
    refine az ?_
    refine qn nf4 ?_
    refine aR ?_
    refine eI rfl rfl (.kK (n:=q0) (m:=q0) ml ml om om om) ?_
    refine dp ?_
    refine rf (fun(k:Nat) (ul ql:List Nat) L=>(((((((St.mk L.slot (hp [(1001057,⟨1,ul.map bh,true⟩),(1001105,⟨1,(gM ((al (val b)).length+1) (val b*2 ^ s)).map bh,false⟩),(77,⟨1,ql.map bh,true⟩)])).put (some 4) (.ref 77 1 0 q0)).put (some 9) (ah s)).put (some 10) (.ref 1001057 1 0 (m+1))).put (some 11) (ba (val b*2 ^ s))).put (some 12) (ah (n+2))).put (some 13) (iL ((k:Int)-1)))) (fun k ul ql=>k<=q0/\ul.length=m+1/\ql.length=q0/\bM ul/\bM ql/\val ul+(val b*2 ^ s)*4294967296 ^ k*val (ql.drop k)=val a*2 ^ s/\val ul<(val b*2 ^ s)*4294967296 ^ k) (fun k ul ql=>k) q0 (gM (m+1) (val a*2 ^ s)) (List.replicate q0 0) ⟨Nat.le_refl _,abn _ _,by simp,aif _ _,sv _,by rw [List.drop_of_length_le aO,hB1];simp [val],by rw [hB1,ni];exact auZ⟩ (h0:=⟨_,aw.of_eq (aj (aj (aj (aj (aj (aj (bC qK) qK) qK) qK) qK) qK) qK)⟩) ?_
    rintro k ul ql L1 ⟨hk,kC,iH,fC,kF,hv,bE⟩
    refine aR ?_
    refine aC rfl ?_ ?_<;>intro aDl h82
    ·obtain⟨j,rfl⟩:∃ j,k=j+1:=⟨k-1,J⟩
     have ek:(((j+1:Nat):Int)-1)=(j:Int):=by omega
     refine aJ ?_
     refine acQ (S:=fun L=>(((((((St.mk L.slot (hp [(1001057,⟨1,ul.map bh,true⟩),(1001105,⟨1,(gM ((al (val b)).length+1) (val b*2 ^ s)).map bh,false⟩),(77,⟨1,ql.map bh,true⟩)])).put (some 4) (.ref 77 1 0 q0)).put (some 9) (ah s)).put (some 10) (.ref 1001057 1 0 (m+1))).put (some 11) (ba (val b*2 ^ s))).put (some 12) (ah (n+2))).put (some 13) (iL (((j+1:Nat):Int)-1)))) (aj (aj (aj (aj (aj (aj (bC cl) cl) cl) cl) cl) cl) cl) ?_
     refine awH b ul ql n s m q0 j iQ je mn ni hk kC iH fC kF rY jG sP bE _ ?_
     rintro w4 x4 LQ ⟨hx4,hw4,hl4,hv8⟩
     have zz:val ul/4294967296 ^ j<(val b*2 ^ s)*4294967296:=by
      obtain⟨_,_,_,_,_,_,h⟩:=ajK (j:=j) iQ J fC bE
      exact h
     have hqB:val ul/4294967296 ^ j/(val b*2 ^ s)<4294967296:=by rw [Nat.div_lt_iff_lt_mul jG,Nat.mul_comm];exact zz
     have ajp:x4<4294967296:=by rw [hx4];exact hqB
     have al1:x4 % 4294967296=x4:=Nat.mod_eq_of_lt ajp
     obtain⟨mz,lI⟩:=am8 (j:=j) jG hx4 hv8 J hv
     refine aR ?_
     exact qc j w4 (ql.set j (x4 % 4294967296)) ⟨J,hw4,by simp [iH],hl4,kQ kF _ _ J,by rw [al1];exact mz,lI⟩ (he:=aw.of_eq (aj (aj (aj (aj (aj (aj (bC qK) qK) qK) qK) qK) qK) qK))
    ·obtain rfl:k=0:=by omega
     rw [List.drop_zero,Nat.pow_zero,Nat.mul_one] at hv
     rw [Nat.pow_zero,Nat.mul_one] at bE
     obtain⟨hq,hr⟩:=aoI fo hv bE
     obtain⟨T,hT⟩:∃ T,T=ig (m+1) ul:=⟨_,rfl⟩
     have hTm:T<=m+1:=by rw [hT];exact aiy _ _
     have hTz:=asA (l:=ul) (n:=m+1) kC.symm
     rw [<-hT] at hTz
     have yI:=amd J hr
     refine bf ?_
     refine vy 1001057 rfl rfl rfl (aW eZ _) (.cons .ref .nil) (.ref J) (auV ul (m+1) kC.symm J J) rfl (aW eZ _) ?_
     refine ar ?_
     refine qn nf6 ?_
     refine bq ?_
     refine acQ (S:=fun L=>(((((((St.mk L.slot (hp [(1001057,⟨1,ul.map bh,true⟩),(1001105,⟨1,(gM ((al (val b)).length+1) (val b*2 ^ s)).map bh,false⟩),(77,⟨1,ql.map bh,true⟩)])).put (some 4) (.ref 77 1 0 q0)).put (some 5) (.ref 1001057 1 0 T)).put (some 9) (ah s)).put (some 260) (.ref 1001057 1 0 T)).put (some 261) (ah T)).put (some 262) (ah 0))) (aj (aj (aj (aj (aj (aj (bC cl) cl) cl) cl) cl) cl) cl) ?_
     refine avD b ul ql s m q0 T qB mn kC fC hTm hTz yI _ ?_
     rintro w LQ ⟨gO,gQ,yt⟩
     rw [hTz T (Nat.le_refl _),Nat.zero_mod,Nat.mul_zero,Nat.add_zero] at yt
     have aam:val (w.take T)=val a % val b:=by
      have e1:=(aej ul.length ul (Nat.le_refl _)).2
      rw [List.take_length,kC,<-hT,hr] at e1
      rw [e1,Nat.mul_comm] at yt
      exact Nat.eq_of_mul_eq_mul_right (Nat.pow_pos J) yt
     refine ax ?_
     refine pO [77] pB (oq ql kF J) ?_
     refine ar ?_
     refine pO [1001057] pB (oq (w.take T) (tT gQ _) bm) ?_
     refine az ?_
     rw [<-hq,<-aam]
     exact acr
namespace arB
theorem aH {p q:Prop} (k:q) (e:p=q:=by simp only [e1,e2,e3,e4,p1,p2,p3,q1,q2,q3,l1,t0,t1,r1,r2,r3,r4,Nat.zero_add,Nat.reduceMul,Nat.reduceAdd,b1,b2,b3,b4,b5,b6,i1,i2,i3,i4,i5,i6,Nat.reduceBEq,fc,bU];exact rfl):p:=e.mpr k
end arB
open arB in
theorem ajS (a b:List Nat) (ha:bM a) (hb:bM b) (fb:a.length<=1099511627776) (lg:b.length<=1099511627776):av Tryz.prog 148 [ee a,ee b] (ba (Nat.gcd (val a) (val b))):=by
 have zA:=aae a ha fb
 have ae2:=aae b hb lg
 refine aN Tryz.func148 ?_
 refine bf ?_
 refine cp aK (oq _ gV qO) ?_
 refine cp aK (adK _ J) ?_
 refine ar ?_
 refine cp aK (oq _ gV qO) ?_
 refine cp aK (adK _ J) ?_
 refine az ?_
 refine jL (fun(x y:Nat) L=>(((St.mk L.slot (hp [])).put (some 5) (ba x)).put (some 6) (ba y))) (fun x y=>Nat.gcd x y=Nat.gcd (val a) (val b)/\(al x).length<=1099511627776/\(al y).length<=1099511627776) (fun x y=>y) (val a) (val b) ⟨rfl,zA,ae2⟩ ?_
 rintro x y L1 ⟨hg,hx,hy⟩
 refine bf ?_
 refine aC rfl ?_ ?_<;>intro p7 oS
 ·have gW:0<y:=Nat.pos_of_ne_zero (fun h=>by rw [h,tc] at oS;simp at oS)
  refine aR ?_
  refine cp aq (afx _ _ (cE _) (cE _) J J (by rw [bU];exact gW)) ?_
  refine im ?_
  exact fU y (x % y) ⟨by rw [Nat.gcd_comm,<-Nat.gcd_rec,Nat.gcd_comm];exact hg,hy,Nat.le_trans (mO (Nat.le_of_lt (Nat.mod_lt x gW))) hy⟩ (hm:=Nat.mod_lt _ gW)
 ·refine dp ?_
  refine aC rfl ?_ ?_<;>intro xf vR
  ·have gW:y=0:=pw.1 (List.eq_nil_of_length_eq_zero J)
   refine bf ?_
   subst gW
   rw [<-hg,Nat.gcd_zero_right]
   exact dC
  ·have gW:0<y:=Nat.pos_of_ne_zero (fun h=>by rw [h,tc] at vR;simp at vR)
   refine bB ?_
   refine fZ (fun L=>∃ (x2:Nat) (y2:Nat) (L1:St),(Nat.gcd x2 y2=Nat.gcd (val a) (val b)/\(al x2).length<=2/\(al y2).length<=2)/\L=(((St.mk L1.slot (hp [])).put (some 5) (ba x2)).put (some 6) (ba y2))) ?_ ?_
   ·refine aC rfl ?_ ?_<;>intro aD4 h39
    ·refine ax ?_
     refine cp aq (afx _ _ (cE _) (cE _) J J (by rw [bU];exact gW)) ?_
     refine mH ?_
     exact⟨y,x % y,_,⟨by rw [Nat.gcd_comm,<-Nat.gcd_rec,Nat.gcd_comm];exact hg,J,Nat.le_trans (mO (Nat.le_of_lt (Nat.mod_lt x gW))) J⟩,((aj (aj (bC cl) cl) cl)).symm⟩
    ·refine aL ?_
     exact⟨x,y,_,⟨hg,J,J⟩,((aj (aj (bC cl) cl) cl)).symm⟩
   ·rintro _ ⟨x2,y2,aDi,⟨y9,qj,hy2⟩,rfl⟩
    refine ax ?_
    refine cp aK (aoY _ (cE _) J) ?_
    refine ar ?_
    refine cp aK (aoY _ (cE _) J) ?_
    refine az ?_
    refine jL (fun(m n:Nat) L=>(((St.mk L.slot (hp [])).put (some 13) (cC m)).put (some 14) (cC n))) (fun m n=>Nat.gcd m n=Nat.gcd (val a) (val b)/\m<18446744073709551616/\n<18446744073709551616) (fun m n=>n) x2 y2 ⟨y9,xe.1 qj,xe.1 hy2⟩ ?_
    rintro m n L2 ⟨uB,hm,hn⟩
    refine aR ?_
    refine aC rfl ?_ ?_<;>intro axD h54
    ·refine aJ ?_
     refine aY 6 an ?_
     refine bq ?_
     exact fU n (m % n) ⟨by rw [Nat.gcd_comm,<-Nat.gcd_rec,Nat.gcd_comm];exact uB,hn,by have:=Nat.mod_lt m (show n > 0 by omega);omega⟩ (hm:=Nat.mod_lt _ J)
    ·obtain rfl:n=0:=by omega
     refine bf ?_
     refine cp aK (agm _ J) ?_
     refine ax ?_
     rw [<-uB,Nat.gcd_zero_right]
     exact dC
open H0 in
theorem ajM :av Tryz.prog 196 [] (ba 1):=by
 refine aN Tryz.func196 ?_
 refine bu ?_
 rw [show ba 1=.list 1 ([1].map bh) from rfl]
 exact mL [1] rfl rfl (eM eZ rfl rfl rfl)
namespace aoC
theorem aH {p q:Prop} (k:q) (e:p=q:=by simp only [e1,e2,e3,e4,p1,p2,p3,q1,q2,q3,l1,t0,t1,r1,r2,r3,r4,Nat.zero_add,Nat.reduceMul,Nat.reduceAdd,b1,b2,b3,b4,b5,b6,i1,i2,i3,i4,i5,i6,Nat.reduceBEq,aP ao,cH];exact rfl):p:=e.mpr k
end aoC
open aoC in
theorem uL (q:Rat):av Tryz.prog 175 [ae q] (ba q.den):=by
 refine aN Tryz.func175 ?_
 refine gy ?_
 refine aC rfl ?_ ?_<;>intro tE h6
 ·have ks:=ag7 (show (al (iG q)).length=0 by omega)
  refine aL ?_
  refine cp am0 (ajM) ?_
  refine aZ ?_
  rw [ks]
  exact dC
 ·have ks:=afz (q:=q) J
  refine bB ?_
  rw [<-ks]
  exact dC
open ada in
theorem aiW (a:List Nat) (h:bM a) (hl:a.length<=2):av Tryz.prog 246 [ee a] (cC (val a)):=by
 unfold ee
 refine aN Tryz.func246 ?_
 have ej:True:=trivial
 refine nj ?_
 refine jL (fun(k n:Nat) L=>((((St.mk L.slot (hp [])).put (some 0) (.list 1 (a.map bh))).put (some 3) (cC n)).put (some 4) (iL ((k:Int)-1)))) (fun k n=>k<=a.length/\n=val (a.drop k)) (fun k n=>k) a.length 0 ⟨Nat.le_refl _,by simp [val]⟩ ?_
 rintro k n L1 ⟨hk,hn⟩
 refine aR ?_
 refine aC rfl ?_ ?_<;>intro ta h9
 ·obtain⟨j,rfl⟩:∃ j,k=j+1:=⟨k-1,J⟩
  have ej:(((j+1:Nat):Int)-1).toNat=j:=by omega
  have ek:(((j+1:Nat):Int)-1)=j:=by omega
  have hj:=gZ h j
  have hnB:=amc h (k:=j+1) (j:=1) J
  rw [<-hn] at hnB
  refine yu ?_
  exact fU j (n*4294967296+a.getD j 0) ⟨J,by rw [nr J,hn];omega⟩
 ·obtain rfl:k=0:=by omega
  rw [List.drop_zero] at hn
  refine bu ?_
  rw [<-hn]
  exact dC
open H0 in
theorem ayV (a b:Nat) (ha:a<18446744073709551616) (hb:b<18446744073709551616):av Tryz.prog 281 [cC a,cC b] (cC (Nat.gcd a b)):=by
 refine aN Tryz.func281 ?_
 refine aR ?_
 refine jL (fun(m n:Nat) L=>(((St.mk L.slot (hp [])).put (some 0) (cC m)).put (some 1) (cC n))) (fun m n=>Nat.gcd m n=Nat.gcd a b/\m<18446744073709551616/\n<18446744073709551616) (fun m n=>n) a b ⟨rfl,ha,hb⟩ ?_
 rintro m n L1 ⟨uB,hm,hn⟩
 refine aR ?_
 refine aC rfl ?_ ?_<;>intro tE h6
 ·refine aJ ?_
  refine aY 6 an ?_
  refine bq ?_
  exact fU n (m % n) ⟨by rw [Nat.gcd_comm,<-Nat.gcd_rec,Nat.gcd_comm];exact uB,hn,by have:=Nat.mod_lt m (show n > 0 by omega);omega⟩ (hm:=Nat.mod_lt _ J)
 ·obtain rfl:n=0:=by omega
  refine bu ?_
  rw [<-uB,Nat.gcd_zero_right]
  exact dC
namespace anz
theorem aH {p q:Prop} (k:q) (e:p=q:=by simp only [e1,e2,e3,e4,p1,p2,p3,q1,q2,q3,l1,t0,t1,r1,r2,r3,r4,Nat.zero_add,Nat.reduceMul,Nat.reduceAdd,b1,b2,b3,b4,b5,b6,i1,i2,i3,i4,i5,i6,Nat.reduceBEq,fc,List.length_set,Nat.add_zero,eqm,eqz];exact rfl):p:=e.mpr k
end anz
open anz in
theorem ao7 (l:List Nat) (off len n:Nat) (hn:n<18446744073709551616) (h1:1<=len) (h2:4294967296<=n->2<=len) (hl:off+len<=l.length):lH Tryz.prog 282 ⟨1,l.map bh,true⟩ [.ref 0 1 off len,cC n] (ah (k5 n)) ⟨1,(nU l off n).map bh,true⟩:=by
 refine ud Tryz.func282 ?_
 have eqm:True:=trivial
 have eqz:True:=trivial
 refine agJ ?_
 refine aC rfl ?_ ?_<;>intro aey zi
 ·have mz:n<4294967296:=by omega
  have eqz:n % 4294967296=n:=Nat.mod_eq_of_lt mz
  refine aR ?_
  simp only [nU,k5,if_pos mz,eqz]
  exact sw rfl (.cf (.pure rfl)) rfl rfl (aW eZ _)
 ·have mz:¬ n<4294967296:=by omega
  have eqm:n/4294967296 % 4294967296=n/4294967296:=Nat.mod_eq_of_lt J
  refine mQ ?_
  simp only [nU,k5,if_neg mz]
  exact sw rfl (.cf (.pure rfl)) rfl rfl (aW eZ _)
theorem awU:val []=0:=rfl
theorem avP (n:Nat):decide (((di n:Nat):Int)=0)=decide (n=0):=by
 rw [decide_eq_decide,<-tj];omega
theorem xj {n:Nat} (h:(al n).length=1):(al n).getD 0 0=n/\0<n:=by
 have h0:0<n:=Nat.pos_of_ne_zero (fun e=>by rw [e,tc] at h;cases h)
 rw [aaV h0 (rL.1 J)];exact⟨rfl,h0⟩
namespace akx
theorem aH {p q:Prop} (k:q) (e:p=q:=by simp only [e1,e2,e3,e4,p1,p2,p3,q1,q2,q3,l1,t0,t1,r1,r2,r3,r4,Nat.zero_add,Nat.reduceMul,Nat.reduceAdd,b1,b2,b3,b4,b5,b6,i1,i2,i3,i4,i5,i6,Nat.reduceBEq,aP ao,cH,fc,bU];exact rfl):p:=e.mpr k
end akx
open akx in
theorem x6 (q:Rat):av Tryz.prog 171 [ae q] (.a7 [cC (pN q),cC (pD q),bL (vv q)]):=by
 have hdp:=q.den_pos
 have aCd:=tG q
 refine aN Tryz.func171 ?_
 refine mH ?_
 refine dy 9 rfl ?_ ?_<;>intro ta h9
 ·have hs:vv q=false:=decide_eq_false (fun h=>by have:=rL.2 h.1;omega)
  have kg:True:=trivial
  refine im ?_
  simp only [pN,pD,hs,Bool.false_eq_true,if_false]
  exact zZ [] rfl rfl (.pure rfl) rfl (.pure rfl) rfl (.pure rfl)
 ·have mz:=rL.1 (show (al q.num.natAbs).length<=1 by omega)
  refine aR ?_
  refine aC rfl ?_ ?_<;>intro oI kg
  ·have hs:vv q=false:=by first | exact hs | exact decide_eq_false (fun h=>by have:=azX h.2;omega)
   refine bq ?_
   simp only [pN,pD,hs,Bool.false_eq_true,if_false]
   exact zZ [] rfl rfl (.pure rfl) rfl (.pure rfl) rfl (.pure rfl)
  ·have ks:q.den<4294967296:=by
    have:=rL.1 (show (al (iG q)).length<=1 by omega)
    rw [aCd] at this;split at this<;>omega
   have hs:vv q=true:=decide_eq_true ⟨mz,ks⟩
   refine mH ?_
   refine fZ (fun L=>∃ (d:Nat) (L1:St),(d=q.den)/\L=(((St.mk L1.slot (hp [(1,⟨3,[ae q],true⟩)])).put (some 1) (.aA 1 3 0 0)).put (some 3) (cC d))) ?_ ?_
   ·refine aC rfl ?_ ?_<;>intro rz rp
    ·have jC:=afz (q:=q) J
     have o8:(al (iG q)).getD 0 0=q.den:=by rw [jC,aaV hdp ks];rfl
     refine bq ?_
     exact⟨(al (iG q)).getD 0 0,_,o8,((aj (aj (bC cl) cl) cl)).symm⟩
    ·have jC:=ag7 (q:=q) J
     refine aL ?_
     exact⟨1,_,jC.symm,((aj (aj (bC cl) cl) cl)).symm⟩
   ·rintro _ ⟨d,aDp,rfl,rfl⟩
    refine aZ ?_
    refine cp aK (aiW _ (cE _) J) ?_
    refine bq ?_
    simp only [pN,pD,hs,if_true]
    have fo:((q.den:Int) != 0)=true:=by simp;omega
    refine zZ [] rfl rfl (.pure rfl) rfl (.pure rfl) (x'':=.v (.bool ((q.den:Int) != 0))) rfl ?_
    rw [fo]
    exact .pure rfl
namespace ana
theorem aH {p q:Prop} (k:q) (e:p=q:=by simp only [e1,e2,e3,e4,p1,p2,p3,q1,q2,q3,l1,t0,t1,r1,r2,r3,r4,Nat.zero_add,Nat.reduceMul,Nat.reduceAdd,b1,b2,b3,b4,b5,b6,i1,i2,i3,i4,i5,i6,Nat.reduceBEq,fc,Nat.sub_zero,Nat.zero_add,Nat.add_sub_cancel_left,Nat.add_zero];exact rfl):p:=e.mpr k
theorem uh {p q:Prop} (k:q) (e:p=q:=by simp only [e1,e2,e3,e4,p1,p2,p3,q1,q2,q3,l1,t0,t1,r1,r2,r3,r4,Nat.zero_add,Nat.reduceMul,Nat.reduceAdd,b1,b2,b3,b4,b5,b6,i1,i2,i3,i4,i5,i6,Nat.reduceBEq,fc,Nat.sub_zero,Nat.zero_add,Nat.add_sub_cancel_left,Nat.add_zero,<-hN,<-hD];exact rfl):p:=e.mpr k
theorem qS {p:Prop} (h:p:=by first | (refine uh ?_;exact rfl) | exact rfl):p:=h
end ana
open ana in
theorem abe (s:Bool) (n d:Nat) (hn:n<18446744073709551616) (jw:0<d) (hd:d<18446744073709551616):av Tryz.prog 245 [bL s,cC n,cC d] (ae (qv s n d)):=by
 refine aN Tryz.func245 ?_
 refine bu ?_
 refine aC rfl ?_ ?_<;>intro aeu h13
 ·refine bf ?_
  obtain rfl:n=0:=by omega
  rw [ac3,oa]
  exact aaP
 ·have gU:0<n:=by omega
  have hg:0<Nat.gcd n d:=Nat.gcd_pos_of_pos_left _ gU
  have lI:0<n/Nat.gcd n d:=Nat.div_pos (Nat.le_of_dvd gU (Nat.gcd_dvd_left n d)) hg
  have tD:0<d/Nat.gcd n d:=Nat.div_pos (Nat.le_of_dvd jw (Nat.gcd_dvd_right n d)) hg
  have wj:n/Nat.gcd n d<18446744073709551616:=Nat.lt_of_le_of_lt (Nat.div_le_self _ _) hn
  have hd3:d/Nat.gcd n d<18446744073709551616:=Nat.lt_of_le_of_lt (Nat.div_le_self _ _) hd
  have hE:=adJ s gU jw
  obtain⟨g,hgg⟩:∃ g,g=Nat.gcd n d:=⟨_,rfl⟩
  obtain⟨N,hN⟩:∃ N,N=n/Nat.gcd n d:=⟨_,rfl⟩
  obtain⟨D,hD⟩:∃ D,D=d/Nat.gcd n d:=⟨_,rfl⟩
  rw [<-hN,<-hD] at hE
  rw [<-hN] at lI wj
  rw [<-hD] at tD hd3
  have rX:=acw lI wj
  have kT:=acw tD hd3
  obtain⟨jm,vK⟩:=atH lI wj tD hd3
  have dq:=aBK lI wj
  have jJ:(nU [0,0,0,0] 0 N).length=4:=agE _ _ _
  have mc:(nU (nU [0,0,0,0] 0 N) (k5 N) D).length=4:=by rw [agE,agE];rfl
  refine az ?_
  refine cp aq (ayV _ _ J J) ?_
  refine ax ?_
  refine aY 8 an ?_
  refine aL ?_
  refine ak rfl abP ?_
  refine aL ?_
  refine ak rfl abP ?_
  refine aL ?_
  refine qn qS ?_
  refine aJ ?_
  refine eI rfl rfl (.kK (n:=4) (m:=4) ml ml om om om) ?_
  refine aR ?_
  refine vy 24 rfl rfl rfl (aW eZ _) (.cons .ref (.cons (.cf (.pure rfl)) .nil)) (.ref ai) (ao7 [0,0,0,0] 0 4 N wj J J aO) rfl (aW eZ _) ?_
  refine bq ?_
  refine ak rfl (.adp (a:=0) (h:=k5 N) (mx:=k5 N) rfl Tryz.underlying29 ph (fun y hy=>by cases hy) (fun _=>rfl) rfl rfl J J J J) ?_
  refine bu ?_
  refine aC rfl ?_ ?_<;>intro xf vR
  ·refine aZ ?_
   refine ak rfl (.th (a:=k5 N) (h:=4) rfl Tryz.underlying29 ph (fun y hy=>by cases hy;exact⟨_,rfl⟩) (fun h=>by cases h) (fun y hy=>by cases hy) (fun _=>rfl) J J J) ?_
   refine ar ?_
   refine vy 24 rfl rfl rfl (aW eZ _) (.cons .ref (.cons (.cf (.pure rfl)) .nil)) (.ref J) (ao7 (nU [0,0,0,0] 0 N) (0+k5 N) (4-k5 N) D hd3 J J J) rfl (aW eZ _) ?_
   refine bq ?_
   refine ak rfl (.adp (a:=k5 N) (h:=k5 N+k5 D) (mx:=k5 N+k5 D) rfl Tryz.underlying29 ph (fun y hy=>by cases hy;exact⟨_,rfl⟩) (fun h=>by cases h) rfl rfl J J J J) ?_
   refine bo ?_
   rw [hE,if_neg J]
   exact fW [24] rfl rfl rfl rfl rfl cJ (.agg (.cons (.pure rfl) (.cons (ajQ eZ rfl rfl J jm) (.cons (ajQ eZ rfl rfl J vK) .nil))))
  ·refine bq ?_
   rw [hE,if_pos J]
   exact fW [24] rfl rfl rfl rfl rfl cJ (.agg (.cons (.pure rfl) (.cons (ajQ eZ rfl rfl J dq) (.cons (.pure rfl) .nil))))
namespace anI
theorem aH {p q:Prop} (k:q) (e:p=q:=by simp only [e1,e2,e3,e4,p1,p2,p3,q1,q2,q3,l1,t0,t1,r1,r2,r3,r4,Nat.zero_add,Nat.reduceMul,Nat.reduceAdd,b1,b2,b3,b4,b5,b6,i1,i2,i3,i4,i5,i6,Nat.reduceBEq,fc,bU,awU,Nat.add_zero];exact rfl):p:=e.mpr k
end anI
open anI in
theorem aaa (s:Bool) (a b:List Nat) (ha:bM a) (hb:bM b) (fb:a.length<=1099511627776) (lg:b.length<=1099511627776):av Tryz.prog 194 [bL s,ee a,ee b] (ae (qv s (val a) (val b))):=by
 have zA:=aae a ha fb
 have ae2:=aae b hb lg
 refine aN Tryz.func194 ?_
 refine aR ?_
 refine fZ (fun L=>∃ (t:Bool) (L1:St),(t=decide (val a=0\/val b=0))/\L=((((((St.mk L1.slot (hp [(6,⟨3,[.agg [.v (.bool false),.list 1 [],.list 1 []]],true⟩)])).put (some 0) (bL s)).put (some 1) (ee a)).put (some 2) (ee b)).put (some 6) (.aA 6 3 0 0)).put (some 15) (bL t))) ?_ ?_
 ·refine aL ?_
  refine cp aK (aaU _ gV J) ?_
  refine aL ?_
  refine dy 11 rfl ?_ ?_<;>intro aey zi
  ·have hz:val a=0:=tj.1 J
   refine az ?_
   exact⟨true,_,(decide_eq_true (.inl hz)).symm,((aj (aj (aj (aj (aj (bC cl) cl) cl) cl) cl) cl)).symm⟩
  ·have uU:val a≠0:=fun h=>by rw [tj.2 h] at zi;exact zi rfl
   refine ar ?_
   refine cp aK (aaU _ gV J) ?_
   refine ax ?_
   exact⟨decide (((di (val b):Nat):Int)=0),_,by show decide _=_;rw [avP];simp [uU],((aj (aj (aj (aj (aj (bC cl) cl) cl) cl) cl) cl)).symm⟩
 ·rintro _ ⟨t,LR1,ht,rfl⟩
  refine ar ?_
  refine aC rfl ?_ ?_<;>intro nH lJ
  ·have hq:qv s (val a) (val b)=0:=by
    rw [ht,decide_eq_true_eq] at nH
    rcases nH with h | h
    ·rw [h];exact ac3 _ _
    ·rw [h];exact ail _ _
   refine bf ?_
   rw [hq,oa]
   exact aaP
  ·rw [ht,decide_eq_false_iff_not,not_or] at nH
   have ha0:0<val a:=Nat.pos_of_ne_zero nH.1
   have fo:0<val b:=Nat.pos_of_ne_zero nH.2
   have hg:0<Nat.gcd (val a) (val b):=Nat.gcd_pos_of_pos_left _ ha0
   have hE:=adJ s ha0 fo
   have hgl:(al (Nat.gcd (val a) (val b))).length<=1099511627776:=Nat.le_trans (mO (Nat.le_of_dvd ha0 (Nat.gcd_dvd_left _ _))) zA
   have x7:(al (val a/Nat.gcd (val a) (val b))).length<=1099511627776:=Nat.le_trans (mO (Nat.div_le_self _ _)) zA
   have hqb:(al (val b/Nat.gcd (val a) (val b))).length<=1099511627776:=Nat.le_trans (mO (Nat.div_le_self _ _)) ae2
   refine ax ?_
   refine fZ (fun L=>∃ (t:Bool) (L1:St),(t=decide (a.length<=2/\b.length<=2))/\L=((((((St.mk L1.slot (hp [(6,⟨3,[.agg [.v (.bool false),.list 1 [],.list 1 []]],true⟩)])).put (some 0) (bL s)).put (some 1) (ee a)).put (some 2) (ee b)).put (some 6) (.aA 6 3 0 0)).put (some 24) (bL t))) ?_ ?_
   ·refine aZ ?_
    refine dy 20 rfl ?_ ?_<;>intro yZ y8
    ·refine az ?_
     exact⟨decide (((b.length:Nat):Int)<=2),_,by rw [decide_eq_decide];omega,((aj (aj (aj (aj (aj (bC cl) cl) cl) cl) cl) cl)).symm⟩
    ·refine az ?_
     exact⟨false,_,by symm;rw [decide_eq_false_iff_not];omega,((aj (aj (aj (aj (aj (bC cl) cl) cl) cl) cl) cl)).symm⟩
   ·rintro _ ⟨t,LR3,ht2,rfl⟩
    refine ar ?_
    refine aC rfl ?_ ?_<;>intro o7 rv
    ·rw [ht2,decide_eq_true_eq] at o7
     have aDv:=o7.1
     have aEm:=o7.2
     refine ax ?_
     have hva:=qQ ha (k:=2) J
     have hvb:=qQ hb (k:=2) J
     refine cp aK (aiW a ha J) ?_
     refine ar ?_
     refine cp aK (aiW b hb J) ?_
     refine cp fJ (abe _ _ _ hva fo hvb) ?_
     refine aZ ?_
     exact fq
    ·refine aR ?_
     refine cp aq (ajS _ _ gV gV J J) ?_
     refine az ?_
     refine cp aK (aaU _ gV J) ?_
     refine aJ ?_
     refine fZ (fun L=>∃ (x:List Nat) (y:List Nat) (L1:St),(bM x/\bM y/\x.length<=1099511627776/\y.length<=1099511627776/\val x=val a/Nat.gcd (val a) (val b)/\val y=val b/Nat.gcd (val a) (val b))/\L=(((((St.mk L1.slot (hp [(6,⟨3,[.agg [.v (.bool false),.list 1 [],.list 1 []]],true⟩)])).put (some 0) (bL s)).put (some 1) (ee x)).put (some 2) (ee y)).put (some 6) (.aA 6 3 0 0))) ?_ ?_
     ·refine aC rfl ?_ ?_<;>intro alF h36
      ·refine ax ?_
       refine cp aq (afx _ _ gV gV J J (by rw [bU];exact hg)) ?_
       refine bB ?_
       refine cp aq (afx _ _ gV gV J J (by rw [bU];exact hg)) ?_
       refine aR ?_
       exact⟨al (val a/Nat.gcd (val a) (val b)),al (val b/Nat.gcd (val a) (val b)),_,⟨cE _,cE _,x7,hqb,bU _,bU _⟩,((aj (aj (aj (aj (bC cl) cl) cl) cl) cl)).symm⟩
      ·have l9:Nat.gcd (val a) (val b)=1:=axd.1 (by have:=tj (n:=Nat.gcd (val a) (val b));omega)
       refine aL ?_
       exact⟨a,b,_,⟨ha,hb,fb,lg,by rw [l9,Nat.div_one],by rw [l9,Nat.div_one]⟩,((aj (aj (aj (aj (bC cl) cl) cl) cl) cl)).symm⟩
     ·rintro _ ⟨x,y,aDU,⟨hx,hy,hlx,hly,hvx,hvy⟩,rfl⟩
      rw [<-hvx,<-hvy] at hE
      have gW:0<val y:=by rw [hvy];exact Nat.div_pos (Nat.le_of_dvd fo (Nat.gcd_dvd_right _ _)) hg
      refine ax ?_
      refine cp aq (ahC x [] hx (by intro y hy;cases hy) hlx aO) ?_
      refine ar ?_
      refine cp aq (ahC y [] hy (by intro y hy;cases hy) hly aO) ?_
      refine bo ?_
      refine dy 58 rfl ?_ ?_<;>intro amZ h58
      ·refine aR ?_
       refine aC rfl ?_ ?_<;>intro aiU fw
       ·have jZ:val y=1:=by have:=(xj (n:=val y) J).1;omega
        refine dj ?_
        rw [hE,if_pos jZ]
        exact fW [] rfl rfl rfl rfl rfl cJ (.agg (.cons (.pure rfl) (.cons (.pure (iN _)) (.cons (.nil 1) .nil))))
       ·have jZ:val y≠1:=by have:=(xj (n:=val y) J).1;omega
        refine bu ?_
        rw [hE,if_neg jZ]
        exact acG
      ·have jZ:val y≠1:=fun e=>by rw [e,aeg] at h58;exact h58 rfl
       refine nj ?_
       rw [hE,if_neg jZ]
       exact acG
open H0 in
theorem ahA (n:Int) (h1:-9223372036854775808<=n) (h2:n<=9223372036854775807):av Tryz.prog 195 [iL n] (ba n.natAbs):=by
 refine aN Tryz.func195 ?_
 refine bu ?_
 refine aC rfl ?_ ?_<;>intro h4r h4
 ·refine aL ?_
  refine cp aK (agm 9223372036854775808 J) ?_
  refine aZ ?_
  rw [show n.natAbs=9223372036854775808 by omega]
  exact dC
 ·refine az ?_
  refine ak rfl (.neg rfl) ?_
  refine ar ?_
  refine ak rfl (.aep (n:=n.natAbs) Tryz.underlying2 Tryz.underlying134 (by simp only [e1,p1,p2,Nat.reduceBEq];rw [azU J J]) J) ?_
  refine cp aK (agm n.natAbs J) ?_
  refine ax ?_
  exact dC
theorem sN {P:Program} {L:St} {a u:Nat} {T:TypeId} {b sz:Nat} {x y x' y':LV} {m:Bool} {n:Nat} {ag:Bool} (bs:List Nat) (h0:bs.contains 0=false) (h:L.slot a=.aA b sz 0 0) (hb:L.heap b=some ⟨sz,[x],m⟩)
  (hx:x.au=sz) (bW:x.at 0 n ag=some x) (hT:bp P T n ag) (hi:cG (L.bR bs).heap x y) (h':L.slot u=x') (lT:cG (L.bR bs).heap x' y'):nt P [.cell a T,.tmp u] L (.a7 [y,y']) [] :=
 ⟨[x,x'],[y,y'],(L.bR bs).heap,[],.cons ⟨b,sz,0,0,_,x,n,ag,h,hb,rfl,rfl,hx,bW,hT⟩ (.cons h' .nil),pv bs h0,.cons (.cf hi) (.cons (.cf lT) .nil),List.nodup_nil,rfl,fun k b h=>by simp at h,rfl⟩
namespace afI
theorem aH {p q:Prop} (k:q) (e:p=q:=by simp only [e1,e2,e3,e4,p1,p2,p3,q1,q2,q3,l1,t0,t1,r1,r2,r3,r4,Nat.zero_add,Nat.reduceMul,Nat.reduceAdd,b1,b2,b3,b4,b5,b6,i1,i2,i3,i4,i5,i6,Nat.reduceBEq,bU];exact rfl):p:=e.mpr k
end afI
open afI in
theorem uk (n:Int) (h1:-9223372036854775808<=n) (h2:n<=9223372036854775807):av Tryz.prog 107 [iL n] (ae (n:Rat)):=by
 refine aN Tryz.func107 ?_
 refine bB ?_
 refine cp aK (ahA _ J J) ?_
 refine cp am0 (ajM) ?_
 refine cp fJ (aaa (decide (n<0)) (al n.natAbs) (al 1) (cE _) (cE _) (Nat.le_trans (xe.2 J) J) (by rw [aeg];decide)) ?_
 refine ax ?_
 rw [<-acs n]
 exact fq
open afI in
theorem aho (n d:Int) (h1:-9223372036854775808<=n) (h2:n<=9223372036854775807) (h3:-9223372036854775808<=d) (h4:d<=9223372036854775807) (hd:d≠0):av Tryz.prog 294 [iL n,iL d] (.a7 [ae ((n:Rat)/(d:Rat)),iL 0]):=by
 refine aN Tryz.func294 ?_
 refine dp ?_
 refine aC rfl ?_ ?_<;>intro h7r h7
 ·exact absurd h7 hd
 ·refine bB ?_
  refine cp aK (ahA _ J J) ?_
  refine ar ?_
  refine cp aK (ahA _ J J) ?_
  refine cp fJ (aaa (decide (n<0) != decide (d<0)) (al n.natAbs) (al d.natAbs) (cE _) (cE _) (Nat.le_trans (xe.2 J) J) (Nat.le_trans (xe.2 J) J)) ?_
  refine aZ ?_
  rw [<-ac1]
  exact ac0
theorem yp {q:Rat} (h:vv q=true):pN q=q.num.natAbs/\pD q=q.den/\q.num.natAbs<4294967296/\q.den<4294967296:=by
 have h2:=of_decide_eq_true h
 exact⟨by simp [pN,h],by simp [pD,h],h2.1,h2.2⟩
theorem dW {x y k l:Nat} (hx:(al x).length<=k) (hy:(al y).length<=l):(al (x*y)).length<=k+l :=
 u6 (yy (rj hx) (rj hy))
theorem ajr {x y k:Nat} (hx:(al x).length<=k) (hy:(al y).length<=k):(al (x+y)).length<=k+1 :=
 u6 (aqm (rj hx) (rj hy))
def aaZ (x y:Nat):List Nat:=if x<y then [] else al (x-y)
def zU (x y:Nat):Int:=if x<y then 7 else 0
theorem amq (x y:Nat) (hx:(al x).length<=1099511627776) (hy:(al y).length<=1099511627776):av Tryz.prog 249 [ba x,ba y] (.a7 [ee (aaZ x y),iL (zU x y)]):=by
 unfold aaZ zU
 by_cases h:x<y
 ·rw [if_pos h,if_pos h]
  exact azK _ _ (cE _) (cE _) hx hy (by rw [bU,bU];exact h)
 ·rw [if_neg h,if_neg h]
  have:=auT _ _ (cE x) (cE y) hx hy (by rw [bU,bU];omega)
  rw [bU,bU] at this
  exact this
theorem ajT {x y:Nat}:zU x y=0↔y<=x:=by unfold zU;split<;>omega
theorem ab1 {x y:Nat} (h:y<=x):aaZ x y=al (x-y):=by unfold aaZ;rw [if_neg J]
section
variable {a b:Rat} {s:Bool} {x y d k:Nat}
theorem add_same (hk:0<k) (hx:x*k=a.num.natAbs*b.den) (hy:y*k=b.num.natAbs*a.den) (hd:d*k=a.den*b.den) (h:decide (a<0)=s):a+uo s b=qv s (x+y) d:=by
 have:=akb s (n:=a.num.natAbs) (m:=b.num.natAbs) a.den_pos b.den_pos
 rw [<-hx,<-hy,<-hd,<-Nat.add_mul,ai9 s hk] at this
 rw [<-this,uo]
 subst h
 rw [kU]
theorem aie (hk:0<k) (hx:x*k=a.num.natAbs*b.den) (hy:y*k=b.num.natAbs*a.den) (hd:d*k=a.den*b.den) (h:decide (a<0)≠s) (hle:y<=x):a+uo s b=qv (decide (a<0)) (x-y) d:=by
 have:=amQ (decide (a<0)) s (n:=a.num.natAbs) (m:=b.num.natAbs) a.den_pos b.den_pos h (by rw [<-hx,<-hy];exact Nat.mul_le_mul_right _ hle)
 rw [<-hx,<-hy,<-hd,<-Nat.sub_mul,ai9 _ hk] at this
 rw [<-this,uo,kU]
theorem ajD (hk:0<k) (hx:x*k=a.num.natAbs*b.den) (hy:y*k=b.num.natAbs*a.den) (hd:d*k=a.den*b.den) (h:decide (a<0)≠s) (hle:x<=y):a+uo s b=qv s (y-x) d:=by
 have:=akB (decide (a<0)) s (n:=a.num.natAbs) (m:=b.num.natAbs) a.den_pos b.den_pos h (by rw [<-hx,<-hy];exact Nat.mul_le_mul_right _ hle)
 rw [<-hx,<-hy,<-hd,<-Nat.sub_mul,ai9 _ hk] at this
 rw [<-this,uo,kU]
end
theorem ag4 {a b:Rat} (h:al (iG a)=al (iG b)):a.den=b.den:=by
 have h2:iG a=iG b:=by rw [<-bU (iG a),h,bU]
 rw [tG,tG] at h2
 have:=a.den_pos
 have:=b.den_pos
 split at h2<;>split at h2<;>omega
theorem atJ {x y k:Nat} (hk:0<k):iT (x*k) (y*k)=iT x y:=by
 simp only [iT,Nat.mul_lt_mul_right hk]
theorem aiM {a b:Rat} (ha:¬ a<0) (hb:¬ b<0):a<b↔a.num.natAbs*b.den<b.num.natAbs*a.den:=by
 rw [aff] at ha hb
 rw [Rat.lt_iff]
 have h1:a.num=(a.num.natAbs:Int):=by omega
 have h2:b.num=(b.num.natAbs:Int):=by omega
 rw [h1,h2]
 simp only [Int.natAbs_natCast]
 exact_mod_cast Iff.rfl
theorem aj6 {a b:Rat} (ha:a<0) (hb:b<0):a<b↔b.num.natAbs*a.den<a.num.natAbs*b.den:=by
 have:=aiM (a:=-b) (b:=-a) cA cA
 rw [Rat.neg_num,Rat.neg_num,Int.natAbs_neg,Int.natAbs_neg,Rat.neg_den,Rat.neg_den] at this
 rw [<-this]
 grind
theorem afl {a b:Rat} (h:cM a=cM b):fi a b=if a<0 then-iT (a.num.natAbs*b.den) (b.num.natAbs*a.den) else iT (a.num.natAbs*b.den) (b.num.natAbs*a.den):=by
 have hs:(a<0)↔(b<0):=by
  unfold cM at h
  split at h<;>split at h<;>(try split at h)<;>(try split at h)<;>grind
 by_cases ha:a<0
 ·have hb:=hs.1 ha
  rw [if_pos ha]
  simp only [fi,iT,aj6 ha hb,aj6 hb ha]
  split<;>split<;>omega
 ·have hb:=fun h=>ha (hs.2 h)
  rw [if_neg ha]
  simp only [fi,iT,aiM ha hb,aiM hb ha]
theorem aox {a b:Rat} (h:cM a<cM b):fi a b=-1:=by
 have:a<b:=by unfold cM at h;split at h<;>split at h<;>(try split at h)<;>(try split at h)<;>grind
 simp [fi,this]
theorem al6 {a b:Rat} (h:cM b<cM a):fi a b=1:=by
 have h1:b<a:=by unfold cM at h;split at h<;>split at h<;>(try split at h)<;>(try split at h)<;>grind
 have h2:¬ a<b:=by grind
 simp [fi,h1,h2]
theorem wi {q:Rat} (h:(al q.num.natAbs).length=0):q=0:=by
 have:=pw.1 (List.eq_nil_of_length_eq_zero h)
 exact Rat.num_eq_zero.1 J
theorem akn {c:Int} {x y:Nat} (h:c=iT x y):IntKind.i64.wrap (0-c)=-c:=by
 have:c=-1\/c=0\/c=1:=by rw [h];unfold iT;split<;>(try split)<;>simp
 rw [IntWalk.i64_in _ J];omega
end Go.Proofs.YtckppbhafancnaaGreat
namespace Go.Lg
open Go.Proofs.YtckppbhafancnaaGreat in
theorem fI.ase {P:Program} {L:St} {dst:Option Nat} {T:TypeId} {p x:Operand} {b:Nat} {q q0:Rat} (hp:L.ev p=.aA b 3 0 0) (hb:L.heap b=some ⟨3,[ae q0],true⟩) (hx:L.ev x=ae q) (hT:bp P T 3 true) :
  fI P L dst (.store T p x) ((L.bG b (some ⟨3,[ae q],true⟩)).put dst .any):=by
 have h0:LV.put (ae q0) 0 (L.ev x)=some (ae q):=by
  rw [hx,sB q0]
  have e1:∀ n,(ba n).au=1:=fun _=>rfl
  simp [LV.put,ao.au,ao.isAgg,cF,LV.au,e1]
 have h:=fI.store (P:=P) (dst:=dst) (T:=T) (p:=p) (x:=x) (y:=ae q0) (y':=ae q) hp hb rfl rfl rfl (ao.au _) h0 (by rw [hx,ao.au,ao.isAgg];exact hT)
  (by rw [hx];exact⟨LV.eF (ao.pure q),LV.dZ (ao.pure q)⟩)
 exact h
end Go.Lg
namespace Go.Proofs.YtckppbhafancnaaGreat
open Go.Lg
open afI in
theorem uW (q:Rat) (h:rl q<=1099511627776):av Tryz.prog 38 [ae q] (iL (cM q)):=by
 have h1:=kY q
 have hq:=aq1 q
 refine aN Tryz.func38 ?_
 refine bu ?_
 refine cp aK (aaU _ gV J) ?_
 refine ax ?_
 refine aC rfl ?_ ?_<;>intro h3r h3
 ·have hz:q.num.natAbs=0:=tj.1 J
  refine bf ?_
  rw [hq,if_pos hz]
  exact dC
 ·have hz:q.num.natAbs≠0:=fun e=>by rw [tj.2 e] at h3;exact h3 rfl
  refine aR ?_
  refine aC rfl ?_ ?_<;>intro mX h8
  ·refine bf ?_
   rw [hq,if_neg hz,if_pos h8]
   exact dC
  ·refine bq ?_
   rw [hq,if_neg hz,if_neg h8]
   exact dC
open H0 in
theorem ahu (q:Rat) (h:rl q<=1099511627776):av Tryz.prog 244 [ae q] (ae q):=by
 have h1:=kY q
 have h2:=lK q
 refine aN Tryz.func244 ?_
 refine aR ?_
 refine aY 9 an ?_
 refine ax ?_
 refine cp aK (adK _ J) ?_
 refine aL ?_
 refine cp aK (adK _ J) ?_
 refine aZ ?_
 rw [sB]
 exact acG
namespace arW
theorem aH {p q:Prop} (k:q) (e:p=q:=by simp only [e1,e2,e3,e4,p1,p2,p3,q1,q2,q3,l1,t0,t1,r1,r2,r3,r4,Nat.zero_add,Nat.reduceMul,Nat.reduceAdd,b1,b2,b3,b4,b5,b6,i1,i2,i3,i4,i5,i6,Nat.reduceBEq,bU];exact rfl):p:=e.mpr k
theorem uh {p q:Prop} (k:q) (e:p=q:=by simp only [e1,e2,e3,e4,p1,p2,p3,q1,q2,q3,l1,t0,t1,r1,r2,r3,r4,Nat.zero_add,Nat.reduceMul,Nat.reduceAdd,b1,b2,b3,b4,b5,b6,i1,i2,i3,i4,i5,i6,Nat.reduceBEq,bU,oG,oh,ou,oM];exact rfl):p:=e.mpr k
theorem qS {p:Prop} (h:p:=by first | (refine uh ?_;exact rfl) | exact rfl):p:=h
end arW
open arW in
theorem lL (a b:Rat) (h:rl a+rl b<=1099511627776):av Tryz.prog 92 [ae a,ae b] (iL (fi a b)):=by
 have a1:=kY a
 have a2:=mE a
 have a3:=lK a
 have c1:=kY b
 have c2:=mE b
 have c3:=lK b
 have a0:=a.den_pos
 have c0:=b.den_pos
 have m1:=dW a1 c2
 have m2:=dW c1 a2
 have m3:=dW a2 c2
 have m4:=dW a1 c1
 have m5:=dW a2 c1
 have m6:=dW c2 a2
 refine aN Tryz.func92 ?_
 refine bq ?_
 refine aY 6 an ?_
 refine ar ?_
 refine cp aK (uW _ J) ?_
 refine ar ?_
 refine cp aK (uW _ J) ?_
 refine bo ?_
 refine aC rfl ?_ ?_<;>intro yZ y8
 ·refine bf ?_
  refine aC rfl ?_ ?_<;>intro p7 oS
  ·refine bf ?_
   rw [aox oS]
   exact dC
  ·refine bq ?_
   rw [al6 J]
   exact dC
 ·have mi:cM a=cM b:=by omega
  refine bo ?_
  refine cp aK (x6 _) ?_
  refine gy ?_
  refine cp aq (aeT _ _ J J) ?_
  refine aL ?_
  refine fZ (fun L=>∃ (c:Int) (L1:St),(c=iT (a.num.natAbs*b.den) (b.num.natAbs*a.den))/\L=(((St.mk L1.slot (hp [(2,⟨3,[ae a],true⟩),(3,⟨3,[ae b],true⟩)])).put (some 2) (.aA 2 3 0 0)).put (some 7) (iL c))) ?_ ?_
  ·refine aC rfl ?_ ?_<;>intro aeG yL
   ·refine aZ ?_
    refine cp aq (abV _ _ (cE _) (cE _) vn vn) ?_
    refine aJ ?_
    exact⟨iT a.num.natAbs b.num.natAbs,_,by rw [ag4 yL];exact(atJ b.den_pos).symm,((aj (aj (bC cl) cl) cl)).symm⟩
   ·refine aJ ?_
    refine cp aK (x6 _) ?_
    refine bB ?_
    refine fZ (fun L=>∃ (t:Bool) (L1:St),(t=(vv a && vv b))/\L=(((((((((St.mk L1.slot (hp [(2,⟨3,[ae a],true⟩),(3,⟨3,[ae b],true⟩)])).put (some 2) (.aA 2 3 0 0)).put (some 3) (.aA 3 3 0 0)).put (some 7) (iL 0)).put (some 8) (cC (pN a))).put (some 9) (cC (pD a))).put (some 11) (cC (pN b))).put (some 12) (cC (pD b))).put (some 49) (bL t))) ?_ ?_
    ·refine aJ ?_
     refine dy 47 rfl ?_ ?_<;>intro acJ h47
     ·refine ax ?_
      exact⟨vv b,_,by rw [acJ];rfl,((aj (aj (aj (aj (aj (aj (aj (aj (bC cl) cl) cl) cl) cl) cl) cl) cl) cl)).symm⟩
     ·refine ax ?_
      exact⟨false,_,by rw [acJ];rfl,((aj (aj (aj (aj (aj (aj (aj (aj (bC cl) cl) cl) cl) cl) cl) cl) cl) cl)).symm⟩
    ·rintro _ ⟨t,ayM,ht,rfl⟩
     refine ar ?_
     refine aC rfl ?_ ?_<;>intro ym h49
     ·rw [ht,Bool.and_eq_true] at ym
      obtain⟨oG,oh,k3,k4⟩:=yp ym.1
      obtain⟨ou,oM,k7,k8⟩:=yp ym.2
      have n1:=sb k3 k8
      have n2:=sb k7 k4
      have n3:=n1
      have n4:=n2
      rw [<-oG,<-oM] at n1
      rw [<-ou,<-oh] at n2
      refine ax ?_
      refine ak rfl (.bin rfl rfl (abL J)) ?_
      refine aL ?_
      refine ak rfl (.bin rfl rfl (abL J)) ?_
      refine ar ?_
      refine qn qS ?_
      refine ar ?_
      refine aC rfl ?_ ?_<;>intro aDr h56
      ·refine ax ?_
       exact⟨-1,_,(ot J).symm,((aj (aj (bC cl) cl) cl)).symm⟩
      ·refine ax ?_
       refine ak rfl (.bin rfl rfl (abL J)) ?_
       refine aL ?_
       refine ak rfl (.bin rfl rfl (abL J)) ?_
       refine ar ?_
       refine qn qS ?_
       refine ar ?_
       refine aC rfl ?_ ?_<;>intro aiU fw
       ·refine ax ?_
        exact⟨1,_,(qi J).symm,((aj (aj (bC cl) cl) cl)).symm⟩
       ·refine aL ?_
        exact⟨0,_,(rq J).symm,((aj (aj (bC cl) cl) cl)).symm⟩
     ·refine aY 12 an ?_
      refine aJ ?_
      refine cp aK (uL _) ?_
      refine cp aq (vM _ _ (cE _) (cE _) J J) ?_
      refine aJ ?_
      refine cp aK (uL _) ?_
      refine cp aq (vM _ _ (cE _) (cE _) J J) ?_
      refine cp aq (abV _ _ (cE _) (cE _) vn vn) ?_
      refine aJ ?_
      exact⟨iT (a.num.natAbs*b.den) (b.num.natAbs*a.den),_,rfl,((aj (aj (bC cl) cl) cl)).symm⟩
  ·rintro _ ⟨c,aD8,hc,rfl⟩
   refine bf ?_
   refine aC rfl ?_ ?_<;>intro aua h76
   ·refine bq ?_
    rw [afl mi,if_pos h76,<-hc,<-akn hc]
    exact dC
   ·refine bq ?_
    rw [afl mi,if_neg h76,<-hc]
    exact dC
namespace aii
theorem aH {p q:Prop} (k:q) (e:p=q:=by simp only [e1,e2,e3,e4,p1,p2,p3,q1,q2,q3,l1,t0,t1,r1,r2,r3,r4,Nat.zero_add,Nat.reduceMul,Nat.reduceAdd,b1,b2,b3,b4,b5,b6,i1,i2,i3,i4,i5,i6,Nat.reduceBEq,bU,oG,oh,ou,oM];exact rfl):p:=e.mpr k
end aii
open aii in
theorem gf (a b:Rat) (h:rl a+rl b<=1099511627776):av Tryz.prog 191 [ae a,ae b] (ae (a*b)):=by
 have a1:=kY a
 have a2:=mE a
 have a3:=lK a
 have c1:=kY b
 have c2:=mE b
 have c3:=lK b
 have a0:=a.den_pos
 have c0:=b.den_pos
 have m1:=dW a1 c2
 have m2:=dW c1 a2
 have m3:=dW a2 c2
 have m4:=dW a1 c1
 have m5:=dW a2 c1
 have m6:=dW c2 a2
 have hE:=afF (decide (a<0)) (decide (b<0)) a.num.natAbs a.den b.num.natAbs b.den
 rw [kU,kU] at hE
 refine aN Tryz.func191 ?_
 have oG:True:=trivial
 have oh:True:=trivial
 have ou:True:=trivial
 have oM:True:=trivial
 refine gy ?_
 refine dy 15 rfl ?_ ?_<;>intro nH lJ
 ·have hz:a*b=0:=by rw [wi (q:=a) J,Rat.zero_mul]
  refine mH ?_
  rw [hz,oa]
  exact aaP
 ·refine aR ?_
  refine aC rfl ?_ ?_<;>intro yZ y8
  ·have hz:a*b=0:=by rw [wi (q:=b) J,Rat.mul_zero]
   refine bf ?_
   rw [hz,oa]
   exact aaP
  ·refine az ?_
   refine cp aK (x6 _) ?_
   refine dj ?_
   refine fZ (fun L=>∃  (L1:St),(True)/\L=((((St.mk L1.slot (hp [(2,⟨3,[ae a],true⟩),(3,⟨3,[ae b],true⟩),(4,⟨3,[.agg [.v (.bool false),.list 1 [],.list 1 []]],true⟩)])).put (some 2) (.aA 2 3 0 0)).put (some 3) (.aA 3 3 0 0)).put (some 4) (.aA 4 3 0 0))) ?_ ?_
   ·refine aC rfl ?_ ?_<;>intro uJ ow
    ·obtain⟨oG,oh,k3,k4⟩:=yp uJ
     refine aJ ?_
     refine cp aK (x6 _) ?_
     refine dj ?_
     refine aC rfl ?_ ?_<;>intro xf vR
     ·obtain⟨ou,oM,k7,k8⟩:=yp xf
      have n1:=sb k3 k7
      have n2:=sb k4 k8
      have np:=Nat.mul_pos a0 c0
      refine bq ?_
      refine ak rfl abp ?_
      refine aL ?_
      refine ak rfl abp ?_
      refine cp fJ (abe _ _ _ xk (by first | exact np | (simp only [oG,oh,ou,oM];exact np)) xk) ?_
      refine az ?_
      rw [hE]
      exact fq
     ·refine aL ?_
      exact⟨_,trivial,((aj (aj (aj (bC cl) cl) cl) cl)).symm⟩
    ·refine aL ?_
     exact⟨_,trivial,((aj (aj (aj (bC cl) cl) cl) cl)).symm⟩
   ·rintro _ ⟨avS,-,rfl⟩
    refine aL ?_
    refine aY 16 an ?_
    refine bq ?_
    refine cp aq (vM _ _ (cE _) (cE _) J J) ?_
    refine ar ?_
    refine cp aK (uL _) ?_
    refine ar ?_
    refine cp aK (uL _) ?_
    refine cp aq (vM _ _ (cE _) (cE _) J J) ?_
    refine cp fJ (aaa _ _ _ (cE _) (cE _) vn vn) ?_
    refine ax ?_
    rw [hE]
    exact fq
open aii in
theorem td (a b:Rat) (h:rl a+rl b<=1099511627776):av Tryz.prog 169 [ae a,ae b] (.a7 [ae (a/b),iL (if b=0 then 3 else 0)]):=by
 have a1:=kY a
 have a2:=mE a
 have a3:=lK a
 have c1:=kY b
 have c2:=mE b
 have c3:=lK b
 have a0:=a.den_pos
 have c0:=b.den_pos
 have m1:=dW a1 c2
 have m2:=dW c1 a2
 have m3:=dW a2 c2
 have m4:=dW a1 c1
 have m5:=dW a2 c1
 have m6:=dW c2 a2
 have hE:=afO (decide (a<0)) (decide (b<0)) a.num.natAbs a.den b.num.natAbs b.den
 rw [kU,kU] at hE
 refine aN Tryz.func169 ?_
 have oG:True:=trivial
 have oh:True:=trivial
 have ou:True:=trivial
 have oM:True:=trivial
 refine bu ?_
 refine cp aK (uW _ J) ?_
 refine aJ ?_
 refine aC rfl ?_ ?_<;>intro oI kg
 ·have hz:b=0:=by
   unfold cM at kg;split at kg
   ·assumption
   ·split at kg<;>omega
  refine bq ?_
  subst hz
  rw [show a/0=0 by rw [Rat.div_def];simp,oa]
  exact sN [] rfl rfl rfl rfl rfl cJ (.pure rfl) rfl (.pure rfl)
 ·have hz:b≠0:=by rintro rfl;exact kg rfl
  have hbn:0<b.num.natAbs:=Nat.pos_of_ne_zero (fun h=>hz (Rat.num_eq_zero.1 J))
  refine az ?_
  refine cp aK (x6 _) ?_
  refine dj ?_
  refine fZ (fun L=>∃  (L1:St),(True)/\L=(((((St.mk L1.slot (hp [(2,⟨3,[ae a],true⟩),(3,⟨3,[ae b],true⟩),(4,⟨3,[.agg [.v (.bool false),.list 1 [],.list 1 []]],true⟩)])).put (some 2) (.aA 2 3 0 0)).put (some 3) (.aA 3 3 0 0)).put (some 4) (.aA 4 3 0 0)).put (some 5) (iL 0))) ?_ ?_
  ·refine aC rfl ?_ ?_<;>intro ads h22
   ·obtain⟨oG,oh,k3,k4⟩:=yp ads
    refine aJ ?_
    refine cp aK (x6 _) ?_
    refine dj ?_
    refine aC rfl ?_ ?_<;>intro aal xq
    ·obtain⟨ou,oM,k7,k8⟩:=yp aal
     have n1:=sb k3 k8
     have n2:=sb k4 k7
     have np:=Nat.mul_pos a0 hbn
     refine bq ?_
     refine ak rfl abp ?_
     refine aL ?_
     refine ak rfl abp ?_
     refine cp fJ (abe _ _ _ xk (by first | exact np | (simp only [oG,oh,ou,oM];exact np)) xk) ?_
     refine aR ?_
     rw [hE,if_neg hz]
     exact ac0
    ·refine aL ?_
     exact acm
   ·refine aL ?_
    exact acm
  ·rintro _ ⟨aDC,-,rfl⟩
   refine aL ?_
   refine aY 16 an ?_
   refine bf ?_
   refine cp aK (uL _) ?_
   refine cp aq (vM _ _ (cE _) (cE _) J J) ?_
   refine ar ?_
   refine cp aK (uL _) ?_
   refine aL ?_
   refine cp aq (vM _ _ (cE _) (cE _) J J) ?_
   refine cp fJ (aaa _ _ _ (cE _) (cE _) vn vn) ?_
   refine aZ ?_
   rw [hE,if_neg hz]
   exact ac0
theorem aaN {p s:Bool} (h:(p==s)=false):p≠s:=by simpa using h
namespace akk
theorem aH {p q:Prop} (k:q) (e:p=q:=by simp only [e1,e2,e3,e4,p1,p2,p3,q1,q2,q3,l1,t0,t1,r1,r2,r3,r4,Nat.zero_add,Nat.reduceMul,Nat.reduceAdd,b1,b2,b3,b4,b5,b6,i1,i2,i3,i4,i5,i6,Nat.reduceBEq,bU,Nat.one_mul,Nat.mul_one,eS,eK,xg,eSc,oG,oh,ou,oM];exact rfl):p:=e.mpr k
end akk
open akk in
theorem alk (a b:Rat) (s:Bool) (h:rl a+rl b<=549755813888):av Tryz.prog 180 [ae a,ae b,bL s] (ae (a+uo s b)):=by
 have a1:=kY a
 have a2:=mE a
 have a3:=lK a
 have c1:=kY b
 have c2:=mE b
 have c3:=lK b
 have a0:=a.den_pos
 have c0:=b.den_pos
 have m1:=dW a1 c2
 have m2:=dW c1 a2
 have m3:=dW a2 c2
 have m4:=dW a1 c1
 have m5:=dW a2 c1
 have m6:=dW c2 a2
 have mm:=ajr (k:=rl a+rl b) m1 J
 refine aN Tryz.func180 ?_
 have eS:True:=trivial
 have eK:True:=trivial
 have xg:True:=trivial
 have eSc:True:=trivial
 have oG:True:=trivial
 have oh:True:=trivial
 have ou:True:=trivial
 have oM:True:=trivial
 refine bo ?_
 refine cp aK (x6 _) ?_
 refine dj ?_
 refine fZ (fun L=>∃  (L1:St),(True)/\L=(((((St.mk L1.slot (hp [(3,⟨3,[ae a],true⟩),(4,⟨3,[ae b],true⟩),(6,⟨3,[.agg [.v (.bool false),.list 1 [],.list 1 []]],true⟩)])).put (some 2) (bL s)).put (some 3) (.aA 3 3 0 0)).put (some 4) (.aA 4 3 0 0)).put (some 6) (.aA 6 3 0 0))) ?_ ?_
 ·refine aC rfl ?_ ?_<;>intro uJ ow
  ·obtain⟨oG,oh,k3,k4⟩:=yp uJ
   refine aJ ?_
   refine cp aK (x6 _) ?_
   refine dj ?_
   refine aC rfl ?_ ?_<;>intro xf vR
   ·obtain⟨ou,oM,k7,k8⟩:=yp xf
    have n1:=sb k3 k8
    have n2:=sb k7 k4
    have n3:=sb k4 k8
    have np:=Nat.mul_pos a0 c0
    refine ax ?_
    refine ak rfl abp ?_
    refine aL ?_
    refine ak rfl abp ?_
    refine aZ ?_
    have eS:(((a.num.natAbs*b.den:Nat):Int)+((b.num.natAbs*a.den:Nat):Int)+0) % 18446744073709551616=(((a.num.natAbs*b.den+b.num.natAbs*a.den) % 18446744073709551616:Nat):Int):=by omega
    have eK:(((a.num.natAbs*b.den:Nat):Int)+((b.num.natAbs*a.den:Nat):Int)+0)/18446744073709551616=(((a.num.natAbs*b.den+b.num.natAbs*a.den)/18446744073709551616:Nat):Int):=by omega
    refine aJ ?_
    refine ak rfl (.yg Tryz.func247 rfl rfl rfl rfl (vs:=[.int .u64 ((a.num.natAbs*b.den:Nat):Int),.int .u64 ((b.num.natAbs*a.den:Nat):Int),.int .u64 0]) rfl (fun w=>run_add64 _ _ _ J J J J w) rfl rfl) ?_
    refine gy ?_
    refine dy 53 rfl ?_ ?_<;>intro qF h53
    ·refine az ?_
     refine aC rfl ?_ ?_<;>intro aB1 h48
     ·refine aR ?_
      refine cp fJ (abe s ((a.num.natAbs*b.den+b.num.natAbs*a.den) % 18446744073709551616) (a.den*b.den) J np J) ?_
      refine aR ?_
      have xS:a.num.natAbs*b.den+b.num.natAbs*a.den<18446744073709551616:=by omega
      rw [add_same (k:=1) (x:=a.num.natAbs*b.den) (y:=b.num.natAbs*a.den) (d:=a.den*b.den) J (Nat.mul_one _) (Nat.mul_one _) (Nat.mul_one _) (eq_of_beq qF),show qv s (a.num.natAbs*b.den+b.num.natAbs*a.den) (a.den*b.den)=qv s ((a.num.natAbs*b.den+b.num.natAbs*a.den) % 18446744073709551616) (a.den*b.den) by rw [Nat.mod_eq_of_lt xS]]
      exact fq
     ·refine aR ?_
      refine vA (a6 (v:=false) rfl rfl ((by rw [qF];rfl)) rfl) ?_
      refine vA (a6 (v:=false) rfl rfl ((by rw [qF];rfl)) rfl) ?_
      refine vA (a6 (v:=false) rfl rfl ((by rw [qF];rfl)) rfl) ?_
      refine ak rfl (.oO rfl ((by rw [qF];rfl))) ?_
      refine dp ?_
      refine eE (b:=_) rfl (by rw [qF];rfl) ?_
      refine aJ ?_
      exact acm
    ·refine dj ?_
     refine ak (a6 (v:=true) rfl rfl ((by rw [qF];rfl)) rfl) (.move _) ?_
     refine ak (a6 (v:=true) rfl rfl ((by rw [qF];rfl)) rfl) (.move _) ?_
     refine ak (a6 (v:=true) rfl rfl ((by rw [qF];rfl)) rfl) (.bin rfl rfl rfl) ?_
     refine ak rfl (.mM rfl ((by rw [qF];rfl))) ?_
     refine aJ ?_
     refine aC rfl ?_ ?_<;>intro aiU fw
     ·refine bB ?_
      refine cp fJ (abe _ _ _ xk (by first | exact np | (simp only [oG,oh,ou,oM];exact np)) xk) ?_
      refine aR ?_
      rw [aie (k:=1) (x:=a.num.natAbs*b.den) (y:=b.num.natAbs*a.den) (d:=a.den*b.den) J (Nat.mul_one _) (Nat.mul_one _) (Nat.mul_one _) (aaN qF) J]
      exact fq
     ·refine bq ?_
      refine bY (b:=_) rfl (by rw [qF];rfl) ?_
      refine bq ?_
      refine cp fJ (abe _ _ _ xk (by first | exact np | (simp only [oG,oh,ou,oM];exact np)) xk) ?_
      refine aR ?_
      rw [ajD (k:=1) (x:=a.num.natAbs*b.den) (y:=b.num.natAbs*a.den) (d:=a.den*b.den) J (Nat.mul_one _) (Nat.mul_one _) (Nat.mul_one _) (aaN qF) J]
      exact fq
   ·refine aL ?_
    exact acm
  ·refine aL ?_
   exact acm
 ·rintro _ ⟨avS,-,rfl⟩
  refine aL ?_
  refine aY 9 an ?_
  refine aZ ?_
  refine cp aK (uL _) ?_
  refine bu ?_
  refine cp aq (aeT _ _ J J) ?_
  refine aJ ?_
  refine fZ (fun L=>∃ (x:Nat) (y:Nat) (d:Nat) (L1:St),(∃ k,0<k/\x*k=a.num.natAbs*b.den/\y*k=b.num.natAbs*a.den/\d*k=a.den*b.den/\0<d/\(al x).length<=rl a+rl b/\(al y).length<=rl a+rl b/\(al d).length<=rl a+rl b)/\L=((((((((St.mk L1.slot (hp [(3,⟨3,[ae a],true⟩),(4,⟨3,[ae b],true⟩),(6,⟨3,[.agg [.v (.bool false),.list 1 [],.list 1 []]],true⟩)])).put (some 2) (bL s)).put (some 3) (.aA 3 3 0 0)).put (some 4) (.aA 4 3 0 0)).put (some 6) (.aA 6 3 0 0)).put (some 15) (ba x)).put (some 16) (ba y)).put (some 17) (ba d))) ?_ ?_
  ·refine aC rfl ?_ ?_<;>intro aEf azN
   ·refine aY 15 an ?_
    refine aL ?_
    refine cp aK (uL _) ?_
    refine cp aq (vM _ _ (cE _) (cE _) J J) ?_
    refine aL ?_
    refine cp aK (uL _) ?_
    refine cp aq (vM _ _ (cE _) (cE _) J J) ?_
    refine aL ?_
    refine cp aK (uL _) ?_
    refine cp aq (vM _ _ (cE _) (cE _) J J) ?_
    refine aZ ?_
    exact⟨a.num.natAbs*b.den,b.num.natAbs*a.den,a.den*b.den,_,⟨1,J,Nat.mul_one _,Nat.mul_one _,Nat.mul_one _,Nat.mul_pos a0 c0,m1,J,m3⟩,((aj (aj (aj (aj (aj (aj (aj (bC cl) cl) cl) cl) cl) cl) cl) cl)).symm⟩
   ·have hde:=ag4 azN
    refine aL ?_
    exact⟨a.num.natAbs,b.num.natAbs,a.den,_,⟨a.den,a0,by rw [hde],rfl,by rw [hde],a0,J,J,J⟩,((aj (aj (aj (aj (aj (aj (aj (bC cl) cl) cl) cl) cl) cl) cl) cl)).symm⟩
  ·rintro _ ⟨x,y,d,aDL,⟨k,hk,hx,hy,hd,jw,lx,ly,ld⟩,rfl⟩
   have lxy:=ajr lx ly
   have lxs:(al (x-y)).length<=rl a+rl b:=Nat.le_trans (mO (Nat.sub_le _ _)) lx
   have lys:(al (y-x)).length<=rl a+rl b:=Nat.le_trans (mO (Nat.sub_le _ _)) ly
   refine bB ?_
   refine aC rfl ?_ ?_<;>intro aja aDS
   ·refine aZ ?_
    refine cp aq (ahC _ _ (cE _) (cE _) J J) ?_
    refine ar ?_
    refine cp fJ (aaa _ _ _ (cE _) (cE _) vn vn) ?_
    refine aZ ?_
    rw [add_same hk hx hy hd (eq_of_beq aja)]
    exact fq
   ·refine aR ?_
    refine cp aq (amq _ _ J J) ?_
    refine dp ?_
    refine aC rfl ?_ ?_<;>intro aij ah9
    ·have hle:=ajT.1 (show zU x y=0 by omega)
     have xg:=ab1 hle
     refine az ?_
     refine cp fJ (aaa _ _ _ (by rw [xg];exact cE _) (cE _) (by rw [xg];omega) J) ?_
     refine aZ ?_
     rw [aie hk hx hy hd (aaN aja) hle]
     exact fq
    ·have hle:x<=y:=by
      rcases Nat.le_total x y with h | h
      ·exact h
      ·have:=ajT.2 h;omega
     have eSc:=ab1 hle
     refine az ?_
     refine cp aq (amq _ _ J J) ?_
     refine bu ?_
     refine cp fJ (aaa _ _ _ (cE _) (cE _) J J) ?_
     refine ax ?_
     rw [ajD hk hx hy hd (aaN aja) hle]
     exact fq
theorem ac2 {a b:Rat}:fi b a<0↔b<a:=by unfold fi;split<;>(try split)<;>grind
theorem ry {a b:Rat}:fi b a > 0↔a<b:=by unfold fi;split<;>(try split)<;>grind
open H0 in
theorem iw (a b:Rat) (h:rl a+rl b<=549755813888):av Tryz.prog 95 [ae a,ae b] (ae (a+b)):=by
 refine aN Tryz.func95 ?_
 refine dp ?_
 refine cp fJ (alk _ _ _ J) ?_
 refine ax ?_
 exact fW [] rfl rfl rfl (ao.au _) (nK _) cJ (by rw [ae9];exact .pure (ao.pure _))
open H0 in
theorem p6 (a b:Rat) (h:rl a+rl b<=549755813888):av Tryz.prog 170 [ae a,ae b] (ae (a-b)):=by
 refine aN Tryz.func170 ?_
 refine dj ?_
 refine cp fJ (alk _ _ _ J) ?_
 refine ax ?_
 rw [Rat.sub_eq_add_neg]
 exact fW [] rfl rfl rfl (ao.au _) (nK _) cJ (by rw [ayz];exact .pure (ao.pure _))
open H0 in
theorem afn (a b:Rat) (h:rl a+rl b<=549755813888):av Tryz.prog 167 [ae a,ae b] (ae (if b<a then b else a)):=by
 refine aN Tryz.func167 ?_
 refine bu ?_
 refine cp aq (lL _ _ J) ?_
 refine aJ ?_
 refine fZ (fun L=>∃ (q:Rat) (L1:St),(q=(if b<a then b else a)/\rl q<=549755813888)/\L=(((St.mk L1.slot (hp [(2,⟨3,[ae q],true⟩),(3,⟨3,[ae b],true⟩),(4,⟨3,[.agg [.v (.bool false),.list 1 [],.list 1 []]],true⟩)])).put (some 2) (.aA 2 3 0 0)).put (some 4) (.aA 4 3 0 0))) ?_ ?_
 ·refine aC rfl ?_ ?_<;>intro mX h8
  ·refine aZ ?_
   exact⟨b,_,⟨by rw [if_pos (ac2.1 h8)],J⟩,((aj (aj (bC cl) cl) cl)).symm⟩
  ·refine aL ?_
   exact⟨a,_,⟨by rw [if_neg (fun h=>h8 (ac2.2 h))],J⟩,((aj (aj (bC cl) cl) cl)).symm⟩
 ·rintro _ ⟨q,LC8,⟨hq,iH⟩,rfl⟩
  refine ax ?_
  refine cp aK (ahu _ J) ?_
  refine ax ?_
  rw [<-hq]
  exact fq
open H0 in
theorem aeJ (a b:Rat) (h:rl a+rl b<=549755813888):av Tryz.prog 168 [ae a,ae b] (ae (if a<b then b else a)):=by
 refine aN Tryz.func168 ?_
 refine bu ?_
 refine cp aq (lL _ _ J) ?_
 refine aJ ?_
 refine fZ (fun L=>∃ (q:Rat) (L1:St),(q=(if a<b then b else a)/\rl q<=549755813888)/\L=(((St.mk L1.slot (hp [(2,⟨3,[ae q],true⟩),(3,⟨3,[ae b],true⟩),(4,⟨3,[.agg [.v (.bool false),.list 1 [],.list 1 []]],true⟩)])).put (some 2) (.aA 2 3 0 0)).put (some 4) (.aA 4 3 0 0))) ?_ ?_
 ·refine aC rfl ?_ ?_<;>intro mX h8
  ·refine aZ ?_
   exact⟨b,_,⟨by rw [if_pos (ry.1 h8)],J⟩,((aj (aj (bC cl) cl) cl)).symm⟩
  ·refine aL ?_
   exact⟨a,_,⟨by rw [if_neg (fun h=>h8 (ry.2 h))],J⟩,((aj (aj (bC cl) cl) cl)).symm⟩
 ·rintro _ ⟨q,LC8,⟨hq,iH⟩,rfl⟩
  refine ax ?_
  refine cp aK (ahu _ J) ?_
  refine ax ?_
  rw [<-hq]
  exact fq
theorem ala {o:List Nat} {N:Nat} (hL:bM o) (hv:val o=N) (h:o.length=0\/4294967296 ^ (o.length-1)<=N):o=al N:=by
 have h1:(al N).length<=o.length:=by rw [<-hv];exact aq8 hL
 have h2:o.length<=(al N).length:=by
  rcases h with h | h
  ·omega
  ·rcases Nat.lt_or_ge (al N).length o.length with bE | jd
   ·have:=rj (n:=N) (k:=o.length-1) J
    omega
   ·exact jd
 have e1:=aeK hL rfl
 have e2:=aeK (cE N) rfl
 rw [e1,e2,bU,hv]
 congr 1;omega
theorem avh {m:Nat} (h:(al m).length=2):m=(al m).getD 1 0*4294967296+(al m).getD 0 0:=by
 have e:=bU m
 generalize al m=l at h e
 match l,h with
 | [x,y],_=>rw [val_two] at e;simp;omega
theorem orC {a b:Nat} (hb:b<4294967296) (hx:a<4294967296):dk .or .u64 (b:Nat) ((a*4294967296:Nat):Int)=some (.int .u64 ((a*4294967296+b:Nat):Int)):=orV (s:=32) hb J
theorem wP:(0:Int).toNat=0:=rfl
theorem tz1:(1:Int).toNat=1:=rfl
theorem kW {α β:Type} (f:α->β) (o:List α):(o.map f).take o.length=o.map f:=by rw [List.take_of_length_le aO]
theorem kJ {α β:Type} (f:α->β) (o:List α) (x:α):o.map f++[f x]=(o++[x]).map f:=by simp
theorem iA {α:Type} (o:List α) (x:α):(o++[x]).length=o.length+1:=by simp
theorem ai7 (o:List Nat) (x:Nat):val (o++[x])=val o+4294967296 ^ o.length*x:=by rw [adF];simp [val]
theorem ag0 {o:List Nat} (h:bM o) {x:Nat} (hx:x<4294967296):bM (o++[x]):=apB h (fun y hy=>by simp at hy;omega)
section
variable {m n c s:Nat} {o:List Nat}
theorem az7 (hv:val o+4294967296 ^ o.length*c=val ((al m).take o.length)+val ((al n).take o.length)) (hs:s=c+(al m).getD o.length 0+(al n).getD o.length 0) :
  val (o++[s % 4294967296])+4294967296 ^ (o.length+1)*(s/4294967296)=val ((al m).take (o.length+1))+val ((al n).take (o.length+1)):=by
 rw [ai7,nB,nB,Nat.pow_succ]
 have h1:=zj (4294967296 ^ o.length) s
 have h2:4294967296 ^ o.length*s=4294967296 ^ o.length*c+4294967296 ^ o.length*(al m).getD o.length 0+4294967296 ^ o.length*(al n).getD o.length 0:=by rw [hs,Nat.mul_add,Nat.mul_add]
 omega
theorem acM {m k:Nat} (h:(al m).length<=k):val ((al m).take k)=m:=by rw [List.take_of_length_le h,bU]
theorem axA (hv:val o+4294967296 ^ o.length*c=val ((al m).take o.length)+val ((al n).take o.length)) (cN:o.length<=max (al m).length (al n).length\/(o.length=max (al m).length (al n).length+1/\c=0))
  (hg:o.length<max (al m).length (al n).length\/c≠0):o.length+1=max (al m).length (al n).length+1->4294967296 ^ (o.length+1-1)<=m+n:=by
 intro h
 rw [acM J,acM J] at hv
 have:4294967296 ^ o.length*1<=4294967296 ^ o.length*c:=Nat.mul_le_mul_left _ J
 rw [Nat.add_sub_cancel];omega
theorem afh {m:Nat} (h:0<(al m).length):4294967296 ^ ((al m).length-1)<=m:=by
 rcases Nat.lt_or_ge m (4294967296 ^ ((al m).length-1)) with h1 | h1
 ·have:=u6 h1;omega
 ·exact h1
theorem azk (hc:c<=1) (cN:o.length<=max (al m).length (al n).length\/(o.length=max (al m).length (al n).length+1/\c=0)) (hg:o.length<max (al m).length (al n).length\/c≠0)
  (hs:s=c+(al m).getD o.length 0+(al n).getD o.length 0):o.length+1<=max (al m).length (al n).length\/(o.length+1=max (al m).length (al n).length+1/\s/4294967296=0):=by
 by_cases h:o.length<max (al m).length (al n).length
 ·exact oe
 ·rw [re (al m) _ J,re (al n) _ J] at hs
  exact .inr ⟨J,J⟩
theorem aCh (hc:c<=1) (bX:bM o) (cN:o.length<=max (al m).length (al n).length\/(o.length=max (al m).length (al n).length+1/\c=0)) (hv:val o+4294967296 ^ o.length*c=val ((al m).take o.length)+val ((al n).take o.length))
  (jd:o.length=max (al m).length (al n).length+1->4294967296 ^ (o.length-1)<=m+n) (hg:¬ (o.length<max (al m).length (al n).length\/c≠0)):al (m+n)=o:=by
 rw [acM J,acM J,show c=0 by omega] at hv
 refine(ala bX J ?_).symm
 by_cases h0:o.length=0
 ·exact .inl h0
 refine .inr ?_
 rcases cN with h | h
 ·rcases Nat.le_total (al m).length (al n).length with hh | hh
  ·have:=afh (m:=n) J
   rw [show o.length=(al n).length by omega];omega
  ·have:=afh (m:=m) J
   rw [show o.length=(al m).length by omega];omega
 ·exact jd h.1
end
theorem auo {k br y2 vC x:Nat} {a b o:List Nat} (cN:k<o.length) (bX:bM o) (mJ:br<=1) (wc:a.getD k 0<4294967296) (w9:b.getD k 0<4294967296) (hv:val (o.take k)+val (b.take k)=val (a.take k)+4294967296 ^ k*br) (hx:x=br+b.getD k 0)
  (h:(a.getD k 0<x/\y2=a.getD k 0+4294967296/\vC=1)\/(x<=a.getD k 0/\y2=a.getD k 0/\vC=0)) :
  x<=y2/\vC<=1/\bM (o.set k ((y2-x) % 4294967296))/\val ((o.set k ((y2-x) % 4294967296)).take (k+1))+val (b.take (k+1))=val (a.take (k+1))+4294967296 ^ (k+1)*vC:=by
 rcases h with⟨h1,rfl,rfl⟩ | ⟨h1,rfl,rfl⟩
 ·refine⟨J,J,kQ bX _ _ J,?_⟩
  rw [show (a.getD k 0+4294967296-x) % 4294967296=4294967296+a.getD k 0-x by omega]
  exact anm cN hv hx h1 J
 ·refine⟨J,J,kQ bX _ _ J,?_⟩
  rw [Nat.mod_eq_of_lt (by omega:a.getD k 0-x<4294967296)]
  exact ako cN hv hx h1
namespace arS
theorem aH {p q:Prop} (k:q) (e:p=q:=by simp only [e1,e2,e3,e4,p1,p2,p3,q1,q2,q3,l1,t0,t1,r1,r2,r3,r4,Nat.zero_add,Nat.reduceMul,Nat.reduceAdd,b1,b2,b3,b4,b5,b6,i1,i2,i3,i4,i5,i6,Nat.reduceBEq,ej,ek,fc,List.take_zero,List.take_nil,List.nil_append,aP eZ,LV.kill];exact rfl):p:=e.mpr k
end arS
open arS in
theorem s7 (l:List Nat) (h:bM l) (hl:l.length<=4398046511104):av Tryz.prog 146 [ee l] (ba (val l)):=by
 unfold ee ba
 rw [<-sZ h]
 unfold vr
 refine aN Tryz.func146 ?_
 have ej:True:=trivial
 have ek:True:=trivial
 refine dj ?_
 refine dG (fun(k:Nat) L=>(((St.mk L.slot (hp [])).put (some 0) (.list 1 (l.map bh))).put (some 3) (ah k))) (fun k=>k<=l.length/\ig l.length l=ig k l) (fun k=>k) l.length ⟨Nat.le_refl _,rfl⟩ ?_
 rintro k L1 ⟨hk,tX⟩
 refine az ?_
 refine dy 8 rfl ?_ ?_<;>intro mX h8
 ·obtain⟨j,rfl⟩:∃ j,k=j+1:=⟨k-1,J⟩
  have ej:(((j+1:Nat):Int)-1).toNat=j:=by omega
  have ek:(((j+1:Nat):Int)-1)=j:=by omega
  refine bq ?_
  refine aC rfl ?_ ?_<;>intro nH lJ
  ·refine bB ?_
   exact iJ j ⟨J,tX.trans (by simp only [ig];rw [if_pos (by simpa using lJ)])⟩
  ·refine bB ?_
   refine ak rfl aaO ?_
   refine bI rfl aqt ?_
   refine ax ?_
   rw [tX,ig,if_neg (show ¬ l.getD j 0=0 by omega)]
   exact mL [22] rfl rfl (eM eZ rfl rfl rfl)
 ·have ku:k=0:=by omega
  subst ku
  refine nj ?_
  refine ak rfl aaO ?_
  refine bI rfl aqt ?_
  refine ax ?_
  rw [tX,show ig 0 l=0 from rfl]
  exact mL [22] rfl rfl (eM eZ rfl rfl rfl)
open H0 in
theorem aab (n:Nat) (hn:n<18446744073709551616):av Tryz.prog 79 [cC n] (ba n):=by
 have hL:bM [n % 4294967296,n/4294967296 % 4294967296]:=by
  intro x hx;simp at hx;omega
 have hV:val [n % 4294967296,n/4294967296 % 4294967296]=n:=by rw [val_two];omega
 refine aN Tryz.func79 ?_
 refine dp ?_
 refine pO [8] pB (s7 _ gV qO) ?_
 refine ax ?_
 exact dB rfl (by rw [hV];exact .pure (iN _))
namespace ao0
theorem aH {p q:Prop} (k:q) (e:p=q:=by simp only [e1,e2,e3,e4,p1,p2,p3,q1,q2,q3,l1,t0,t1,r1,r2,r3,r4,Nat.zero_add,Nat.reduceMul,Nat.reduceAdd,b1,b2,b3,b4,b5,b6,i1,i2,i3,i4,i5,i6,Nat.reduceBEq,fc,wP,tz1];exact rfl):p:=e.mpr k
end ao0
open ao0 in
theorem adX (m:Nat) (hl:(al m).length<=1099511627776):av Tryz.prog 258 [ba m] (.a7 [cC (if m<18446744073709551616 then m else 0),bL (decide (m<18446744073709551616))]):=by
 have jw:=gG m 0
 have ks:=gG m 1
 refine aN Tryz.func258 ?_
 refine nj ?_
 refine aC rfl ?_ ?_<;>intro tE h6
 ·have hm:m=0:=pw.1 (List.eq_nil_of_length_eq_zero J)
  refine bq ?_
  subst hm
  exact uy
 ·refine az ?_
  refine aC rfl ?_ ?_<;>intro mX h8
  ·have hm:=xj (n:=m) J
   have dY:=rL.1 (show (al m).length<=1 by omega)
   refine dp ?_
   rw [if_pos J,decide_eq_true J]
   refine tU (x:=cC ((al m).getD 0 0)) rfl ?_ rfl (.pure rfl)
   rw [hm.1]
   exact .pure rfl
  ·refine az ?_
   refine aC rfl ?_ ?_<;>intro oI kg
   ·have h2v:m=(al m).getD 1 0*4294967296+(al m).getD 0 0:=avh J
    have dY:=xe.1 (show (al m).length<=2 by omega)
    refine ar ?_
    refine aY 12 an ?_
    refine bf ?_
    refine ak rfl (.sh rfl rfl (abQ (by simp only [fc,wP,tz1];omega))) ?_
    refine ak rfl (.bin rfl rfl (orC (by simp only [fc,wP,tz1];omega) (by simp only [fc,wP,tz1];omega))) ?_
    refine aR ?_
    rw [if_pos dY,decide_eq_true dY]
    refine tU (x:=cC ((al m).getD 1 0*4294967296+(al m).getD 0 0)) rfl ?_ rfl (.pure rfl)
    rw [<-h2v]
    exact .pure rfl
   ·have dY:¬ m<18446744073709551616:=fun h=>by have:=xe.2 h;omega
    refine bB ?_
    rw [if_neg dY,decide_eq_false dY]
    exact uy
open aa6 in
theorem zy (m n:Nat) (fb:(al m).length<=1099511627776) (lg:(al n).length<=1099511627776):av Tryz.prog 66 [ba m,ba n] (iL (iT m n)):=by
 refine aN Tryz.func66 ?_
 have ej:True:=trivial
 have ek:True:=trivial
 refine gy ?_
 refine aC rfl ?_ ?_<;>intro l8 rC
 ·refine bB ?_
  refine aC rfl ?_ ?_<;>intro nH lJ
  ·have hE:=ad4 (m:=m) (n:=n) J
   refine bf ?_
   first | (rw [ot hE];exact dB rfl (.pure rfl)) | (rw [qi hE];exact dB rfl (.pure rfl)) | (rw [rq hE];exact dB rfl (.pure rfl))
  ·have hE:=ad4 (m:=n) (n:=m) J
   refine bq ?_
   first | (rw [ot hE];exact dB rfl (.pure rfl)) | (rw [qi hE];exact dB rfl (.pure rfl)) | (rw [rq hE];exact dB rfl (.pure rfl))
 ·have hlen:(al m).length=(al n).length:=by omega
  clear rC l8
  refine bu ?_
  refine dG (fun(k:Nat) L=>((((St.mk L.slot (hp [])).put (some 0) (ba m)).put (some 1) (ba n)).put (some 5) (iL ((k:Int)-1)))) (fun k=>k<=(al m).length/\(al m).drop k=(al n).drop k) (fun k=>k) ((al m).length) ⟨Nat.le_refl _,by rw [List.drop_length,List.drop_of_length_le J]⟩ ?_
  rintro k L1 ⟨hk,hd⟩
  refine aR ?_
  refine aC rfl ?_ ?_<;>intro yZ y8
  ·obtain⟨j,rfl⟩:∃ j,k=j+1:=⟨k-1,J⟩
   have ej:(((j+1:Nat):Int)-1).toNat=j:=by omega
   have ek:(((j+1:Nat):Int)-1)=j:=by omega
   refine az ?_
   refine aY 9 an ?_
   refine bo ?_
   refine aC rfl ?_ ?_<;>intro ahx h31
   ·have hE:=af8 (cE m) (k:=j) J J hd J
    rw [bU,bU] at hE
    refine bu ?_
    first | (rw [ot hE];exact dB rfl (.pure rfl)) | (rw [qi hE];exact dB rfl (.pure rfl)) | (rw [rq hE];exact dB rfl (.pure rfl))
   ·refine aJ ?_
    refine aY 9 an ?_
    refine bo ?_
    refine aC rfl ?_ ?_<;>intro ahy um
    ·have hE:=af8 (cE n) (k:=j) J J hd.symm J
     rw [bU,bU] at hE
     refine bo ?_
     first | (rw [ot hE];exact dB rfl (.pure rfl)) | (rw [qi hE];exact dB rfl (.pure rfl)) | (rw [rq hE];exact dB rfl (.pure rfl))
    ·refine bq ?_
     exact iJ j ⟨J,apP J J hd J⟩
  ·obtain rfl:k=0:=by omega
   rw [List.drop_zero,List.drop_zero] at hd
   have hE:m=n:=by have:=congrArg val hd;rwa [bU,bU] at this
   refine bo ?_
   first | (rw [ot hE];exact dB rfl (.pure rfl)) | (rw [qi hE];exact dB rfl (.pure rfl)) | (rw [rq hE];exact dB rfl (.pure rfl))
namespace agw
theorem aH {p q:Prop} (k:q) (e:p=q:=by simp only [e1,e2,e3,e4,p1,p2,p3,q1,q2,q3,l1,t0,t1,r1,r2,r3,r4,Nat.zero_add,Nat.reduceMul,Nat.reduceAdd,b1,b2,b3,b4,b5,b6,i1,i2,i3,i4,i5,i6,Nat.reduceBEq,fc,List.take_zero,List.take_nil,List.nil_append,aP eZ,LV.kill,kW,kJ,iA,List.length_cons,List.length_nil];exact rfl):p:=e.mpr k
end agw
open agw in
theorem auP (m n:Nat) (fb:(al m).length<=1099511627776) (lg:(al n).length<=1099511627776):av Tryz.prog 139 [ba m,ba n] (ba (m+n)):=by
 refine aN Tryz.func139 ?_
 refine agJ ?_
 refine ju (aw.own (t:=5) 50 1 rfl rfl) ?_
 refine jL (fun(o:List Nat) (c:Nat) L=>((((((St.mk L.slot (hp [(50,⟨1,o.map bh,true⟩)])).put (some 0) (ba m)).put (some 1) (ba n)).put (some 5) (.ref 50 1 0 o.length)).put (some 6) (cC c)).put (some 7) (ah o.length))) (fun o c=>c<=1/\bM o/\(o.length<=max (al m).length (al n).length\/(o.length=max (al m).length (al n).length+1/\c=0))/\val o+4294967296 ^ o.length*c=val ((al m).take o.length)+val ((al n).take o.length)/\(o.length=max (al m).length (al n).length+1->4294967296 ^ (o.length-1)<=m+n)) (fun o c=>max (al m).length (al n).length+2-o.length) ([]) 0 ⟨J,(by intro x hx;cases hx),.inl (Nat.zero_le _),by simp [val],by simp⟩ ?_
 rintro o c L1 ⟨hc,bX,cN,hv,jd⟩
 have r9:=gG m o.length
 have hyk:=gG n o.length
 refine aL ?_
 refine fZ (fun L=>∃ (t:Bool) (L1:St),(t=decide (o.length<max (al m).length (al n).length\/c≠0))/\L=(((((((St.mk L1.slot (hp [(50,⟨1,o.map bh,true⟩)])).put (some 0) (ba m)).put (some 1) (ba n)).put (some 5) (.ref 50 1 0 o.length)).put (some 6) (cC c)).put (some 7) (ah o.length)).put (some 21) (bL t))) ?_ ?_
 ·refine az ?_
  refine dy 12 rfl ?_ ?_<;>intro aaL h12
  ·refine bo ?_
   exact⟨true,_,by symm;rw [decide_eq_true_iff];omega,((aj (aj (aj (aj (aj (aj (bC cl) cl) cl) cl) cl) cl) cl)).symm⟩
  ·refine az ?_
   refine dy 18 rfl ?_ ?_<;>intro rz rp
   ·refine aZ ?_
    exact⟨true,_,by symm;rw [decide_eq_true_iff];omega,((aj (aj (aj (aj (aj (aj (bC cl) cl) cl) cl) cl) cl) cl)).symm⟩
   ·refine aZ ?_
    exact⟨((c:Int) != 0),_,by rw [Bool.eq_iff_iff,bne_iff_ne,decide_eq_true_iff];omega,((aj (aj (aj (aj (aj (aj (bC cl) cl) cl) cl) cl) cl) cl)).symm⟩
 ·rintro _ ⟨t,LR4,ht,rfl⟩
  refine ar ?_
  refine aC rfl ?_ ?_<;>intro yc h21
  ·rw [ht,decide_eq_true_iff] at yc
   have hg:=yc
   refine dp ?_
   refine fZ (fun L=>∃ (s1:Nat) (L1:St),(s1=c+(al m).getD o.length 0)/\L=((((((St.mk L1.slot (hp [(50,⟨1,o.map bh,true⟩)])).put (some 0) (ba m)).put (some 1) (ba n)).put (some 5) (.ref 50 1 0 o.length)).put (some 6) (cC s1)).put (some 7) (ah o.length))) ?_ ?_
   ·refine aC rfl ?_ ?_<;>intro u4 h27
    ·refine bo ?_
     exact⟨c+(al m).getD o.length 0,_,rfl,((aj (aj (aj (aj (aj (bC cl) cl) cl) cl) cl) cl)).symm⟩
    ·refine aL ?_
     exact⟨c,_,by rw [re (al m) o.length J];rfl,((aj (aj (aj (aj (aj (bC cl) cl) cl) cl) cl) cl)).symm⟩
   ·rintro _ ⟨s1,aAs,jm,rfl⟩
    refine bB ?_
    refine fZ (fun L=>∃ (s:Nat) (L1:St),(s=c+(al m).getD o.length 0+(al n).getD o.length 0)/\L=((((((St.mk L1.slot (hp [(50,⟨1,o.map bh,true⟩)])).put (some 0) (ba m)).put (some 1) (ba n)).put (some 5) (.ref 50 1 0 o.length)).put (some 6) (cC s)).put (some 7) (ah o.length))) ?_ ?_
    ·refine aC rfl ?_ ?_<;>intro agd h38
     ·refine bo ?_
      exact⟨s1+(al n).getD o.length 0,_,by rw [jm],((aj (aj (aj (aj (aj (bC cl) cl) cl) cl) cl) cl)).symm⟩
     ·refine aL ?_
      exact⟨s1,_,by rw [jm,re (al n) o.length J];rfl,((aj (aj (aj (aj (aj (bC cl) cl) cl) cl) cl) cl)).symm⟩
    ·rintro _ ⟨s,at4,hs,rfl⟩
     refine aR ?_
     refine bI rfl (.app (news:=[bh (s % 4294967296)]) rfl rfl rfl rfl rfl aO (.inl rfl) ai Tryz.underlying29 Tryz.underlying29 aac ph rfl aah (.inl ⟨49,0,_,rfl,by decide,rfl,rfl,by simp,rfl,rfl⟩) bm bm ai) ?_
     refine aJ ?_
     refine cq (aw.kill _ 49) ?_
     refine bu ?_
     exact fU (o++[s % 4294967296]) (s/4294967296) ⟨J,ag0 bX J,by rw [iA];exact azk hc cN hg hs,by rw [iA];exact az7 hv hs,by rw [iA];exact axA hv cN hg⟩ (hm:=by rw [iA];omega)
  ·rw [ht,decide_eq_false_iff_not] at yc
   have hN:=aCh hc bX cN hv jd yc
   refine bu ?_
   skip
   exact mL [50] rfl rfl (by rw [show ba (m+n)=.list 1 (o.map bh) by rw [<-hN];rfl];exact eM eZ rfl rfl rfl)
open aa2 in
theorem ajB (m n:Nat) (fb:(al m).length<=1099511627776) (lg:(al n).length<=1099511627776) (hle:n<=m):av Tryz.prog 231 [ba m,ba n] (ba (m-n)):=by
 have pU:=mO hle
 refine aN Tryz.func231 ?_
 refine bq ?_
 refine eI rfl rfl (.kK (n:=(al m).length) (m:=(al m).length) ml ml om om om) ?_
 refine gy ?_
 refine rf (fun(k:Nat) (o:List Nat) (br:Nat) L=>((((((St.mk L.slot (hp [(12,⟨1,o.map bh,true⟩)])).put (some 0) (ba m)).put (some 1) (ba n)).put (some 5) (.ref 12 1 0 (al m).length)).put (some 6) (cC br)).put (some 7) (ah k))) (fun k o br=>k<=(al m).length/\o.length=(al m).length/\br<=1/\bM o/\val (o.take k)+val ((al n).take k)=val ((al m).take k)+4294967296 ^ k*br) (fun k o br=>(al m).length-k) 0 (List.replicate (al m).length 0) 0 ⟨Nat.zero_le _,by simp,J,sv _,by simp [val]⟩ ?_
 rintro k o br L1 ⟨hk,cN,mJ,bX,hv⟩
 have r9:=gG m k
 have hyk:=gG n k
 refine bq ?_
 refine aC rfl ?_ ?_<;>intro yH uA
 ·refine nh ?_
  refine fZ (fun L=>∃ (x:Nat) (L1:St),(x=br+(al n).getD k 0)/\L=(((((((St.mk L1.slot (hp [(12,⟨1,o.map bh,true⟩)])).put (some 0) (ba m)).put (some 1) (ba n)).put (some 5) (.ref 12 1 0 (al m).length)).put (some 6) (cC br)).put (some 7) (ah k)).put (some 8) (cC x))) ?_ ?_
  ·refine aC rfl ?_ ?_<;>intro p7 oS
   ·refine bo ?_
    exact⟨br+(al n).getD k 0,_,rfl,((aj (aj (aj (aj (aj (aj (bC cl) cl) cl) cl) cl) cl) cl)).symm⟩
   ·refine aL ?_
    exact⟨br,_,by rw [re _ k J];rfl,((aj (aj (aj (aj (aj (aj (bC cl) cl) cl) cl) cl) cl) cl)).symm⟩
  ·rintro _ ⟨x,aDM,hx,rfl⟩
   refine yl ?_
   refine fZ (fun L=>∃ (y2:Nat) (vC:Nat) (L1:St),(((al m).getD k 0<x/\y2=(al m).getD k 0+4294967296/\vC=1)\/(x<=(al m).getD k 0/\y2=(al m).getD k 0/\vC=0))/\L=((((((((St.mk L1.slot (hp [(12,⟨1,o.map bh,true⟩)])).put (some 0) (ba m)).put (some 1) (ba n)).put (some 5) (.ref 12 1 0 (al m).length)).put (some 6) (cC vC)).put (some 7) (ah k)).put (some 8) (cC x)).put (some 9) (cC y2))) ?_ ?_
   ·refine aC rfl ?_ ?_<;>intro agd h38
    ·refine bo ?_
     exact⟨(al m).getD k 0+4294967296,1,_,.inl ⟨J,rfl,rfl⟩,((aj (aj (aj (aj (aj (aj (aj (bC cl) cl) cl) cl) cl) cl) cl) cl)).symm⟩
    ·refine aL ?_
     exact⟨(al m).getD k 0,0,_,.inr ⟨J,rfl,rfl⟩,((aj (aj (aj (aj (aj (aj (aj (bC cl) cl) cl) cl) cl) cl) cl) cl)).symm⟩
   ·rintro _ ⟨y2,vC,at4,hf,rfl⟩
    obtain⟨zh,oJ,rR,hf4⟩:=auo J bX mJ r9 hyk hv hx hf
    refine nh ?_
    exact qc (k+1) (o.set k ((y2-x) % 4294967296)) vC ⟨J,by simp [cN],oJ,rR,hf4⟩
 ·obtain rfl:k=(al m).length:=by omega
  refine bf ?_
  refine pO [12] pB (s7 _ gV qO) ?_
  refine ax ?_
  have e:=aoO (cE m) bX cN pU (by rw [bU,bU];exact hle) hv
  rw [sZ bX,bU,bU] at e
  have e2:=congrArg val e
  rw [bU,bU] at e2
  rw [<-e2]
  exact dC
open H0 in
theorem alf (m n:Nat) (fb:(al m).length<=1099511627776) (lg:(al n).length<=1099511627776):av Tryz.prog 140 [ba m,ba n] (.a7 [ee (aaZ m n),iL (zU m n)]):=by
 refine aN Tryz.func140 ?_
 refine bo ?_
 refine cp aq (zy _ _ J J) ?_
 refine aJ ?_
 refine aC rfl ?_ ?_<;>intro ta h9
 ·have bE:m<n:=by unfold iT at h9;split at h9;assumption;split at h9<;>omega
  refine bf ?_
  rw [aaZ,if_pos bE,zU,if_pos bE]
  exact tU rfl (.nil 1) rfl (.pure rfl)
 ·have hle:n<=m:=by
   rcases Nat.lt_or_ge m n with h | h
   ·rw [ot h] at h9;omega
   ·exact h
  refine az ?_
  refine cp aq (ajB _ _ J J J) ?_
  refine aZ ?_
  rw [ab1 hle,ajT.2 hle]
  exact tU rfl (.pure (iN _)) rfl (.pure rfl)
theorem avo {x:Nat} (h:0<x):di x=di (x/2 ^ 1)+1:=by
 have:=afk (n:=x) (k:=1)
 rcases Nat.lt_or_ge x 2 with h1 | h1
 ·obtain rfl:x=1:=by omega
  rfl
 ·rw [this J];omega
open agG in
theorem uD (m n:Nat) (fb:(al m).length<=1099511627776) (lg:(al n).length<=1099511627776):av Tryz.prog 136 [ba m,ba n] (ba (m*n)):=by
 refine aN Tryz.func136 ?_
 have ji:True:=trivial
 refine bu ?_
 refine eI rfl rfl (.kK (n:=(al m).length+(al n).length) (m:=(al m).length+(al n).length) ml ml om om om) ?_
 refine bB ?_
 refine jL (fun(i:Nat) (o:List Nat) L=>(((((St.mk L.slot (hp [(14,⟨1,o.map bh,true⟩)])).put (some 0) (ba m)).put (some 1) (ba n)).put (some 5) (.ref 14 1 0 ((al m).length+(al n).length))).put (some 6) (ah i))) (fun i o=>i<=(al m).length/\o.length=(al m).length+(al n).length/\bM o/\val o=val ((al m).take i)*val (al n)/\∀ p,i+(al n).length<=p->o.getD p 0=0) (fun i o=>(al m).length-i) 0 (List.replicate ((al m).length+(al n).length) 0) ⟨Nat.zero_le _,by simp,sv _,by simp [val,aeV],fun p _=>aqZ _ _⟩ ?_
 rintro i o L1 ⟨hi,cN,bX,hv,hz⟩
 have w8:=gG m i
 refine bq ?_
 refine aC rfl ?_ ?_<;>intro rz rp
 ·refine mH ?_
  refine rf (fun(j:Nat) (o:List Nat) (c:Nat) L=>(((((((St.mk L.slot (hp [(14,⟨1,o.map bh,true⟩)])).put (some 0) (ba m)).put (some 1) (ba n)).put (some 5) (.ref 14 1 0 ((al m).length+(al n).length))).put (some 6) (ah i)).put (some 7) (cC c)).put (some 8) (ah j))) (fun j o c=>j<=(al n).length/\o.length=(al m).length+(al n).length/\bM o/\c<4294967296/\val o+4294967296 ^ (i+j)*c=val ((al m).take i)*val (al n)+4294967296 ^ i*((al m).getD i 0*val ((al n).take j))/\∀ p,i+(al n).length<=p->o.getD p 0=0) (fun j o c=>(al n).length-j) 0 o 0 ⟨Nat.zero_le _,cN,bX,J,by rw [hv];simp [val],hz⟩ ?_
  rintro j o c L2 ⟨hj,cN,bX,hc,hv,hz⟩
  have hyj:=gG n j
  have hzj:=gZ bX (i+j)
  have hs:=an7 hc w8 hyj hzj
  have ji:((i:Int)+(j:Int)).toNat=i+j:=by omega
  refine bq ?_
  refine aC rfl ?_ ?_<;>intro o7 rv
  ·refine aZ ?_
   refine aY 22 an ?_
   refine at9 ?_
   exact qc (j+1) (o.set (i+j) ((c+((al m).getD i 0*(al n).getD j 0+o.getD (i+j) 0)) % 4294967296)) ((c+((al m).getD i 0*(al n).getD j 0+o.getD (i+j) 0))/4294967296) ⟨J,by simp [cN],kQ bX _ _ (Nat.mod_lt _ J),J,apo J hv rfl,arK J hz⟩
  ·obtain rfl:j=(al n).length:=by omega
   have aBA:((i:Int)+((al n).length:Int)).toNat=i+(al n).length:=by omega
   refine yl ?_
   exact fU (i+1) (o.set (i+(al n).length) (c % 4294967296)) ⟨J,by simp [cN],kQ bX _ _ (Nat.mod_lt _ J),by rw [Nat.mod_eq_of_lt hc];exact ak1 J J (hz _ (Nat.le_refl _)) rfl rfl hv,ama hz⟩
 ·obtain rfl:i=(al m).length:=by omega
  refine bf ?_
  refine pO [14] pB (s7 _ gV qO) ?_
  refine ax ?_
  rw [List.take_length,bU,bU] at hv
  rw [<-hv]
  exact dC
open H0 in
theorem as7 (m d:Nat) (fb:(al m).length<=549755813888) (hd:d<4294967296):av Tryz.prog 272 [ba m,nM d] (ba (m*d)):=by
 have hld:(al d).length<=1:=rL.2 hd
 refine aN Tryz.func272 ?_
 refine bB ?_
 refine cp aK (aab _ J) ?_
 refine cp aq (uD _ _ J J) ?_
 refine ax ?_
 exact dC
open aa6 in
theorem ax8 (m d:Nat) (fb:(al m).length<=1099511627776) (jw:0<d) (hd:d<4294967296):av Tryz.prog 268 [ba m,nM d] (.a7 [ba (m/d),nM (m % d)]):=by
 refine aN Tryz.func268 ?_
 have ej:True:=trivial
 have ek:True:=trivial
 refine bB ?_
 refine eI rfl rfl (.kK (n:=(al m).length) (m:=(al m).length) ml ml om om om) ?_
 refine mQ ?_
 refine rf (fun(k:Nat) (q:List Nat) (r:Nat) L=>((((((St.mk L.slot (hp [(11,⟨1,q.map bh,true⟩)])).put (some 0) (ba m)).put (some 1) (nM d)).put (some 6) (.ref 11 1 0 (al m).length)).put (some 7) (cC r)).put (some 8) (iL ((k:Int)-1)))) (fun k q r=>k<=(al m).length/\q.length=(al m).length/\bM q/\r<d/\val (q.drop k)*d+r=val ((al m).drop k)) (fun k q r=>k) ((al m).length) (List.replicate (al m).length 0) 0 ⟨Nat.le_refl _,by simp,sv _,jw,by simp [val]⟩ ?_
 rintro k q r L1 ⟨hk,iH,kF,hr,hv⟩
 refine aR ?_
 refine aC rfl ?_ ?_<;>intro yH uA
 ·obtain⟨j,rfl⟩:∃ j,k=j+1:=⟨k-1,J⟩
  have ej:(((j+1:Nat):Int)-1).toNat=j:=by omega
  have ek:(((j+1:Nat):Int)-1)=j:=by omega
  have hxj:=gG m j
  refine yl ?_
  refine ak rfl abP ?_
  refine nj ?_
  exact qc j (q.set j ((r*4294967296+(al m).getD j 0)/d % 4294967296)) ((r*4294967296+(al m).getD j 0) % d) ⟨J,by simp [iH],kQ kF _ _ (Nat.mod_lt _ J),Nat.mod_lt _ jw,by rw [Nat.mod_eq_of_lt (akY hr hxj)];exact ars J iH hv rfl⟩
 ·obtain rfl:k=0:=by omega
  refine bf ?_
  refine pO [11] pB (s7 _ gV qO) ?_
  refine aR ?_
  obtain⟨E1,E2⟩:=aoF jw hr kF hv
  rw [sZ kF] at E1
  have E3:=congrArg val E1
  rw [bU,bU,bU] at E3
  rw [bU] at E2
  rw [<-E3,<-E2]
  have E4:r % 4294967296=r:=Nat.mod_eq_of_lt J
  refine tU rfl (.pure (iN _)) rfl ?_
  show cG _ (nM (r % 4294967296)) (nM r)
  rw [E4]
  exact .pure rfl
open ada in
theorem aAd (m:Nat) (fb:(al m).length<=1099511627776):av Tryz.prog 269 [ba m] (iL (di m)):=by
 refine aN Tryz.func269 ?_
 have ej:True:=trivial
 refine dp ?_
 refine aC rfl ?_ ?_<;>intro h7r h7
 ·have hz:m=0:=pw.1 (List.eq_nil_of_length_eq_zero J)
  subst hz
  refine aR ?_
  exact dC
 ·have kI:0<(al m).length:=by omega
  have ej:(((al m).length:Int)-1).toNat=(al m).length-1:=by omega
  have hz:=ap3 kI
  have zu:=gG m ((al m).length-1)
  have aje:di ((al m).getD ((al m).length-1) 0)<=32:=sO.2 zu
  refine yl ?_
  refine jL (fun(x q:Nat) L=>(((St.mk L.slot (hp [])).put (some 3) (ah q)).put (some 4) (nM x))) (fun x q=>q+di x=di m/\x<4294967296/\di m<=35184372088832) (fun x q=>x) ((al m).getD ((al m).length-1) 0) (32*((al m).length-1)) ⟨hz,zu,J⟩ ?_
  rintro x q L1 ⟨hq,hx,hbm⟩
  refine aR ?_
  refine aC rfl ?_ ?_<;>intro ae8 h19
  ·have fx:0<x:=by omega
   refine dp ?_
   refine ak rfl (.sh rfl rfl (ade (m:=1) ai)) ?_
   refine aJ ?_
   exact fU (x/2 ^ 1) (q+1) ⟨by have:=avo fx;omega,J,hbm⟩
  ·obtain rfl:x=0:=by omega
   have fo:di 0=0:=rfl
   obtain rfl:q=di m:=by omega
   refine bu ?_
   exact dC
end Go.Proofs.YtckppbhafancnaaGreat
namespace Go.Lg
open Go.Proofs.YtckppbhafancnaaGreat in
theorem aw.mv {L:St} {t b sz off len:Nat} {blk:a8} (d:Nat) (fo:b≠0) (jw:d≠0) (fg:b≠d) (h:L.slot t=.ref b sz off len) (hb:L.heap b=some blk) (hd:L.heap d=none) :
  aw L (((L.kill b).bG d (some ⟨blk.sz,bN b blk.vals,blk.mt⟩)).put (some t) (.ref d sz off len)):=by
 rintro n W X Z0 a w ⟨dL,bD,μ,Z,hc,hr⟩
 have aax:=rP hc hd
 have hk:=hc.kill b fo
 have jb:=aci b hr
 let bc:Nat->Option Nat:=fun c=>if c=d then μ b else jf μ b c
 have hm:∀ c id,jf μ b c=some id->bc c=some id:=fun c id hh=>by
  have:c≠d:=by
   rintro rfl
   unfold jf at hh;split at hh
   ·cases hh
   ·rw [aax] at hh;cases hh
  simp only [bc,if_neg this];exact hh
 have hinv:∀ c id,bc c=some id->(c=d/\μ b=some id)\/(c≠d/\jf μ b c=some id):=fun c id hh=>by
  simp only [bc] at hh;split at hh
  ·rename_i e;exact .inl ⟨e,hh⟩
  ·rename_i e;exact .inr ⟨e,hh⟩
 have fH:∀ c id,jf μ b c=some id->c≠b/\μ c=some id:=fun c id h=>by
  unfold jf at h;split at h
  ·cases h
  ·exact⟨by assumption,h⟩
 have hbb:∀ id,jf μ b b=some id->False:=fun id hh=>(fH b id hh).1 rfl
 have aiJ:∀ {bk:a8} {id:Nat},rn Z (jf μ b) w bk id->rn Z bc w bk id:=fun hh=>rn.mono (fun _ h=>h) hm (Frame.refl _ _ _) rfl hh
 refine⟨dL,bD,bc,Z,?_,fun s=>?_⟩
 ·rw [jU]
  refine⟨hc.cd,hc.ke,hc.iK,hc.ki,?_,?_,?_,hc.mC,?_,?_,?_,?_⟩
  ·intro c c' id h1 h2
   rcases hinv c id h1 with⟨e1,g1⟩ | ⟨e1,g1⟩<;>rcases hinv c' id h2 with⟨e2,g2⟩ | ⟨e2,g2⟩
   ·rw [e1,e2]
   ·have:=fH c' id g2;exact absurd (hc.inj _ _ id this.2 g1) this.1
   ·have:=fH c id g1;exact absurd (hc.inj _ _ id this.2 g2) this.1
   ·exact hc.inj c c' id (fH c id g1).2 (fH c' id g2).2
  ·intro c id h1
   rcases hinv c id h1 with⟨e1,g1⟩ | ⟨e1,g1⟩
   ·exact hc.own b id g1
   ·exact hc.own c id (fH c id g1).2
  ·intro c id h1 hx
   rcases hinv c id h1 with⟨e1,g1⟩ | ⟨e1,g1⟩
   ·exact absurd (hc.x0 b id g1 hx) fo
   ·exact hc.x0 c id (fH c id g1).2 hx
  ·intro id hx
   have h0:=hk.x1 id hx
   exact hm 0 id h0
  ·intro c id bk h1 jN eA
   rcases hinv c id h1 with⟨e1,g1⟩ | ⟨e1,g1⟩
   ·subst e1
    simp only [St.bG,if_true,Option.some.injEq] at jN
    subst jN
    exact hc.ir b id blk g1 hb eA
   ·simp only [St.bG,if_neg e1] at jN
    exact hk.ir c id bk g1 jN eA
  ·intro c id bk h1 jN eA
   rcases hinv c id h1 with⟨e1,g1⟩ | ⟨e1,g1⟩
   ·subst e1
    simp only [St.bG,if_true,Option.some.injEq] at jN
    subst jN
    exact hc.bR b id blk g1 hb eA
   ·simp only [St.bG,if_neg e1] at jN
    exact hk.bR c id bk g1 jN eA
  ·intro c id h1
   rcases hinv c id h1 with⟨e1,g1⟩ | ⟨e1,g1⟩
   ·subst e1
    obtain⟨bk,q1,cc,T,part,rest,q2,q3,q4⟩:=hc.heap b id g1
    rw [hb] at q1;cases q1
    refine⟨⟨blk.sz,bN b blk.vals,blk.mt⟩,by simp [St.bG],aiJ ⟨cc,T,part,rest,q2,q3,?_⟩⟩
    exact aM.kill (fun _ h=>h) (fun k id hk h=>by simp [jf,hk,h]) (Frame.refl _ _ _) _ _ q4
   ·obtain⟨bk,q1,q2⟩:=hk.heap c id g1
    exact⟨bk,by simp only [St.bG,if_neg e1];exact q1,aiJ q2⟩
 ·rw [fQ]
  split
  ·rename_i cQ
   subst cQ
   have e:=hr s
   rw [h] at e
   refine⟨by simp [LV.isAgg],fun hh=>?_⟩
   have e2:=e.2 rfl
   simp only [ay] at e2 ⊢
   rcases e2 with e2 | ⟨id,cap,c,T,fz,q1,q2,q3⟩
   ·exact .inl e2
   ·exact .inr ⟨id,cap,c,T,fz,q1,by simp only [bc,if_true];exact q2,q3⟩
  ·exact a9.mono (fun _ h=>h) hm (Frame.refl _ _ _) (jb s)
end Go.Lg
namespace Go.Proofs.YtckppbhafancnaaGreat
open Go.Lg
theorem aic {s:Nat} (h:s<32):dk .quo .i64 (s:Nat) 32=some (.int .i64 0):=by
 have:((s:Int)).tdiv 32=0:=by rw [Int.tdiv_eq_ediv_of_nonneg J];omega
 simp [dk,this,IntWalk.i64_in]
theorem anV {s:Nat} (h:s<32):dk .rem .i64 (s:Nat) 32=some (.int .i64 (s:Nat)):=by
 have:((s:Int)).tmod 32=s:=by rw [Int.tmod_eq_emod_of_nonneg J];omega
 simp [dk,this]
theorem awu {m s c x:Nat} {o:List Nat} (hv:val o+4294967296 ^ o.length*c=val ((al m).take o.length)*2 ^ s) (hx:x=(al m).getD o.length 0*2 ^ s+c) :
  val (o++[x % 4294967296])+4294967296 ^ (o.length+1)*(x/4294967296)=val ((al m).take (o.length+1))*2 ^ s:=by
 rw [ai7,nB,Nat.pow_succ,Nat.add_mul,Nat.mul_assoc (4294967296 ^ o.length) ((al m).getD o.length 0)]
 have h1:=zj (4294967296 ^ o.length) x
 have h2:4294967296 ^ o.length*x=4294967296 ^ o.length*((al m).getD o.length 0*2 ^ s)+4294967296 ^ o.length*c:=by rw [hx,Nat.mul_add]
 omega
theorem ayX {m s c:Nat} {o:List Nat} (hv:val o+4294967296 ^ o.length*c=val ((al m).take o.length)*2 ^ s) (ho:o.length=(al m).length) (hc:c<4294967296):val (o++[c % 4294967296])=m*2 ^ s:=by
 rw [ai7,Nat.mod_eq_of_lt hc,hv,acM J]
theorem azs {s x y:Nat} (hs:s<32) (hx:x<4294967296):(y*4294967296+x)/2 ^ s % 4294967296=x/2 ^ s+y % 2 ^ s*2 ^ (32-s):=by
 have hd:4294967296=2 ^ (32-s)*2 ^ s:=by rw [<-Nat.pow_add,show 32-s+s=32 by omega]
 have hp:0<2 ^ s:=Nat.pow_pos J
 obtain⟨_,h2⟩:=agD (z:=y) (show s<=32 by omega) hx
 have e1:(y*4294967296+x)/2 ^ s=y*2 ^ (32-s)+x/2 ^ s:=by
  rw [show y*4294967296+x=x+(y*2 ^ (32-s))*2 ^ s by rw [Nat.mul_assoc,<-hd];omega,Nat.add_mul_div_right _ _ hp];omega
 have e2:y*2 ^ (32-s)=y % 2 ^ s*2 ^ (32-s)+4294967296*(y/2 ^ s):=by
  have e3:y*2 ^ (32-s)=(2 ^ s*(y/2 ^ s)+y % 2 ^ s)*2 ^ (32-s):=by rw [Nat.div_add_mod]
  rw [e3,Nat.add_mul,hd,Nat.mul_right_comm,Nat.mul_comm (2 ^ s) (2 ^ (32-s))];omega
 rw [e1,e2,show y % 2 ^ s*2 ^ (32-s)+4294967296*(y/2 ^ s)+x/2 ^ s=(y % 2 ^ s*2 ^ (32-s)+x/2 ^ s)+4294967296*(y/2 ^ s) by omega,Nat.add_mul_mod_self_left,Nat.mod_eq_of_lt h2]
 omega
theorem aBn {i s:Nat} {w o:List Nat} (hi:i<w.length) (hs:s<32) (hv:2 ^ s*val (w.take i)=val (o.take i)+4294967296 ^ i*(o.getD i 0 % 2 ^ s)) :
  2 ^ s*val ((w.set i (o.getD i 0/2 ^ s+o.getD (i+1) 0 % 2 ^ s*2 ^ (32-s))).take (i+1))=val (o.take (i+1))+4294967296 ^ (i+1)*(o.getD (i+1) 0 % 2 ^ s):=by
 have hd:4294967296=2 ^ s*2 ^ (32-s):=by rw [<-Nat.pow_add,show s+(32-s)=32 by omega]
 rw [xV _ _ _ hi,Nat.mul_add,hv,nB,Nat.pow_succ]
 have h1:=Nat.div_add_mod (o.getD i 0) (2 ^ s)
 generalize o.getD i 0/2 ^ s=q at *
 generalize o.getD i 0 % 2 ^ s=t at *
 generalize o.getD (i+1) 0 % 2 ^ s=u at *
 generalize 4294967296 ^ i=p at *
 rw [<-h1]
 have e1:2 ^ s*(p*(q+u*2 ^ (32-s)))=p*(2 ^ s*q)+p*4294967296*u:=by
  rw [hd,Nat.mul_add,Nat.mul_add]
  simp only [Nat.mul_assoc,Nat.mul_left_comm,Nat.mul_comm]
 rw [e1,Nat.mul_add]
 omega
theorem avq {r s:Nat} {o:List Nat} (cN:o.length=(al (r*2 ^ s)).length) (hv:2 ^ s*val (o.take (al (r*2 ^ s)).length)=val ((al (r*2 ^ s)).take (al (r*2 ^ s)).length)+4294967296 ^ (al (r*2 ^ s)).length*((al (r*2 ^ s)).getD (al (r*2 ^ s)).length 0 % 2 ^ s)):val o=r:=by
 rw [re _ _ (Nat.le_refl _),Nat.zero_mod,Nat.mul_zero,Nat.add_zero,List.take_length,<-cN,List.take_length,bU,Nat.mul_comm r] at hv
 exact Nat.eq_of_mul_eq_mul_left (Nat.pow_pos J) hv
theorem asp (k:Nat):((List.replicate k 0).map bh).take k=(List.replicate k 0).map bh:=by rw [List.take_of_length_le aO]
theorem aAa {m:Nat} (k:Nat) (h:0<(al m).length):al (m*4294967296 ^ k)=List.replicate k 0++al m:=by
 have hv:val (List.replicate k 0++al m)=m*4294967296 ^ k:=by rw [adF,aeV,bU];simp [Nat.mul_comm]
 refine(ala (apB (sv k) (cE m)) hv (.inr ?_)).symm
 have:=afh h
 simp only [List.length_append,List.length_replicate]
 rw [show k+(al m).length-1=(al m).length-1+k by omega,Nat.pow_add]
 exact Nat.mul_le_mul_right _ this
open agw in
theorem apz (m s:Nat) (fb:(al m).length<=549755813888) (hs:s<32):av Tryz.prog 270 [ba m,ah s] (ba (m*2 ^ s)):=by
 obtain⟨iM,pj⟩:=adl hs
 refine aN Tryz.func270 ?_
 refine bf ?_
 refine ak rfl (.bin rfl rfl (aic hs)) ?_
 refine eI rfl rfl (.kK (n:=0) (m:=0) ml ml om om om) ?_
 refine gy ?_
 refine ju (aw.mv (t:=5) (b:=10) 31 ai ai ai rfl rfl rfl) ?_
 refine jL (fun(o:List Nat) (c:Nat) L=>((((((St.mk L.slot (hp [(31,⟨1,o.map bh,true⟩)])).put (some 0) (ba m)).put (some 1) (ah s)).put (some 5) (.ref 31 1 0 o.length)).put (some 6) (cC c)).put (some 7) (ah o.length))) (fun o c=>o.length<=(al m).length/\c<2 ^ s/\bM o/\val o+4294967296 ^ o.length*c=val ((al m).take o.length)*2 ^ s) (fun o c=>(al m).length-o.length) ([]) 0 ⟨Nat.zero_le _,pj,(by intro x hx;cases hx),by simp [val]⟩ ?_
 rintro o c L1 ⟨cN,hc,bX,hv⟩
 have r9:=gG m o.length
 have sM:=alU r9 iM
 refine bq ?_
 refine aC rfl ?_ ?_<;>intro oI kg
 ·refine dp ?_
  refine ak rfl (.bin rfl rfl (anV hs)) ?_
  refine ak rfl (.sh rfl rfl (amp J (by(try simp only [t1,fc]);omega))) ?_
  refine ak rfl (.bin rfl rfl (orV hc (by(try simp only [t1,fc]);omega))) ?_
  refine bq ?_
  refine bI rfl (.app (news:=[bh (((al m).getD o.length 0*2 ^ s+c) % 4294967296)]) rfl rfl rfl rfl rfl aO (.inl rfl) ai Tryz.underlying29 Tryz.underlying29 aac ph rfl aah (.inl ⟨30,0,_,rfl,by decide,rfl,rfl,by simp,rfl,rfl⟩) bm bm ai) ?_
  refine aJ ?_
  refine cq (aw.kill _ 30) ?_
  refine bu ?_
  exact fU (o++[((al m).getD o.length 0*2 ^ s+c) % 4294967296]) (((al m).getD o.length 0*2 ^ s+c)/4294967296) ⟨by rw [iA];omega,aod r9 hc,ag0 bX J,by rw [iA];exact awu hv rfl⟩ (hm:=by rw [iA];omega)
 ·have hoe:o.length=(al m).length:=by omega
  have hV:=ayX hv hoe (show c<4294967296 by omega)
  refine bo ?_
  refine bI rfl (.app (news:=[bh (c % 4294967296)]) rfl rfl rfl rfl rfl aO (.inr rfl) ai Tryz.underlying29 Tryz.underlying29 aac ph rfl aah (.inl ⟨37,0,_,rfl,by decide,rfl,rfl,by simp,rfl,rfl⟩) bm bm ai) ?_
  simp only [aP eZ,kW,kJ,iA,List.length_cons,List.length_nil]
  refine pO [38] pB (s7 (o++[c % 4294967296]) (ag0 bX J) (by rw [iA];omega)) ?_
  refine ax ?_
  rw [<-hV]
  exact dC
namespace alz
theorem aH {p q:Prop} (k:q) (e:p=q:=by simp only [e1,e2,e3,e4,p1,p2,p3,q1,q2,q3,l1,t0,t1,r1,r2,r3,r4,Nat.zero_add,Nat.reduceMul,Nat.reduceAdd,b1,b2,b3,b4,b5,b6,i1,i2,i3,i4,i5,i6,Nat.reduceBEq,fc,List.drop_zero,kZ,eyy];exact rfl):p:=e.mpr k
end alz
open alz in
theorem aAu (r s:Nat) (fb:(al (r*2 ^ s)).length<=549755813888) (hs:s<32):av Tryz.prog 273 [ba (r*2 ^ s),ah s] (ba r):=by
 obtain⟨iM,pj⟩:=adl hs
 have yI:=amd (l:=al (r*2 ^ s)) (r:=r) (show s<=32 by omega) (bU _)
 refine aN Tryz.func273 ?_
 have kZ:True:=trivial
 have eyy:True:=trivial
 refine bq ?_
 refine ak rfl (.bin rfl rfl (aic hs)) ?_
 refine aZ ?_
 refine aC rfl ?_ ?_<;>intro aaL h12
 ·have hm:r*2 ^ s=0:=pw.1 (List.eq_nil_of_length_eq_zero J)
  have qC:r=0:=by rcases Nat.mul_eq_zero.1 hm with h | h<;>omega
  subst qC
  refine aR ?_
  exact dB rfl (.nil 1)
 ·refine az ?_
  refine ak rfl (.bin rfl rfl (aic hs)) ?_
  refine ak rfl (.z5 (a:=0) eZ rfl Tryz.underlying29 ph rfl om) ?_
  refine aR ?_
  refine eI rfl rfl (.kK (n:=(al (r*2 ^ s)).length) (m:=(al (r*2 ^ s)).length) ml ml om om om) ?_
  refine bB ?_
  refine jL (fun(i:Nat) (o:List Nat) L=>(((((St.mk L.slot (hp [(19,⟨1,o.map bh,true⟩)])).put (some 0) (ba (r*2 ^ s))).put (some 1) (ah s)).put (some 5) (.ref 19 1 0 (al (r*2 ^ s)).length)).put (some 6) (ah i))) (fun i o=>i<=(al (r*2 ^ s)).length/\o.length=(al (r*2 ^ s)).length/\bM o/\2 ^ s*val (o.take i)=val ((al (r*2 ^ s)).take i)+4294967296 ^ i*((al (r*2 ^ s)).getD i 0 % 2 ^ s)) (fun i o=>(al (r*2 ^ s)).length-i) 0 (List.replicate (al (r*2 ^ s)).length 0) ⟨Nat.zero_le _,by simp,sv _,by rw [yI];simp [val]⟩ ?_
  rintro i o L1 ⟨hi,cN,bX,hv⟩
  have kZ:((i:Int)+1).toNat=i+1:=by omega
  have w8:=gG (r*2 ^ s) i
  have hyi:=gG (r*2 ^ s) (i+1)
  obtain⟨hh1,hh2⟩:=agD (z:=(al (r*2 ^ s)).getD (i+1) 0) (show s<=32 by omega) w8
  refine bq ?_
  refine aC rfl ?_ ?_<;>intro p7 oS
  ·refine yl ?_
   refine fZ (fun L=>∃ (y:Nat) (L1:St),(y=(al (r*2 ^ s)).getD (i+1) 0*4294967296+(al (r*2 ^ s)).getD i 0)/\L=((((((St.mk L1.slot (hp [(19,⟨1,o.map bh,true⟩)])).put (some 0) (ba (r*2 ^ s))).put (some 1) (ah s)).put (some 5) (.ref 19 1 0 (al (r*2 ^ s)).length)).put (some 6) (ah i)).put (some 7) (cC y))) ?_ ?_
   ·refine aC rfl ?_ ?_<;>intro xf vR
    ·refine bf ?_
     refine ak rfl (.sh rfl rfl (abQ (by(try simp only [t1,fc,kZ]);omega))) ?_
     refine ak rfl (.bin rfl rfl (orC (by(try simp only [t1,fc]);omega) (by(try simp only [t1,fc,kZ]);omega))) ?_
     refine aJ ?_
     exact⟨(al (r*2 ^ s)).getD (i+1) 0*4294967296+(al (r*2 ^ s)).getD i 0,_,rfl,((aj (aj (aj (aj (aj (bC cl) cl) cl) cl) cl) cl)).symm⟩
    ·refine aL ?_
     exact⟨(al (r*2 ^ s)).getD i 0,_,by rw [re _ (i+1) J,Nat.zero_mul,Nat.zero_add],((aj (aj (aj (aj (aj (bC cl) cl) cl) cl) cl) cl)).symm⟩
   ·rintro _ ⟨y,aDy,hy,rfl⟩
    have eyy:y/2 ^ s % 4294967296=((al (r*2 ^ s)).getD i 0/2 ^ s+(al (r*2 ^ s)).getD (i+1) 0 % 2 ^ s*2 ^ (32-s)):=by rw [hy];exact azs hs w8
    refine az ?_
    refine ak rfl (.bin rfl rfl (anV hs)) ?_
    refine ak rfl (.sh rfl rfl (ade (m:=s) (by show s<=64;omega))) ?_
    refine bu ?_
    exact fU (i+1) (o.set i ((al (r*2 ^ s)).getD i 0/2 ^ s+(al (r*2 ^ s)).getD (i+1) 0 % 2 ^ s*2 ^ (32-s))) ⟨J,by simp [cN],kQ bX _ _ J,aBn J hs hv⟩
  ·obtain rfl:i=(al (r*2 ^ s)).length:=by omega
   refine bf ?_
   refine pO [19] pB (s7 _ gV qO) ?_
   refine ax ?_
   have hV:=avq cN hv
   rw [<-hV]
   exact dC
namespace aom
theorem aH {p q:Prop} (k:q) (e:p=q:=by simp only [e1,e2,e3,e4,p1,p2,p3,q1,q2,q3,l1,t0,t1,r1,r2,r3,r4,Nat.zero_add,Nat.reduceMul,Nat.reduceAdd,b1,b2,b3,b4,b5,b6,i1,i2,i3,i4,i5,i6,Nat.reduceBEq,List.take_zero,List.take_nil,List.nil_append,aP eZ,LV.kill,kW,kJ,iA,List.length_cons,List.length_nil,asp,<-List.map_append];exact rfl):p:=e.mpr k
end aom
open aom in
theorem akr (m k:Nat) (fb:(al m).length<=1099511627776) (hk:k<=1099511627776):av Tryz.prog 271 [ba m,ah k] (ba (m*4294967296 ^ k)):=by
 refine aN Tryz.func271 ?_
 refine dp ?_
 refine aC rfl ?_ ?_<;>intro h7r h7
 ·have hm:m=0:=pw.1 (List.eq_nil_of_length_eq_zero J)
  subst hm
  refine aR ?_
  rw [Nat.zero_mul]
  exact dB rfl (.nil 1)
 ·have hE:=aAa k (show 0<(al m).length by omega)
  refine aZ ?_
  refine eI rfl rfl (.kK (n:=k) (m:=k) ml ml om om om) ?_
  refine ar ?_
  refine bI rfl (.app (news:=(al m).map bh) rfl rfl rfl rfl rfl aO (.inr rfl) ai Tryz.underlying29 Tryz.underlying29 aac ph rfl aah (.inr (.inl rfl)) bm bm ai) ?_
  refine ax ?_
  rw [show ba (m*4294967296 ^ k)=.list 1 ((List.replicate k 0++al m).map bh) by rw [<-hE];rfl]
  exact mL [11] rfl rfl (eM eZ rfl rfl aO)
theorem aBP (l:List Nat) (k:Nat):val l=val (l.take k)+4294967296 ^ k*val (l.drop k):=by
 rcases Nat.le_total k l.length with h | h
 ·exact rm l k h
 ·rw [List.take_of_length_le h,List.drop_of_length_le h];simp [val]
theorem apI (l:List Nat) (k:Nat):val (l.drop k)=l.getD k 0+4294967296*val (l.drop (k+1)):=by
 rcases Nat.lt_or_ge k l.length with h | h
 ·exact nr h
 ·rw [List.drop_of_length_le h,List.drop_of_length_le J,re _ _ h];rfl
theorem abU {a:Nat} (h:1<=a) (h2:a<=9223372036854775807):dk .sub .i64 (a:Nat) 1=some (.int .i64 ((a-1:Nat):Int)):=by
 rw [xD J J];congr 2;omega
theorem au1 {n:Nat} (h:0<(al n).length):(al n).drop ((al n).length-1)=al ((al n).getD ((al n).length-1) 0):=by
 have h1:=adn (ac4 n) h
 have h2:=gG n ((al n).length-1)
 rw [aaV J h2]
 rw [List.drop_eq_getElem_cons J,List.drop_of_length_le J,List.getD_eq_getElem?_getD,List.getElem?_eq_getElem J]
 rfl
theorem aBX {R V n j:Nat} (hn:(al V).length=n+1) (bE:R<V*4294967296 ^ (j+1)) (hv:0<(al V).getD n 0) :
  R/4294967296 ^ j/V<=min (((al R).getD (j+(n+1)) 0*4294967296+(al R).getD (j+n) 0)/(al V).getD n 0) 4294967295:=by
 have jG:0<V:=Nat.pos_of_ne_zero (fun h=>by rw [h,tc] at hn;cases hn)
 have hVn:V<4294967296 ^ (n+1):=rj J
 have hz:=afA (ul:=al R) (n:=n+1) (j:=j) hVn (by rw [bU];exact bE)
 have zr:R/4294967296 ^ j/V<4294967296:=by
  rw [Nat.div_lt_iff_lt_mul jG,Nat.div_lt_iff_lt_mul (rN j),Nat.mul_comm 4294967296,Nat.mul_assoc,<-Nat.pow_succ']
  exact bE
 refine Nat.le_min.2 ⟨?_,J⟩
 rw [Nat.le_div_iff_mul_le hv]
 have hVs:=rm (al V) n J
 have hVd:val ((al V).drop n)=(al V).getD n 0:=by
  rw [nr J,List.drop_of_length_le J];simp [val]
 rw [hVd,bU] at hVs
 have hR:R/4294967296 ^ (j+n)=(al R).getD (j+(n+1)) 0*4294967296+(al R).getD (j+n) 0:=by
  have e:=aBP (al R) (j+n)
  rw [bU] at e
  have hl:val ((al R).take (j+n))<4294967296 ^ (j+n):=qQ (tT (cE R) _) bm
  have hd:val ((al R).drop (j+n))=(al R).getD (j+(n+1)) 0*4294967296+(al R).getD (j+n) 0:=by
   have z:val ((al R).drop (j+n+2))=0:=acg (fun p=>by rw [acv];exact hz _ J)
   rw [apI,apI,z,show j+n+1=j+(n+1) by omega];omega
  rw [<-hd]
  conv=>lhs;rw [e]
  rw [Nat.add_mul_div_left _ _ (rN _),Nat.div_eq_of_lt hl,Nat.zero_add]
 rw [<-hR,Nat.pow_add,<-Nat.div_div_eq_div_mul,Nat.le_div_iff_mul_le (rN n),Nat.mul_assoc]
 refine Nat.le_trans (Nat.mul_le_mul_left _ ?_) (Nat.div_mul_le_self (R/4294967296 ^ j) V)
 rw [Nat.mul_comm]
 omega
theorem atj {R V j d:Nat} (hV:0<V) (h:R<V*d*4294967296 ^ j):R/4294967296 ^ j/V<d:=by
 rw [Nat.div_lt_iff_lt_mul hV,Nat.div_lt_iff_lt_mul (rN j),Nat.mul_comm d V];exact h
theorem aCQ {R V j d:Nat} (hV:0<V) (h:V*d*4294967296 ^ j<=R):d<=R/4294967296 ^ j/V:=by
 rw [Nat.le_div_iff_mul_le hV,Nat.le_div_iff_mul_le (rN j),Nat.mul_comm d V];exact h
theorem ayG {R V j d A:Nat} {ql:List Nat} (hV:0<V) (hd:d=R/4294967296 ^ j/V) (hp:V*d*4294967296 ^ j<=R) (hj:j<ql.length) (hv:R+V*4294967296 ^ (j+1)*val (ql.drop (j+1))=A) :
  R-V*d*4294967296 ^ j+V*4294967296 ^ j*val ((ql.set j d).drop j)=A/\R-V*d*4294967296 ^ j<V*4294967296 ^ j:=by
 have:=am8 (ul:=al (R-V*d*4294967296 ^ j)) (ul0:=al R) (ql:=ql) (x:=d) (j:=j) (U0:=A) hV (by rw [bU];exact hd) (by rw [bU,bU,Nat.mul_comm d V,Nat.mul_comm (4294967296 ^ j)];omega) hj (by rw [bU];exact hv)
 rw [bU] at this
 exact this
theorem aCc {m n L K s:Nat} (hL:(al (n*2 ^ s)).length=L) (h0:0<L) (hK:K+L=(al (m*2 ^ s)).length+1):m*2 ^ s<n*2 ^ s*4294967296 ^ K:=by
 have h1:m*2 ^ s<4294967296 ^ (al (m*2 ^ s)).length:=rj (Nat.le_refl _)
 have h2:=afh (m:=n*2 ^ s) J
 refine Nat.lt_of_lt_of_le h1 ?_
 rw [show (al (m*2 ^ s)).length=(L-1)+K by omega,Nat.pow_add,<-hL]
 exact Nat.mul_le_mul_right _ h2
theorem aA8 {m s k:Nat} (h:(al m).length<=k) (hs:s<32):(al (m*2 ^ s)).length<=k+1 :=
 dW h (rL.2 (by have:=adl hs;omega))
theorem an1 (k:Nat):(al (4294967296 ^ k)).length<=k+1:=u6 (Nat.pow_lt_pow_right J J)
theorem axp {V j d:Nat} (h:1<=d):V*d*4294967296 ^ j-V*4294967296 ^ j=V*(d-1)*4294967296 ^ j:=by
 obtain⟨e,rfl⟩:∃ e,d=e+1:=⟨d-1,J⟩
 rw [Nat.add_sub_cancel,Nat.mul_add,Nat.mul_one,Nat.add_mul];omega
theorem awr {V j d:Nat} (h:1<=d):V*4294967296 ^ j<=V*d*4294967296 ^ j:=by
 refine Nat.mul_le_mul_right _ ?_
 have:=Nat.mul_le_mul_left V h
 omega
namespace am7
theorem aH {p q:Prop} (k:q) (e:p=q:=by simp only [e1,e2,e3,e4,p1,p2,p3,q1,q2,q3,l1,t0,t1,r1,r2,r3,r4,Nat.zero_add,Nat.reduceMul,Nat.reduceAdd,b1,b2,b3,b4,b5,b6,i1,i2,i3,i4,i5,i6,Nat.reduceBEq,fc,bU,eln,edz,esm,esn,eLn,edm,ek,mW,mD,eL1,ed,wP,edd,es];exact rfl):p:=e.mpr k
end am7
open am7 in
theorem ajq (m n:Nat) (fb:(al m).length<=68719476736) (lg:(al n).length<=68719476736) (gU:0<n):av Tryz.prog 230 [ba m,ba n] (.a7 [ba (m/n),ba (m % n),iL 0]):=by
 refine aN Tryz.func230 ?_
 have eln:True:=trivial
 have edz:True:=trivial
 have esm:True:=trivial
 have esn:True:=trivial
 have eLn:True:=trivial
 have edm:True:=trivial
 have ek:True:=trivial
 have mW:True:=trivial
 have mD:True:=trivial
 have eL1:True:=trivial
 have ed:True:=trivial
 have edd:True:=trivial
 have es:True:=trivial
 refine gy ?_
 refine aC rfl ?_ ?_<;>intro yc h21
 ·have o6:=pw.1 (List.eq_nil_of_length_eq_zero (show (al n).length=0 by omega))
  omega
 ·refine aR ?_
  refine cp aq (zy _ _ J J) ?_
  refine aJ ?_
  refine aC rfl ?_ ?_<;>intro af0 x9
  ·have bE:m<n:=by unfold iT at x9;split at x9;assumption;split at x9<;>omega
   refine aJ ?_
   refine cp aK (s7 _ gV J) ?_
   refine aR ?_
   rw [Nat.div_eq_of_lt bE,Nat.mod_eq_of_lt bE]
   exact zZ [] rfl rfl (.nil 1) rfl (.pure (iN _)) rfl (.pure rfl)
  ·have jd:n<=m:=by
    rcases Nat.lt_or_ge m n with h | h
    ·rw [ot h] at x9;omega
    ·exact h
   have aiJ:=mO jd
   refine az ?_
   refine cp aK (adX _ J) ?_
   refine bu ?_
   refine aC rfl ?_ ?_<;>intro ack h33
   ·have avs:m<18446744073709551616:=by simpa using ack
    have esm:(if m<18446744073709551616 then m else 0)=m:=if_pos avs
    have esn:(if n<18446744073709551616 then n else 0)=n:=if_pos J
    have aDV:m/n<=m:=Nat.div_le_self _ _
    have aDg:=Nat.mod_lt m gU
    refine aJ ?_
    refine cp aK (adX _ J) ?_
    refine bf ?_
    refine aY 11 an ?_
    refine aL ?_
    refine ak rfl abP ?_
    refine cp aK (aab _ J) ?_
    refine aL ?_
    refine ak rfl (.bin rfl rfl (ajN J)) ?_
    refine cp aK (aab _ J) ?_
    refine aR ?_
    exact acr
   ·refine bB ?_
    refine aC rfl ?_ ?_<;>intro ym h49
    ·have mz:=xj (n:=n) J
     have eLn:=mz.1
     have lI:=rL.1 (show (al n).length<=1 by omega)
     have ib:=Nat.mod_lt m gU
     refine az ?_
     simp only [wP,fc,eLn]
     refine cp aq (ax8 m n J gU lI) ?_
     refine bu ?_
     refine cp aK (aab _ J) ?_
     refine aR ?_
     exact acr
    ·obtain⟨ln,hL⟩:∃ ln,(al n).length=ln+1:=⟨(al n).length-1,J⟩
     have eL1:(al n).length-1=ln:=by omega
     have kX:=au1 (n:=n) J
     rw [eL1] at kX
     have ahT:=adn (ac4 n) (show 0<(al n).length by omega)
     rw [eL1] at ahT
     have yY:=gG n ln
     have df:di ((al n).getD ln 0)<=32:=sO.2 yY
     have aDH:(al ((al n).getD ln 0)).length<=1:=rL.2 yY
     obtain⟨s,hs⟩:∃ s,s=32-di ((al n).getD ln 0):=⟨_,rfl⟩
     have es:(32:Int)-((di ((al n).getD ln 0):Nat):Int)=((s:Nat):Int):=by rw [akF df,hs]
     obtain⟨qB,iQ,aex,sP⟩:=apn (n:=ln) hL hs
     have jG:0<n*2 ^ s:=Nat.mul_pos gU (Nat.pow_pos J)
     have rY:0<(al (n*2 ^ s)).getD ln 0:=by have:=apb iQ aex;omega
     have hUl:=aA8 fb qB
     have hUV:(al (n*2 ^ s)).length<=(al (m*2 ^ s)).length:=mO (Nat.mul_le_mul_right _ jd)
     obtain⟨K,hK⟩:∃ K,K+ln=(al (m*2 ^ s)).length:=⟨(al (m*2 ^ s)).length-ln,J⟩
     have cQ:=aCc (m:=m) (n:=n) (s:=s) (K:=K) iQ J J
     refine aR ?_
     refine ak rfl jz ?_
     refine ak rfl (.z5 (a:=(al n).length-1) eZ rfl Tryz.underlying29 ph rfl om) ?_
     rw [eL1,kX]
     refine cp aK (aAd _ J) ?_
     refine bf ?_
     refine cp aq (apz _ _ J qB) ?_
     refine aL ?_
     refine cp aq (apz _ _ J qB) ?_
     refine mQ ?_
     refine eI rfl rfl (.kK (n:=K) (m:=K) ml ml om om om) ?_
     refine dj ?_
     refine rf (fun(k R:Nat) (ql:List Nat) L=>(((((((St.mk L.slot (hp [(82,⟨1,ql.map bh,true⟩)])).put (some 1) (ba (n*2 ^ s))).put (some 4) (.ref 82 1 0 K)).put (some 13) (ah s)).put (some 14) (ah (ln+1))).put (some 5) (ba R)).put (some 15) (iL ((k:Int)-1)))) (fun k R ql=>k<=K/\ql.length=K/\bM ql/\R<=m*2 ^ s/\R+(n*2 ^ s)*4294967296 ^ k*val (ql.drop k)=m*2 ^ s/\R<(n*2 ^ s)*4294967296 ^ k) (fun k R ql=>k) K (m*2 ^ s) (List.replicate K 0) ⟨Nat.le_refl _,by simp,sv _,Nat.le_refl _,by rw [List.drop_of_length_le aO];simp [val],cQ⟩ ?_
     rintro k R ql L1 ⟨hk,iH,kF,hRU,hv,bE⟩
     refine aR ?_
     refine aC rfl ?_ ?_<;>intro ayI so
     ·obtain⟨j,rfl⟩:∃ j,k=j+1:=⟨k-1,J⟩
      have ek:(((j+1:Nat):Int)-1)=(j:Int):=by omega
      have mW:((j:Int)+((ln+1:Nat):Int)).toNat=j+(ln+1):=by omega
      have mD:((j:Int)+((ln+1:Nat):Int)-1).toNat=j+ln:=by omega
      have hRl:=mO hRU
      have eln:(((ln+1:Nat):Int)-1).toNat=ln:=by omega
      have ib:=gG R (j+(ln+1))
      have nv:=gG R (j+ln)
      have alw:=aBX (R:=R) (n:=ln) (j:=j) iQ bE rY
      have pA:=gG (n*2 ^ s) ln
      refine nj ?_
      refine fZ (fun L=>∃ (hi:Nat) (L1:St),(hi=(al R).getD (j+(ln+1)) 0)/\L=((((((((St.mk L1.slot (hp [(82,⟨1,ql.map bh,true⟩)])).put (some 1) (ba (n*2 ^ s))).put (some 4) (.ref 82 1 0 K)).put (some 13) (ah s)).put (some 14) (ah (ln+1))).put (some 5) (ba R)).put (some 15) (iL (((j+1:Nat):Int)-1))).put (some 16) (cC hi))) ?_ ?_
      ·refine aC rfl ?_ ?_<;>intro aEk h96
       ·refine bo ?_
        exact⟨(al R).getD (j+(ln+1)) 0,_,rfl,((aj (aj (aj (aj (aj (aj (aj (bC cl) cl) cl) cl) cl) cl) cl) cl)).symm⟩
       ·refine aL ?_
        exact⟨0,_,(re _ _ J).symm,((aj (aj (aj (aj (aj (aj (aj (bC cl) cl) cl) cl) cl) cl) cl) cl)).symm⟩
      ·rintro _ ⟨hi,aD6,gj,rfl⟩
       refine dp ?_
       refine fZ (fun L=>∃ (top:Nat) (L1:St),(top=((al R).getD (j+(ln+1)) 0*4294967296+(al R).getD (j+ln) 0))/\L=((((((((St.mk L1.slot (hp [(82,⟨1,ql.map bh,true⟩)])).put (some 1) (ba (n*2 ^ s))).put (some 4) (.ref 82 1 0 K)).put (some 13) (ah s)).put (some 14) (ah (ln+1))).put (some 5) (ba R)).put (some 15) (iL (((j+1:Nat):Int)-1))).put (some 16) (cC top))) ?_ ?_
       ·refine aC rfl ?_ ?_<;>intro aDI aEr
        ·refine aL ?_
         refine ak rfl (.sh rfl rfl (abQ J)) ?_
         refine bf ?_
         refine ak rfl (.bin rfl rfl (orU (by simp only [t1,fc,mD];omega) J)) ?_
         refine aJ ?_
         exact⟨hi*4294967296+(al R).getD (j+ln) 0,_,by rw [gj],((aj (aj (aj (aj (aj (aj (aj (bC cl) cl) cl) cl) cl) cl) cl) cl)).symm⟩
        ·refine aL ?_
         refine ak rfl (.sh rfl rfl (abQ J)) ?_
         refine aJ ?_
         exact⟨hi*4294967296,_,by rw [gj,re (al R) (j+ln) J];exact(Nat.add_zero _).symm,((aj (aj (aj (aj (aj (aj (aj (bC cl) cl) cl) cl) cl) cl) cl) cl)).symm⟩
       ·rintro _ ⟨top,aEh,htp,rfl⟩
        have aDP:top/(al (n*2 ^ s)).getD ln 0<=top:=Nat.div_le_self _ _
        have edm:(if (4294967295:Int)<((top/(al (n*2 ^ s)).getD ln 0:Nat):Int) then(4294967295:Int) else((top/(al (n*2 ^ s)).getD ln 0:Nat):Int))=((min (top/(al (n*2 ^ s)).getD ln 0) 4294967295:Nat):Int):=by split<;>omega
        subst htp
        obtain⟨d0,jw⟩:∃ d0,d0=min (((al R).getD (j+(ln+1)) 0*4294967296+(al R).getD (j+ln) 0)/(al (n*2 ^ s)).getD ln 0) 4294967295:=⟨_,rfl⟩
        rw [<-jw] at alw edm
        have hdz:d0<4294967296:=by rw [jw];exact Nat.lt_of_le_of_lt (Nat.min_le_right _ _) ai
        clear jw
        have edz:d0 % 4294967296=d0:=Nat.mod_eq_of_lt hdz
        have hlz:=dW (Nat.le_of_eq iQ) (rL.2 hdz)
        refine bB ?_
        refine ak rfl (.bin rfl rfl (aed (by simp only [t1,fc,eln];omega) J)) ?_
        refine bq ?_
        refine cp aq (as7 _ _ J J) ?_
        refine ar ?_
        refine cp aq (akr _ _ (by rw [edz];omega) J) ?_
        refine aZ ?_
        refine dG (fun(d:Nat) L=>(((((((((St.mk L.slot (hp [(82,⟨1,ql.map bh,true⟩)])).put (some 1) (ba (n*2 ^ s))).put (some 4) (.ref 82 1 0 K)).put (some 13) (ah s)).put (some 14) (ah (ln+1))).put (some 5) (ba R)).put (some 15) (iL (((j+1:Nat):Int)-1))).put (some 17) (cC d)).put (some 18) (ba ((n*2 ^ s)*d*4294967296 ^ j)))) (fun d=>R/4294967296 ^ j/(n*2 ^ s)<=d/\d<4294967296) (fun d=>d) d0 ⟨alw,hdz⟩ ?_
        rintro d L2 ⟨hdq,hdB⟩
        have jJ:=dW (Nat.le_of_eq iQ) (rL.2 hdB)
        have mc:=dW jJ (an1 j)
        have lf:=dW (Nat.le_of_eq iQ) (an1 j)
        refine aZ ?_
        refine cp aq (zy _ _ J J) ?_
        refine aJ ?_
        refine aC rfl ?_ ?_<;>intro aD3 aes
        ·have zS:R<n*2 ^ s*d*4294967296 ^ j:=by unfold iT at aes;split at aes;omega;split at aes;assumption;omega
         have hdq:=atj jG zS
         have jw:1<=d:=Nat.lt_of_le_of_lt (Nat.zero_le _) hdq
         have ai4:=awr (V:=n*2 ^ s) (j:=j) jw
         have edd:=axp (V:=n*2 ^ s) (j:=j) jw
         refine dj ?_
         refine cp aq (akr _ _ J J) ?_
         refine cp aq (ajB _ _ J J ai4) ?_
         refine ax ?_
         exact iJ (d-1) ⟨J,J⟩
        ·have fv:n*2 ^ s*d*4294967296 ^ j<=R:=by
          rcases Nat.lt_or_ge R (n*2 ^ s*d*4294967296 ^ j) with h | h
          ·rw [qi h] at aes;omega
          ·exact h
         have hdE:=Nat.le_antisymm (aCQ jG fv) hdq
         obtain⟨mz,lI⟩:=ayG jG hdE fv (show j<ql.length by omega) hv
         have ed:d % 4294967296=d:=Nat.mod_eq_of_lt hdB
         refine mQ ?_
         refine cp aq (ajB _ _ J J fv) ?_
         refine bB ?_
         exact qc j (R-(n*2 ^ s)*d*4294967296 ^ j) (ql.set j d) ⟨J,by simp [iH],kQ kF _ _ hdB,Nat.le_trans (Nat.sub_le _ _) hRU,mz,lI⟩
     ·obtain rfl:k=0:=by omega
      rw [List.drop_zero,Nat.pow_zero,Nat.mul_one] at hv
      rw [Nat.pow_zero,Nat.mul_one] at bE
      have hRl:=mO hRU
      obtain⟨hqf,hRf⟩:=aoI (ul:=al R) (ql:=ql) (A:=m) (s:=s) gU (by rw [bU];exact hv) (by rw [bU];exact bE)
      rw [bU] at hRf
      refine bf ?_
      refine pO [82] pB (s7 _ gV J) ?_
      refine aL ?_
      rw [hRf]
      refine cp aq (aAu (m % n) s (by rw [<-hRf];omega) qB) ?_
      refine az ?_
      rw [<-hqf]
      exact acr
namespace aro
theorem aH {p q:Prop} (k:q) (e:p=q:=by simp only [e1,e2,e3,e4,p1,p2,p3,q1,q2,q3,l1,t0,t1,r1,r2,r3,r4,Nat.zero_add,Nat.reduceMul,Nat.reduceAdd,b1,b2,b3,b4,b5,b6,i1,i2,i3,i4,i5,i6,Nat.reduceBEq,fc,bU,esm,esn];exact rfl):p:=e.mpr k
end aro
open aro in
theorem aui (m n:Nat) (fb:(al m).length<=68719476736) (lg:(al n).length<=68719476736):av Tryz.prog 204 [ba m,ba n] (ba (Nat.gcd m n)):=by
 refine aN Tryz.func204 ?_
 have esm:True:=trivial
 have esn:True:=trivial
 refine bf ?_
 refine cp aK (s7 _ (cE _) J) ?_
 refine ar ?_
 refine cp aK (s7 _ (cE _) J) ?_
 refine az ?_
 refine jL (fun(x y:Nat) L=>(((St.mk L.slot (hp [])).put (some 0) (ba x)).put (some 1) (ba y))) (fun x y=>Nat.gcd x y=Nat.gcd m n/\(al x).length<=68719476736/\(al y).length<=68719476736) (fun x y=>y) m n ⟨rfl,fb,lg⟩ ?_
 rintro x y L1 ⟨hg,hx,hy⟩
 refine bf ?_
 refine aC rfl ?_ ?_<;>intro rz rp
 ·have gW:0<y:=Nat.pos_of_ne_zero (fun h=>by rw [h,tc] at rp;simp at rp)
  refine az ?_
  refine cp aK (adX _ J) ?_
  refine bB ?_
  refine cp aK (adX _ J) ?_
  refine bq ?_
  refine fZ (fun L=>∃ (t:Bool) (L1:St),(t=decide (x<18446744073709551616/\y<18446744073709551616))/\L=((((((St.mk L1.slot (hp [])).put (some 0) (ba x)).put (some 1) (ba y)).put (some 5) (cC (if x<18446744073709551616 then x else 0))).put (some 7) (cC (if y<18446744073709551616 then y else 0))).put (some 32) (bL t))) ?_ ?_
  ·refine aJ ?_
   refine dy 30 rfl ?_ ?_<;>intro abB yb
   ·refine ax ?_
    exact⟨decide (y<18446744073709551616),_,by rw [decide_eq_decide];omega,((aj (aj (aj (aj (aj (bC cl) cl) cl) cl) cl) cl)).symm⟩
   ·refine ax ?_
    exact⟨false,_,by symm;rw [decide_eq_false_iff_not];omega,((aj (aj (aj (aj (aj (bC cl) cl) cl) cl) cl) cl)).symm⟩
  ·rintro _ ⟨t,LR5,ht,rfl⟩
   refine ar ?_
   refine aC rfl ?_ ?_<;>intro afX h32
   ·rw [ht,decide_eq_true_iff] at afX
    obtain⟨ant,akN⟩:=afX
    have esm:(if x<18446744073709551616 then x else 0)=x:=if_pos ant
    have esn:(if y<18446744073709551616 then y else 0)=y:=if_pos akN
    refine aL ?_
    refine jL (fun(p q:Nat) L=>(((St.mk L.slot (hp [])).put (some 5) (cC p)).put (some 7) (cC q))) (fun p q=>Nat.gcd p q=Nat.gcd m n/\p<18446744073709551616/\q<18446744073709551616) (fun p q=>q) x y ⟨hg,ant,akN⟩ ?_
    rintro p q L2 ⟨uB,hm,hn⟩
    refine aR ?_
    refine aC rfl ?_ ?_<;>intro aeG yL
    ·refine aJ ?_
     refine aY 6 an ?_
     refine bq ?_
     exact fU q (p % q) ⟨by rw [Nat.gcd_comm,<-Nat.gcd_rec,Nat.gcd_comm];exact uB,hn,by have:=Nat.mod_lt p (show q > 0 by omega);omega⟩ (hm:=Nat.mod_lt _ J)
    ·obtain rfl:q=0:=by omega
     refine bf ?_
     refine cp aK (aab _ J) ?_
     refine bq ?_
     rw [<-uB,Nat.gcd_zero_right]
     exact dC
   ·refine az ?_
    refine cp aq (ajq _ _ J J (by first | assumption | omega)) ?_
    refine im ?_
    exact fU y (x % y) ⟨by rw [Nat.gcd_comm,<-Nat.gcd_rec,Nat.gcd_comm];exact hg,hy,Nat.le_trans (mO (Nat.le_of_lt (Nat.mod_lt x gW))) hy⟩ (hm:=Nat.mod_lt _ gW)
 ·have gW:y=0:=pw.1 (List.eq_nil_of_length_eq_zero J)
  refine bu ?_
  subst gW
  rw [<-hg,Nat.gcd_zero_right]
  exact dC
section
variable {q a b:Rat}
theorem ayv:(-q<0)↔0<q:=by grind
theorem ahd {n:Nat}:0<(al n).length↔0<n:=by
 constructor
 ·intro h;exact Nat.pos_of_ne_zero (fun e=>by rw [e,tc] at h;cases h)
 ·intro h;exact List.length_pos_iff.2 (fun e=>by have:=pw.1 e;omega)
theorem aAx:0<q↔0<q.num:=by rw [Rat.lt_iff];simp
theorem af7 (h:(!decide (q<0))=true):decide (((al q.num.natAbs).length:Int) > 0)=decide (-q<0):=by
 rw [decide_eq_decide,ayv,aAx]
 have h1:¬ q<0:=by simpa using h
 rw [aff] at h1
 have:=ahd (n:=q.num.natAbs)
 omega
theorem ae5 (h:(!decide (q<0))=false):false=decide (-q<0):=by
 have h1:q<0:=by simpa using h
 symm;rw [decide_eq_false_iff_not];grind
theorem aBy (s:Bool) (h:s=decide (-q<0)):ae (-q)=.agg [.v (.bool s),ba q.num.natAbs,ba (iG q)]:=by
 rw [sB,h,tG,tG,Rat.neg_num,Int.natAbs_neg,Rat.neg_den]
theorem age:a=b↔decide (a<0)=decide (b<0)/\a.num.natAbs=b.num.natAbs/\iG a=iG b:=by
 constructor
 ·rintro rfl;exact⟨rfl,rfl,rfl⟩
 ·rintro⟨h1,h2,h3⟩
  have hd:a.den=b.den:=ag4 (by rw [h3])
  rw [<-kU a,<-kU b,h1,h2,hd]
theorem akl {m n:Nat}:(iT m n==0)=decide (m=n):=by
 rw [Bool.eq_iff_iff,beq_iff_eq,decide_eq_true_iff];unfold iT;split
 ·omega
 ·split<;>omega
theorem anw (h:(decide (a<0)==decide (b<0))=false):false=decide (a=b):=by
 symm;rw [decide_eq_false_iff_not,age];intro h2;rw [h2.1] at h;simp at h
theorem awa (h2:(iT a.num.natAbs b.num.natAbs==0)=false):false=decide (a=b):=by
 rw [akl] at h2
 symm;rw [decide_eq_false_iff_not,age];intro h3;rw [decide_eq_false_iff_not] at h2;exact h2 h3.2.1
theorem awt (h:(decide (a<0)==decide (b<0))=true) (h2:(iT a.num.natAbs b.num.natAbs==0)=true):(iT (iG a) (iG b)==0)=decide (a=b):=by
 rw [akl] at h2 ⊢
 rw [decide_eq_decide,age]
 exact⟨fun h3=>⟨eq_of_beq h,of_decide_eq_true h2,h3⟩,fun h3=>h3.2.2⟩
end
end Go.Proofs.YtckppbhafancnaaGreat
namespace Go.Lg
open Go.Proofs.YtckppbhafancnaaGreat in
theorem fI.adT {P:Program} {L:St} {dst:Option Nat} {T:TypeId} {p x:Operand} {b:Nat} {q:Rat} {s:Bool} (hp:L.ev p=.aA b 3 0 0) (hb:L.heap b=some ⟨3,[ae q],true⟩) (hx:L.ev x=.v (.bool s)) (hT:bp P T 1 false)
  (hs:s=decide (-q<0)):fI P L dst (.store T p x) ((L.bG b (some ⟨3,[ae (-q)],true⟩)).put dst .any):=by
 have h0:LV.put (ae q) 0 (L.ev x)=some (ae (-q)):=by
  rw [hx,aBy s hs,sB q]
  have e1:∀ n,(ba n).au=1:=fun _=>rfl
  simp [LV.put,uE,cF,LV.au,LV.isAgg]
 exact fI.store (P:=P) (dst:=dst) (T:=T) (p:=p) (x:=x) (y:=ae q) (y':=ae (-q)) hp hb rfl rfl rfl (ao.au _) h0 (by rw [hx];exact hT) (by rw [hx];exact⟨(fun h=>by cases h),(fun _ h=>by cases h)⟩)
end Go.Lg
namespace Go.Proofs.YtckppbhafancnaaGreat
open Go.Lg
theorem aCC {n:Int} (h1:-9223372036854775808<=n) (h2:n<0):IntKind.i64.wrap (0-(n+1))=(((-(n+1)).toNat:Nat):Int):=by
 rw [IntWalk.i64_in _ J];omega
open H0 in
theorem ve (q:Rat):av Tryz.prog 137 [ae q] (ba q.den):=by
 refine aN Tryz.func137 ?_
 refine gy ?_
 refine aC rfl ?_ ?_<;>intro tE h6
 ·have ks:=ag7 (show (al (iG q)).length=0 by omega)
  refine bf ?_
  rw [ks,show ba 1=.list 1 ([1].map bh) from rfl]
  exact mL [7] rfl rfl (eM eZ rfl rfl rfl)
 ·have ks:=afz (q:=q) J
  refine bB ?_
  rw [<-ks]
  exact dC
namespace arG
theorem aH {p q:Prop} (k:q) (e:p=q:=by simp only [e1,e2,e3,e4,p1,p2,p3,q1,q2,q3,l1,t0,t1,r1,r2,r3,r4,Nat.zero_add,Nat.reduceMul,Nat.reduceAdd,b1,b2,b3,b4,b5,b6,i1,i2,i3,i4,i5,i6,Nat.reduceBEq,fc,bU,wP];exact rfl):p:=e.mpr k
end arG
open arG in
theorem aaH (s:Bool) (m n:Nat) (fb:(al m).length<=68719476736) (lg:(al n).length<=68719476736) (gU:0<n):av Tryz.prog 138 [bL s,ba m,ba n] (ae (qv s m n)):=by
 refine aN Tryz.func138 ?_
 refine bf ?_
 refine cp aK (s7 _ (cE _) J) ?_
 refine ar ?_
 refine cp aK (s7 _ (cE _) J) ?_
 refine bu ?_
 refine aC rfl ?_ ?_<;>intro oI kg
 ·have hm:m=0:=pw.1 (List.eq_nil_of_length_eq_zero J)
  refine bf ?_
  rw [hm,ac3,oa]
  exact aaP
 ·have fX:0<m:=ahd.1 J
  have hg:0<Nat.gcd m n:=Nat.gcd_pos_of_pos_left _ fX
  have hE:=adJ s fX gU
  have hgl:(al (Nat.gcd m n)).length<=68719476736:=Nat.le_trans (mO (Nat.le_of_dvd fX (Nat.gcd_dvd_left _ _))) fb
  have x7:(al (m/Nat.gcd m n)).length<=68719476736:=Nat.le_trans (mO (Nat.div_le_self _ _)) fb
  have hqb:(al (n/Nat.gcd m n)).length<=68719476736:=Nat.le_trans (mO (Nat.div_le_self _ _)) lg
  have aBG:=xj (n:=Nat.gcd m n)
  refine az ?_
  refine cp aq (aui _ _ J J) ?_
  refine aZ ?_
  refine fZ (fun L=>∃ (t:Bool) (L1:St),(t=decide (Nat.gcd m n≠1))/\L=(((((((St.mk L1.slot (hp [(6,⟨3,[.agg [.v (.bool false),.list 1 [],.list 1 []]],true⟩)])).put (some 0) (bL s)).put (some 1) (ba m)).put (some 2) (ba n)).put (some 6) (.aA 6 3 0 0)).put (some 7) (ba (Nat.gcd m n))).put (some 27) (bL t))) ?_ ?_
  ·refine aZ ?_
   refine dy 22 rfl ?_ ?_<;>intro ads h22
   ·refine aR ?_
    exact⟨true,_,by symm;rw [decide_eq_true_iff];intro e;rw [e,aeg] at h22;exact h22 rfl,((aj (aj (aj (aj (aj (aj (bC cl) cl) cl) cl) cl) cl) cl)).symm⟩
   ·refine aR ?_
    exact⟨(((al (Nat.gcd m n)).getD 0 0:Int) != 1),_,by have:=(aBG J).1;rw [Bool.eq_iff_iff,bne_iff_ne,decide_eq_true_iff];omega,((aj (aj (aj (aj (aj (aj (bC cl) cl) cl) cl) cl) cl) cl)).symm⟩
  ·rintro _ ⟨t,LR5,ht,rfl⟩
   refine ar ?_
   refine fZ (fun L=>∃ (x:Nat) (y:Nat) (L1:St),(x=m/Nat.gcd m n/\y=n/Nat.gcd m n)/\L=(((((St.mk L1.slot (hp [(6,⟨3,[.agg [.v (.bool false),.list 1 [],.list 1 []]],true⟩)])).put (some 0) (bL s)).put (some 1) (ba x)).put (some 2) (ba y)).put (some 6) (.aA 6 3 0 0))) ?_ ?_
   ·refine aC rfl ?_ ?_<;>intro u4 h27
    ·refine ax ?_
     refine cp aq (ajq _ _ J J hg) ?_
     refine bB ?_
     refine cp aq (ajq _ _ J J hg) ?_
     refine aR ?_
     exact⟨m/Nat.gcd m n,n/Nat.gcd m n,_,⟨rfl,rfl⟩,((aj (aj (aj (aj (bC cl) cl) cl) cl) cl)).symm⟩
    ·have l9:Nat.gcd m n=1:=by rw [ht,decide_eq_false_iff_not] at u4;omega
     refine aL ?_
     exact⟨m,n,_,⟨by rw [l9,Nat.div_one],by rw [l9,Nat.div_one]⟩,((aj (aj (aj (aj (bC cl) cl) cl) cl) cl)).symm⟩
   ·rintro _ ⟨x,y,aAs,⟨hx,hy⟩,rfl⟩
    rw [<-hx,<-hy] at hE
    have gW:0<y:=by rw [hy];exact Nat.div_pos (Nat.le_of_dvd gU (Nat.gcd_dvd_right _ _)) hg
    refine bf ?_
    refine dy 45 rfl ?_ ?_<;>intro aDs h45
    ·refine aR ?_
     refine aC rfl ?_ ?_<;>intro aDx h50
     ·have jZ:y=1:=by have:=(xj (n:=y) J).1;omega
      refine dj ?_
      rw [hE,if_pos jZ]
      exact fW [] rfl rfl rfl rfl rfl cJ (.agg (.cons (.pure rfl) (.cons (.pure (iN _)) (.cons (.nil 1) .nil))))
     ·have jZ:y≠1:=by have:=(xj (n:=y) J).1;omega
      refine bu ?_
      rw [hE,if_neg jZ]
      exact acG
    ·have jZ:y≠1:=fun e=>by rw [e,aeg] at h45;exact h45 rfl
     refine nj ?_
     rw [hE,if_neg jZ]
     exact acG
open H0 in
theorem aiK (n:Int) (h1:-9223372036854775808<=n) (h2:n<=9223372036854775807):av Tryz.prog 36 [iL n] (.a7 [ba n.natAbs,bL (decide (n<0))]):=by
 refine aN Tryz.func36 ?_
 refine dp ?_
 refine aC rfl ?_ ?_<;>intro h5r h5
 ·refine ax ?_
  refine ak rfl (.neg rfl) ?_
  refine ak rfl (.aep (n:=(-(n+1)).toNat) Tryz.underlying2 Tryz.underlying134 (by simp only [e1,p1,p2,Nat.reduceBEq];rw [aCC h1 h5]) J) ?_
  refine ak rfl (.bin rfl rfl (aql (show (-(n+1)).toNat+1<18446744073709551616 by omega))) ?_
  refine cp aK (aab ((-(n+1)).toNat+1) J) ?_
  refine az ?_
  rw [decide_eq_true h5,show n.natAbs=(-(n+1)).toNat+1 by omega]
  exact tU rfl (.pure (iN _)) rfl (.pure rfl)
 ·refine aZ ?_
  refine ak rfl (.aep (n:=n.natAbs) Tryz.underlying2 Tryz.underlying134 (by simp only [e1,p1,p2,Nat.reduceBEq];rw [show ((n.natAbs:Nat):Int)=n by omega];rfl) J) ?_
  refine cp aK (aab n.natAbs J) ?_
  refine aZ ?_
  rw [decide_eq_false h5]
  exact tU rfl (.pure (iN _)) rfl (.pure rfl)
open H0 in
theorem aAz (n d:Int) (h1:-9223372036854775808<=n) (h2:n<=9223372036854775807) (h3:-9223372036854775808<=d) (h4:d<=9223372036854775807) (hd:d≠0):av Tryz.prog 78 [iL n,iL d] (.a7 [ae ((n:Rat)/(d:Rat)),iL 0]):=by
 refine aN Tryz.func78 ?_
 refine dp ?_
 refine aC rfl ?_ ?_<;>intro aey zi
 ·exact absurd zi hd
 ·refine aZ ?_
  refine cp aK (aiK _ J J) ?_
  refine bB ?_
  refine cp aK (aiK _ J J) ?_
  refine dj ?_
  refine cp fJ (aaH (decide (n<0) != decide (d<0)) n.natAbs d.natAbs (Nat.le_trans (xe.2 J) J) (Nat.le_trans (xe.2 J) J) J) ?_
  refine aZ ?_
  rw [<-ac1]
  exact ac0
open H0 in
theorem zf (n d:Int) (h1:-9223372036854775808<=n) (h2:n<=9223372036854775807) (h3:-9223372036854775808<=d) (h4:d<=9223372036854775807) (hd:d≠0):av Tryz.prog 35 [iL n,iL d] (ae ((n:Rat)/(d:Rat))):=by
 refine aN Tryz.func35 ?_
 refine bq ?_
 refine cp aq (aAz _ _ J J J J J) ?_
 refine gy ?_
 exact fq
open H0 in
theorem oQ (n:Int) (h1:-9223372036854775808<=n) (h2:n<=9223372036854775807):av Tryz.prog 13 [iL n] (ae (n:Rat)):=by
 refine aN Tryz.func13 ?_
 refine bf ?_
 refine cp aK (aiK _ J J) ?_
 refine mH ?_
 rw [<-acs n]
 have hz:n.natAbs=0\/0<n.natAbs:=by omega
 rcases hz with hz | hz
 ·obtain rfl:n=0:=by omega
  rw [show qv (decide ((0:Int)<0)) (0:Int).natAbs 1=0 from ac3 _ _,oa]
  exact aaP
 ·rw [adJ _ hz J,Nat.gcd_one_right,Nat.div_one,if_pos J]
  exact fW [] rfl rfl rfl rfl rfl cJ (.agg (.cons (.pure rfl) (.cons (.pure (iN _)) (.cons (.pure rfl) .nil))))
open H0 in
theorem avB (a b:Rat) (h:rl a+rl b<=1099511627776):av Tryz.prog 21 [ae a,ae b] (bL (decide (a=b))):=by
 have a1:=kY a
 have a3:=lK a
 have c1:=kY b
 have c3:=lK b
 refine aN Tryz.func21 ?_
 refine gy ?_
 refine dy 10 rfl ?_ ?_<;>intro l8 rC
 ·refine ax ?_
  refine cp aq (zy _ _ J J) ?_
  refine aJ ?_
  refine dy 18 rfl ?_ ?_<;>intro rz rp
  ·refine ax ?_
   refine cp aq (zy _ _ J J) ?_
   refine az ?_
   rw [<-awt l8 rz]
   exact dC
  ·refine bo ?_
   rw [<-awa rz]
   exact dC
 ·refine nh ?_
  rw [<-anw l8]
  exact dC
open H0 in
theorem akz (q:Rat):av Tryz.prog 70 [ae q] (iL (cM q)):=by
 have hq:=aq1 q
 refine aN Tryz.func70 ?_
 refine gy ?_
 refine aC rfl ?_ ?_<;>intro tE h6
 ·have hz:q.num.natAbs=0:=pw.1 (List.eq_nil_of_length_eq_zero J)
  refine aR ?_
  rw [hq,if_pos hz]
  exact dC
 ·have hz:q.num.natAbs≠0:=fun e=>by rw [e,tc] at h6;exact h6 rfl
  refine bq ?_
  refine aC rfl ?_ ?_<;>intro mX h8
  ·refine aR ?_
   rw [hq,if_neg hz,if_pos h8]
   exact dC
  ·refine bf ?_
   rw [hq,if_neg hz,if_neg h8]
   exact dC
open H0 in
theorem ava (q:Rat):av Tryz.prog 129 [ae q] (ae (-q)):=by
 refine aN Tryz.func129 ?_
 refine bu ?_
 refine dy 6 rfl ?_ ?_<;>intro tE h6
 ·refine az ?_
  refine bI rfl (.adT rfl rfl rfl T4 (by first | exact af7 tE | exact ae5 tE)) ?_
  refine bq ?_
  exact fq
 ·refine az ?_
  refine bI rfl (.adT rfl rfl rfl T4 (by first | exact af7 tE | exact ae5 tE)) ?_
  refine bq ?_
  exact fq
open H0 in
theorem rE (a b:Rat) (h:rl a+rl b<=34359738368):av Tryz.prog 60 [ae a,ae b] (ae (a*b)):=by
 have a1:=kY a
 have a2:=mE a
 have a3:=lK a
 have c1:=kY b
 have c2:=mE b
 have c3:=lK b
 have a0:=a.den_pos
 have c0:=b.den_pos
 have m1:=dW a1 c2
 have m2:=dW c1 a2
 have m3:=dW a2 c2
 have m4:=dW a1 c1
 have m5:=dW a2 c1
 have m6:=dW c2 a2
 have np:=Nat.mul_pos a0 c0
 have hE:=afF (decide (a<0)) (decide (b<0)) a.num.natAbs a.den b.num.natAbs b.den
 rw [kU,kU] at hE
 refine aN Tryz.func60 ?_
 refine bf ?_
 refine aY 16 an ?_
 refine bq ?_
 refine cp aq (uD _ _ J J) ?_
 refine ar ?_
 refine cp aK (ve _) ?_
 refine ar ?_
 refine cp aK (ve _) ?_
 refine cp aq (uD _ _ J J) ?_
 refine cp fJ (aaH _ _ _ J J np) ?_
 refine ax ?_
 rw [hE]
 exact fq
open H0 in
theorem ami (a b:Rat) (h:rl a+rl b<=34359738368):av Tryz.prog 226 [ae a,ae b] (.a7 [ae (a/b),iL (if b=0 then 3 else 0)]):=by
 have a1:=kY a
 have a2:=mE a
 have a3:=lK a
 have c1:=kY b
 have c2:=mE b
 have c3:=lK b
 have a0:=a.den_pos
 have c0:=b.den_pos
 have m1:=dW a1 c2
 have m2:=dW c1 a2
 have m3:=dW a2 c2
 have m4:=dW a1 c1
 have m5:=dW a2 c1
 have m6:=dW c2 a2
 have np:=Nat.mul_pos a0 c0
 have hE:=afO (decide (a<0)) (decide (b<0)) a.num.natAbs a.den b.num.natAbs b.den
 rw [kU,kU] at hE
 refine aN Tryz.func226 ?_
 refine im ?_
 refine aC rfl ?_ ?_<;>intro ta h9
 ·have hz:=wi (q:=b) J
  refine bq ?_
  subst hz
  rw [show a/0=0 by rw [Rat.div_def];simp,oa]
  exact sN [] rfl rfl rfl rfl rfl cJ (.pure rfl) rfl (.pure rfl)
 ·have fo:0<b.num.natAbs:=ahd.1 J
  have hz:b≠0:=by rintro rfl;exact absurd fo ai
  refine aJ ?_
  refine aY 16 an ?_
  refine bf ?_
  refine cp aK (ve _) ?_
  refine cp aq (uD _ _ J J) ?_
  refine ar ?_
  refine cp aK (ve _) ?_
  refine aL ?_
  refine cp aq (uD _ _ J J) ?_
  refine cp fJ (aaH _ _ _ J J (Nat.mul_pos a0 fo)) ?_
  refine aZ ?_
  rw [hE,if_neg hz]
  exact ac0
open H0 in
theorem avA (a b:Rat) (h:rl a+rl b<=34359738368):av Tryz.prog 128 [ae a,ae b] (ae (a/b)):=by
 refine aN Tryz.func128 ?_
 refine bo ?_
 refine cp aq (ami _ _ J) ?_
 refine gy ?_
 exact fq
namespace apU
theorem aH {p q:Prop} (k:q) (e:p=q:=by simp only [e1,e2,e3,e4,p1,p2,p3,q1,q2,q3,l1,t0,t1,r1,r2,r3,r4,Nat.zero_add,Nat.reduceMul,Nat.reduceAdd,b1,b2,b3,b4,b5,b6,i1,i2,i3,i4,i5,i6,Nat.reduceBEq,bU,xg];exact rfl):p:=e.mpr k
end apU
open apU in
theorem nz (a b:Rat) (h:rl a+rl b<=34359738368):av Tryz.prog 59 [ae a,ae b] (ae (a+b)):=by
 have a1:=kY a
 have a2:=mE a
 have a3:=lK a
 have c1:=kY b
 have c2:=mE b
 have c3:=lK b
 have a0:=a.den_pos
 have c0:=b.den_pos
 have m1:=dW a1 c2
 have m2:=dW c1 a2
 have m3:=dW a2 c2
 have m4:=dW a1 c1
 have m5:=dW a2 c1
 have m6:=dW c2 a2
 have np:=Nat.mul_pos a0 c0
 have m7:(al (a.num.natAbs*b.den+b.num.natAbs*a.den)).length<=rl a+rl b+1:=ajr m1 J
 have ls1:(al (a.num.natAbs*b.den-b.num.natAbs*a.den)).length<=rl a+rl b:=Nat.le_trans (mO (Nat.sub_le _ _)) m1
 have ls2:(al (b.num.natAbs*a.den-a.num.natAbs*b.den)).length<=rl b+rl a:=Nat.le_trans (mO (Nat.sub_le _ _)) m2
 refine aN Tryz.func59 ?_
 have xg:True:=trivial
 refine mH ?_
 refine aC rfl ?_ ?_<;>intro nH lJ
 ·have hz:=wi (q:=a) J
  refine bf ?_
  rw [hz,Rat.zero_add]
  exact fq
 ·refine bo ?_
  refine aC rfl ?_ ?_<;>intro yZ y8
  ·have hz:=wi (q:=b) J
   refine bf ?_
   rw [hz,Rat.add_zero]
   exact fq
  ·refine aJ ?_
   refine aY 12 an ?_
   refine aJ ?_
   refine cp aK (ve _) ?_
   refine cp aq (uD _ _ J J) ?_
   refine aJ ?_
   refine cp aK (ve _) ?_
   refine cp aq (uD _ _ J J) ?_
   refine aZ ?_
   refine aY 6 an ?_
   refine ar ?_
   refine cp aK (ve _) ?_
   refine ar ?_
   refine cp aK (ve _) ?_
   refine cp aq (uD _ _ J J) ?_
   refine dp ?_
   refine aC rfl ?_ ?_<;>intro aaF h41
   ·refine ar ?_
    refine aY 7 an ?_
    refine ax ?_
    refine cp aq (auP _ _ J J) ?_
    refine ar ?_
    refine cp fJ (aaH _ _ _ J J np) ?_
    refine aZ ?_
    have E:=add_same (k:=1) (x:=a.num.natAbs*b.den) (y:=b.num.natAbs*a.den) (d:=a.den*b.den) J (Nat.mul_one _) (Nat.mul_one _) (Nat.mul_one _) (eq_of_beq aaF)
    rw [ae9,<-eq_of_beq aaF] at E
    rw [E]
    exact fq
   ·refine aR ?_
    refine cp aq (zy _ _ J J) ?_
    refine aJ ?_
    refine aC rfl ?_ ?_<;>intro aDB h52
    ·have bE:a.num.natAbs*b.den<b.num.natAbs*a.den:=by unfold iT at h52;split at h52;assumption;split at h52<;>omega
     have xg:=ab1 (Nat.le_of_lt bE)
     refine ax ?_
     refine cp aq (alf _ _ J J) ?_
     refine dp ?_
     refine cp fJ (aaH _ _ _ J J np) ?_
     refine aZ ?_
     have E:=ajD (k:=1) (x:=a.num.natAbs*b.den) (y:=b.num.natAbs*a.den) (d:=a.den*b.den) J (Nat.mul_one _) (Nat.mul_one _) (Nat.mul_one _) (aaN aaF) (Nat.le_of_lt bE)
     rw [ae9] at E
     rw [E]
     exact fq
    ·have hle:b.num.natAbs*a.den<=a.num.natAbs*b.den:=by
      rcases Nat.lt_or_ge (a.num.natAbs*b.den) (b.num.natAbs*a.den) with h | h
      ·rw [ot h] at h52;omega
      ·exact h
     have xg:=ab1 hle
     refine az ?_
     refine cp aq (alf _ _ J J) ?_
     refine dp ?_
     refine cp fJ (aaH _ _ _ J J np) ?_
     refine ax ?_
     have E:=aie (k:=1) (x:=a.num.natAbs*b.den) (y:=b.num.natAbs*a.den) (d:=a.den*b.den) J (Nat.mul_one _) (Nat.mul_one _) (Nat.mul_one _) (aaN aaF) hle
     rw [ae9] at E
     rw [E]
     exact fq
open H0 in
theorem xi (a b:Rat) (h:rl a+rl b<=34359738368):av Tryz.prog 62 [ae a,ae b] (ae (a-b)):=by
 refine aN Tryz.func62 ?_
 refine bf ?_
 refine aY 4 an ?_
 refine aL ?_
 refine cp aK (ava _) ?_
 refine cp aq (nz _ _ (by rw [afa];omega)) ?_
 refine ax ?_
 rw [Rat.sub_eq_add_neg]
 exact fq
open H0 in
theorem acu (a b:Rat) (h:rl a+rl b<=34359738368):av Tryz.prog 58 [ae a,ae b] (iL (fi a b)):=by
 have a1:=kY a
 have a2:=mE a
 have a3:=lK a
 have c1:=kY b
 have c2:=mE b
 have c3:=lK b
 have a0:=a.den_pos
 have c0:=b.den_pos
 have m1:=dW a1 c2
 have m2:=dW c1 a2
 have m3:=dW a2 c2
 have m4:=dW a1 c1
 have m5:=dW a2 c1
 have m6:=dW c2 a2
 have np:=Nat.mul_pos a0 c0
 refine aN Tryz.func58 ?_
 refine bq ?_
 refine aY 6 an ?_
 refine ar ?_
 refine cp aK (akz _) ?_
 refine ar ?_
 refine cp aK (akz _) ?_
 refine bo ?_
 refine aC rfl ?_ ?_<;>intro oI kg
 ·refine bf ?_
  refine aC rfl ?_ ?_<;>intro abb yU
  ·refine bf ?_
   rw [aox yU]
   exact dC
  ·refine bq ?_
   rw [al6 J]
   exact dC
 ·have mi:cM a=cM b:=by omega
  obtain⟨c,hc⟩:∃ c,c=iT (a.num.natAbs*b.den) (b.num.natAbs*a.den):=⟨_,rfl⟩
  refine aJ ?_
  refine aY 12 an ?_
  refine aJ ?_
  refine cp aK (ve _) ?_
  refine cp aq (uD _ _ J J) ?_
  refine aJ ?_
  refine cp aK (ve _) ?_
  refine cp aq (uD _ _ J J) ?_
  refine cp aq (zy _ _ J J) ?_
  refine bB ?_
  refine aC rfl ?_ ?_<;>intro abB yb
  ·refine bq ?_
   rw [afl mi,if_pos yb,<-akn rfl]
   exact dC
  ·refine bq ?_
   rw [afl mi,if_neg yb]
   exact dC
end Go.Proofs.YtckppbhafancnaaGreat
end
