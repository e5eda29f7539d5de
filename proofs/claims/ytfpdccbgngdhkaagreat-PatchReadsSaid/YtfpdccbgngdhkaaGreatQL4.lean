/- Texts LgTy, N1, N2, N3, N4, N5, N6, N7, N8, N9, N10, N11, R1, R2, R3, R4 of this proof, joined. -/
import Derived.Test.YtfpdccbgngdhkaaGreatQL3
import Derived.Test.YtfpdccbgngdhkaaGreatChecked
set_option linter.unusedVariables false
set_option linter.unusedSimpArgs false
section
set_option linter.unusedVariables false
set_option linter.unusedSimpArgs false
set_option maxHeartbeats 8000000
set_option maxRecDepth 100000
namespace Go.Proofs.YtfpdccbgngdhkaaGreat
open Go.Lg
theorem EM:Tryz.prog.follows .mixedOrders=true:=by kernel_rfl
instance:UN Tryz.prog 2 (.int .i64):=⟨Tryz.underlying2⟩
theorem T2:bj Tryz.prog 2 1 false:=⟨by kernel_rfl,_,Tryz.underlying2,rfl⟩
theorem B2:a7 Tryz.prog 2 8:=⟨Tryz.t2,by kernel_rfl,rfl⟩
theorem Z2:aT Tryz.prog 2 (.v (.int .i64 0)):=⟨Tryz.t2,_,by kernel_rfl,rfl,rfl,fun _ _ _=>bP rfl⟩
instance:TI Tryz.prog 2 1 false:=⟨T2⟩
instance:BI Tryz.prog 2 8:=⟨B2⟩
instance:ZI Tryz.prog 2 (.v (.int .i64 0)):=⟨Z2⟩
instance:UN Tryz.prog 3 (.int .i64):=⟨Tryz.underlying3⟩
theorem T3:bj Tryz.prog 3 1 false:=⟨by kernel_rfl,_,Tryz.underlying3,rfl⟩
theorem B3:a7 Tryz.prog 3 8:=⟨Tryz.t3,by kernel_rfl,rfl⟩
theorem Z3:aT Tryz.prog 3 (.v (.int .i64 0)):=⟨Tryz.t3,_,by kernel_rfl,rfl,rfl,fun _ _ _=>bP rfl⟩
instance:TI Tryz.prog 3 1 false:=⟨T3⟩
instance:BI Tryz.prog 3 8:=⟨B3⟩
instance:ZI Tryz.prog 3 (.v (.int .i64 0)):=⟨Z3⟩
instance:UN Tryz.prog 4 .bool:=⟨Tryz.underlying4⟩
theorem T4:bj Tryz.prog 4 1 false:=⟨by kernel_rfl,_,Tryz.underlying4,rfl⟩
theorem B4:a7 Tryz.prog 4 1:=⟨Tryz.t4,by kernel_rfl,rfl⟩
theorem Z4:aT Tryz.prog 4 (.v (.bool false)):=⟨Tryz.t4,_,by kernel_rfl,rfl,rfl,fun _ _ _=>bP rfl⟩
instance:TI Tryz.prog 4 1 false:=⟨T4⟩
instance:BI Tryz.prog 4 1:=⟨B4⟩
instance:ZI Tryz.prog 4 (.v (.bool false)):=⟨Z4⟩
instance:UN Tryz.prog 5 (.int .u8):=⟨Tryz.underlying5⟩
theorem T5:bj Tryz.prog 5 1 false:=⟨by kernel_rfl,_,Tryz.underlying5,rfl⟩
theorem B5:a7 Tryz.prog 5 1:=⟨Tryz.t5,by kernel_rfl,rfl⟩
theorem Z5:aT Tryz.prog 5 (.v (.int .u8 0)):=⟨Tryz.t5,_,by kernel_rfl,rfl,rfl,fun _ _ _=>bP rfl⟩
instance:TI Tryz.prog 5 1 false:=⟨T5⟩
instance:BI Tryz.prog 5 1:=⟨B5⟩
instance:ZI Tryz.prog 5 (.v (.int .u8 0)):=⟨Z5⟩
instance:UN Tryz.prog 9 .string:=⟨Tryz.underlying9⟩
theorem T9:bj Tryz.prog 9 1 false:=⟨by kernel_rfl,_,Tryz.underlying9,rfl⟩
theorem B9:a7 Tryz.prog 9 16:=⟨Tryz.t9,by kernel_rfl,rfl⟩
theorem Z9:aT Tryz.prog 9 (.v (.string ⟨#[]⟩)):=⟨Tryz.t9,_,by kernel_rfl,rfl,rfl,fun _ _ _=>bP rfl⟩
instance:TI Tryz.prog 9 1 false:=⟨T9⟩
instance:BI Tryz.prog 9 16:=⟨B9⟩
instance:ZI Tryz.prog 9 (.v (.string ⟨#[]⟩)):=⟨Z9⟩
instance:UN Tryz.prog 12 (.int .u64):=⟨Tryz.underlying12⟩
theorem JL:bj Tryz.prog 12 1 false:=⟨by kernel_rfl,_,Tryz.underlying12,rfl⟩
theorem I5:a7 Tryz.prog 12 8:=⟨Tryz.t12,by kernel_rfl,rfl⟩
theorem IZ:aT Tryz.prog 12 (.v (.int .u64 0)):=⟨Tryz.t12,_,by kernel_rfl,rfl,rfl,fun _ _ _=>bP rfl⟩
instance:TI Tryz.prog 12 1 false:=⟨JL⟩
instance:BI Tryz.prog 12 8:=⟨I5⟩
instance:ZI Tryz.prog 12 (.v (.int .u64 0)):=⟨IZ⟩
theorem JD:bj Tryz.prog 15 1 false:=⟨by kernel_rfl,_,Tryz.underlying15,rfl⟩
theorem JH:a7 Tryz.prog 15 8:=⟨Tryz.t15,by kernel_rfl,rfl⟩
theorem JB:aT Tryz.prog 15 (.v (.pointer none)):=⟨Tryz.t15,_,by kernel_rfl,rfl,rfl,fun _ _ _=>bP rfl⟩
instance:TI Tryz.prog 15 1 false:=⟨JD⟩
instance:BI Tryz.prog 15 8:=⟨JH⟩
instance:ZI Tryz.prog 15 (.v (.pointer none)):=⟨JB⟩
theorem Jv:bj Tryz.prog 16 1 false:=⟨by kernel_rfl,_,Tryz.underlying16,rfl⟩
theorem I2:a7 Tryz.prog 16 8:=⟨Tryz.t16,by kernel_rfl,rfl⟩
theorem Jx:aT Tryz.prog 16 (.v (.pointer none)):=⟨Tryz.t16,_,by kernel_rfl,rfl,rfl,fun _ _ _=>bP rfl⟩
instance:TI Tryz.prog 16 1 false:=⟨Jv⟩
instance:BI Tryz.prog 16 8:=⟨I2⟩
instance:ZI Tryz.prog 16 (.v (.pointer none)):=⟨Jx⟩
theorem IS:bj Tryz.prog 17 1 false:=⟨by kernel_rfl,_,Tryz.underlying17,rfl⟩
theorem JS:a7 Tryz.prog 17 8:=⟨Tryz.t17,by kernel_rfl,rfl⟩
theorem JE:aT Tryz.prog 17 (.v (.pointer none)):=⟨Tryz.t17,_,by kernel_rfl,rfl,rfl,fun _ _ _=>bP rfl⟩
instance:TI Tryz.prog 17 1 false:=⟨IS⟩
instance:BI Tryz.prog 17 8:=⟨JS⟩
instance:ZI Tryz.prog 17 (.v (.pointer none)):=⟨JE⟩
theorem Jp:bj Tryz.prog 19 1 true:=⟨by kernel_rfl,_,Tryz.underlying19,rfl⟩
theorem Jn:a7 Tryz.prog 19 8:=⟨Tryz.t19,by kernel_rfl,rfl⟩
theorem JW:aT Tryz.prog 19 (.agg [.v (.pointer none)]):=⟨Tryz.t19,_,by kernel_rfl,rfl,rfl,fun _ _ _=>bp (aF (c1:=[.pointer none]) rfl (bP rfl) (bR))⟩
instance:TI Tryz.prog 19 1 true:=⟨Jp⟩
instance:BI Tryz.prog 19 8:=⟨Jn⟩
instance:ZI Tryz.prog 19 (.agg [.v (.pointer none)]):=⟨JW⟩
theorem HC:ck Tryz.prog 19 [(1,false)]:=⟨_,Tryz.underlying19,⟨rfl,IS,trivial⟩,by decide⟩
instance:SI Tryz.prog 19 [(1,false)]:=⟨HC⟩
instance:UN Tryz.prog 21 (.int .i32):=⟨Tryz.underlying21⟩
theorem I9:bj Tryz.prog 21 1 false:=⟨by kernel_rfl,_,Tryz.underlying21,rfl⟩
theorem IW:a7 Tryz.prog 21 4:=⟨Tryz.t21,by kernel_rfl,rfl⟩
theorem Jc:aT Tryz.prog 21 (.v (.int .i32 0)):=⟨Tryz.t21,_,by kernel_rfl,rfl,rfl,fun _ _ _=>bP rfl⟩
instance:TI Tryz.prog 21 1 false:=⟨I9⟩
instance:BI Tryz.prog 21 4:=⟨IW⟩
instance:ZI Tryz.prog 21 (.v (.int .i32 0)):=⟨Jc⟩
instance:UN Tryz.prog 22 (.slice 3):=⟨Tryz.underlying22⟩
theorem IG:bj Tryz.prog 22 1 false:=⟨by kernel_rfl,_,Tryz.underlying22,rfl⟩
theorem Je:a7 Tryz.prog 22 24:=⟨Tryz.t22,by kernel_rfl,rfl⟩
theorem IU:aT Tryz.prog 22 (.v (.slice none 0 0)):=⟨Tryz.t22,_,by kernel_rfl,rfl,rfl,fun _ _ _=>bP rfl⟩
instance:TI Tryz.prog 22 1 false:=⟨IG⟩
instance:BI Tryz.prog 22 24:=⟨Je⟩
instance:ZI Tryz.prog 22 (.v (.slice none 0 0)):=⟨IU⟩
theorem I4:bj Tryz.prog 25 1 false:=⟨by kernel_rfl,_,Tryz.underlying25,rfl⟩
theorem JY:a7 Tryz.prog 25 8:=⟨Tryz.t25,by kernel_rfl,rfl⟩
theorem IX:aT Tryz.prog 25 (.v (.pointer none)):=⟨Tryz.t25,_,by kernel_rfl,rfl,rfl,fun _ _ _=>bP rfl⟩
instance:TI Tryz.prog 25 1 false:=⟨I4⟩
instance:BI Tryz.prog 25 8:=⟨JY⟩
instance:ZI Tryz.prog 25 (.v (.pointer none)):=⟨IX⟩
instance:UN Tryz.prog 27 (.slice 182):=⟨Tryz.underlying27⟩
theorem GZ:bj Tryz.prog 27 1 false:=⟨by kernel_rfl,_,Tryz.underlying27,rfl⟩
theorem Jq:a7 Tryz.prog 27 24:=⟨Tryz.t27,by kernel_rfl,rfl⟩
theorem JP:aT Tryz.prog 27 (.list 1 []):=⟨Tryz.t27,_,by kernel_rfl,rfl,rfl,fun _ _ _=>jX 1⟩
instance:TI Tryz.prog 27 1 false:=⟨GZ⟩
instance:BI Tryz.prog 27 24:=⟨Jq⟩
instance:ZI Tryz.prog 27 (.list 1 []):=⟨JP⟩
theorem bF:bj Tryz.prog 29 3 true:=⟨by kernel_rfl,_,Tryz.underlying29,rfl⟩
theorem f3:a7 Tryz.prog 29 56:=⟨Tryz.t29,by kernel_rfl,rfl⟩
theorem Hy:aT Tryz.prog 29 (ratL 0):=⟨Tryz.t29,_,by kernel_rfl,rfl,ah.pure 0,fun _ _ _=>aX⟩
theorem cz:aT Tryz.prog 29 (.agg [.v (.bool false),.list 1 [],.list 1 []]):=cL ▸ Hy
instance:TI Tryz.prog 29 3 true:=⟨bF⟩
instance:BI Tryz.prog 29 56:=⟨f3⟩
instance:ZI Tryz.prog 29 (.agg [.v (.bool false),.list 1 [],.list 1 []]):=⟨cz⟩
theorem lU:ck Tryz.prog 29 [(1,false),(1,false),(1,false)]:=⟨_,Tryz.underlying29,⟨rfl,T4,⟨rfl,GZ,⟨rfl,GZ,trivial⟩⟩⟩,by decide⟩
instance:SI Tryz.prog 29 [(1,false),(1,false),(1,false)]:=⟨lU⟩
instance:UN Tryz.prog 30 (.array 3 29):=⟨Tryz.underlying30⟩
theorem Jd:bj Tryz.prog 30 9 true:=⟨by kernel_rfl,_,Tryz.underlying30,rfl⟩
theorem Jz:a7 Tryz.prog 30 168:=⟨Tryz.t30,by kernel_rfl,rfl⟩
theorem Jb:aT Tryz.prog 30 (.agg [ratL 0,ratL 0,ratL 0]):=⟨Tryz.t30,_,by kernel_rfl,rfl,by simp [LV.pure,aD,ah.pure],fun _ _ _=>bp (aF (c1:=[.bool false,.slice none 0 0,.slice none 0 0]) (by simp [LV.csize,ay,ah.csize]) (aX) (aF (c1:=[.bool false,.slice none 0 0,.slice none 0 0]) (by simp [LV.csize,ay,ah.csize]) (aX) (aF (c1:=[.bool false,.slice none 0 0,.slice none 0 0]) (by simp [LV.csize,ay,ah.csize]) (aX) (bR))))⟩
instance:TI Tryz.prog 30 9 true:=⟨Jd⟩
instance:BI Tryz.prog 30 168:=⟨Jz⟩
instance:ZI Tryz.prog 30 (.agg [ratL 0,ratL 0,ratL 0]):=⟨Jb⟩
instance:UN Tryz.prog 31 (.array 3 29):=⟨Tryz.underlying31⟩
theorem lq:bj Tryz.prog 31 9 true:=⟨by kernel_rfl,_,Tryz.underlying31,rfl⟩
theorem Hc:a7 Tryz.prog 31 168:=⟨Tryz.t31,by kernel_rfl,rfl⟩
theorem F6:aT Tryz.prog 31 (.agg [ratL 0,ratL 0,ratL 0]):=⟨Tryz.t31,_,by kernel_rfl,rfl,by simp [LV.pure,aD,ah.pure],fun _ _ _=>bp (aF (c1:=[.bool false,.slice none 0 0,.slice none 0 0]) (by simp [LV.csize,ay,ah.csize]) (aX) (aF (c1:=[.bool false,.slice none 0 0,.slice none 0 0]) (by simp [LV.csize,ay,ah.csize]) (aX) (aF (c1:=[.bool false,.slice none 0 0,.slice none 0 0]) (by simp [LV.csize,ay,ah.csize]) (aX) (bR))))⟩
instance:TI Tryz.prog 31 9 true:=⟨lq⟩
instance:BI Tryz.prog 31 168:=⟨Hc⟩
instance:ZI Tryz.prog 31 (.agg [ratL 0,ratL 0,ratL 0]):=⟨F6⟩
instance:UN Tryz.prog 32 (.array 3 31):=⟨Tryz.underlying32⟩
theorem Iq:bj Tryz.prog 32 27 true:=⟨by kernel_rfl,_,Tryz.underlying32,rfl⟩
theorem It:a7 Tryz.prog 32 504:=⟨Tryz.t32,by kernel_rfl,rfl⟩
theorem Iz:aT Tryz.prog 32 (.agg [.agg [ratL 0,ratL 0,ratL 0],.agg [ratL 0,ratL 0,ratL 0],.agg [ratL 0,ratL 0,ratL 0]]):=⟨Tryz.t32,_,by kernel_rfl,rfl,by simp [LV.pure,aD,ah.pure],fun _ _ _=>bp (aF (c1:=[.bool false,.slice none 0 0,.slice none 0 0,.bool false,.slice none 0 0,.slice none 0 0,.bool false,.slice none 0 0,.slice none 0 0]) (by simp [LV.csize,ay,ah.csize]) (bp (aF (c1:=[.bool false,.slice none 0 0,.slice none 0 0]) (by simp [LV.csize,ay,ah.csize]) (aX) (aF (c1:=[.bool false,.slice none 0 0,.slice none 0 0]) (by simp [LV.csize,ay,ah.csize]) (aX) (aF (c1:=[.bool false,.slice none 0 0,.slice none 0 0]) (by simp [LV.csize,ay,ah.csize]) (aX) (bR))))) (aF (c1:=[.bool false,.slice none 0 0,.slice none 0 0,.bool false,.slice none 0 0,.slice none 0 0,.bool false,.slice none 0 0,.slice none 0 0]) (by simp [LV.csize,ay,ah.csize]) (bp (aF (c1:=[.bool false,.slice none 0 0,.slice none 0 0]) (by simp [LV.csize,ay,ah.csize]) (aX) (aF (c1:=[.bool false,.slice none 0 0,.slice none 0 0]) (by simp [LV.csize,ay,ah.csize]) (aX) (aF (c1:=[.bool false,.slice none 0 0,.slice none 0 0]) (by simp [LV.csize,ay,ah.csize]) (aX) (bR))))) (aF (c1:=[.bool false,.slice none 0 0,.slice none 0 0,.bool false,.slice none 0 0,.slice none 0 0,.bool false,.slice none 0 0,.slice none 0 0]) (by simp [LV.csize,ay,ah.csize]) (bp (aF (c1:=[.bool false,.slice none 0 0,.slice none 0 0]) (by simp [LV.csize,ay,ah.csize]) (aX) (aF (c1:=[.bool false,.slice none 0 0,.slice none 0 0]) (by simp [LV.csize,ay,ah.csize]) (aX) (aF (c1:=[.bool false,.slice none 0 0,.slice none 0 0]) (by simp [LV.csize,ay,ah.csize]) (aX) (bR))))) (bR))))⟩
instance:TI Tryz.prog 32 27 true:=⟨Iq⟩
instance:BI Tryz.prog 32 504:=⟨It⟩
instance:ZI Tryz.prog 32 (.agg [.agg [ratL 0,ratL 0,ratL 0],.agg [ratL 0,ratL 0,ratL 0],.agg [ratL 0,ratL 0,ratL 0]]):=⟨Iz⟩
theorem Iv:bj Tryz.prog 34 36 true:=⟨by kernel_rfl,_,Tryz.underlying34,rfl⟩
theorem Jg:a7 Tryz.prog 34 672:=⟨Tryz.t34,by kernel_rfl,rfl⟩
theorem F4:aT Tryz.prog 34 (.agg [.agg [.agg [ratL 0,ratL 0,ratL 0],.agg [ratL 0,ratL 0,ratL 0],.agg [ratL 0,ratL 0,ratL 0]],.agg [ratL 0,ratL 0,ratL 0]]):=⟨Tryz.t34,_,by kernel_rfl,rfl,by simp [LV.pure,aD,ah.pure],fun _ _ _=>bp (aF (c1:=[.bool false,.slice none 0 0,.slice none 0 0,.bool false,.slice none 0 0,.slice none 0 0,.bool false,.slice none 0 0,.slice none 0 0,.bool false,.slice none 0 0,.slice none 0 0,.bool false,.slice none 0 0,.slice none 0 0,.bool false,.slice none 0 0,.slice none 0 0,.bool false,.slice none 0 0,.slice none 0 0,.bool false,.slice none 0 0,.slice none 0 0,.bool false,.slice none 0 0,.slice none 0 0]) (by simp [LV.csize,ay,ah.csize]) (bp (aF (c1:=[.bool false,.slice none 0 0,.slice none 0 0,.bool false,.slice none 0 0,.slice none 0 0,.bool false,.slice none 0 0,.slice none 0 0]) (by simp [LV.csize,ay,ah.csize]) (bp (aF (c1:=[.bool false,.slice none 0 0,.slice none 0 0]) (by simp [LV.csize,ay,ah.csize]) (aX) (aF (c1:=[.bool false,.slice none 0 0,.slice none 0 0]) (by simp [LV.csize,ay,ah.csize]) (aX) (aF (c1:=[.bool false,.slice none 0 0,.slice none 0 0]) (by simp [LV.csize,ay,ah.csize]) (aX) (bR))))) (aF (c1:=[.bool false,.slice none 0 0,.slice none 0 0,.bool false,.slice none 0 0,.slice none 0 0,.bool false,.slice none 0 0,.slice none 0 0]) (by simp [LV.csize,ay,ah.csize]) (bp (aF (c1:=[.bool false,.slice none 0 0,.slice none 0 0]) (by simp [LV.csize,ay,ah.csize]) (aX) (aF (c1:=[.bool false,.slice none 0 0,.slice none 0 0]) (by simp [LV.csize,ay,ah.csize]) (aX) (aF (c1:=[.bool false,.slice none 0 0,.slice none 0 0]) (by simp [LV.csize,ay,ah.csize]) (aX) (bR))))) (aF (c1:=[.bool false,.slice none 0 0,.slice none 0 0,.bool false,.slice none 0 0,.slice none 0 0,.bool false,.slice none 0 0,.slice none 0 0]) (by simp [LV.csize,ay,ah.csize]) (bp (aF (c1:=[.bool false,.slice none 0 0,.slice none 0 0]) (by simp [LV.csize,ay,ah.csize]) (aX) (aF (c1:=[.bool false,.slice none 0 0,.slice none 0 0]) (by simp [LV.csize,ay,ah.csize]) (aX) (aF (c1:=[.bool false,.slice none 0 0,.slice none 0 0]) (by simp [LV.csize,ay,ah.csize]) (aX) (bR))))) (bR))))) (aF (c1:=[.bool false,.slice none 0 0,.slice none 0 0,.bool false,.slice none 0 0,.slice none 0 0,.bool false,.slice none 0 0,.slice none 0 0]) (by simp [LV.csize,ay,ah.csize]) (bp (aF (c1:=[.bool false,.slice none 0 0,.slice none 0 0]) (by simp [LV.csize,ay,ah.csize]) (aX) (aF (c1:=[.bool false,.slice none 0 0,.slice none 0 0]) (by simp [LV.csize,ay,ah.csize]) (aX) (aF (c1:=[.bool false,.slice none 0 0,.slice none 0 0]) (by simp [LV.csize,ay,ah.csize]) (aX) (bR))))) (bR)))⟩
instance:TI Tryz.prog 34 36 true:=⟨Iv⟩
instance:BI Tryz.prog 34 672:=⟨Jg⟩
instance:ZI Tryz.prog 34 (.agg [.agg [.agg [ratL 0,ratL 0,ratL 0],.agg [ratL 0,ratL 0,ratL 0],.agg [ratL 0,ratL 0,ratL 0]],.agg [ratL 0,ratL 0,ratL 0]]):=⟨F4⟩
theorem G5:ck Tryz.prog 34 [(27,true),(9,true)]:=⟨_,Tryz.underlying34,⟨rfl,Iq,⟨rfl,lq,trivial⟩⟩,by decide⟩
instance:SI Tryz.prog 34 [(27,true),(9,true)]:=⟨G5⟩
instance:UN Tryz.prog 36 (.slice 29):=⟨Tryz.underlying36⟩
theorem Et:bj Tryz.prog 36 1 false:=⟨by kernel_rfl,_,Tryz.underlying36,rfl⟩
theorem Jf:a7 Tryz.prog 36 24:=⟨Tryz.t36,by kernel_rfl,rfl⟩
theorem JK:aT Tryz.prog 36 (.v (.slice none 0 0)):=⟨Tryz.t36,_,by kernel_rfl,rfl,rfl,fun _ _ _=>bP rfl⟩
instance:TI Tryz.prog 36 1 false:=⟨Et⟩
instance:BI Tryz.prog 36 24:=⟨Jf⟩
instance:ZI Tryz.prog 36 (.v (.slice none 0 0)):=⟨JK⟩
instance:UN Tryz.prog 37 (.slice 60):=⟨Tryz.underlying37⟩
theorem ID:bj Tryz.prog 37 1 false:=⟨by kernel_rfl,_,Tryz.underlying37,rfl⟩
theorem I3:a7 Tryz.prog 37 24:=⟨Tryz.t37,by kernel_rfl,rfl⟩
theorem Jt:aT Tryz.prog 37 (.v (.slice none 0 0)):=⟨Tryz.t37,_,by kernel_rfl,rfl,rfl,fun _ _ _=>bP rfl⟩
instance:TI Tryz.prog 37 1 false:=⟨ID⟩
instance:BI Tryz.prog 37 24:=⟨I3⟩
instance:ZI Tryz.prog 37 (.v (.slice none 0 0)):=⟨Jt⟩
theorem Ew:bj Tryz.prog 39 5 true:=⟨by kernel_rfl,_,Tryz.underlying39,rfl⟩
theorem JR:a7 Tryz.prog 39 88:=⟨Tryz.t39,by kernel_rfl,rfl⟩
theorem IB:aT Tryz.prog 39 (.agg [.v (.int .i64 0),.v (.int .i64 0),.v (.slice none 0 0),.v (.slice none 0 0),.v (.slice none 0 0)]):=⟨Tryz.t39,_,by kernel_rfl,rfl,rfl,fun _ _ _=>bp (aF (c1:=[.int .i64 0]) rfl (bP rfl) (aF (c1:=[.int .i64 0]) rfl (bP rfl) (aF (c1:=[.slice none 0 0]) rfl (bP rfl) (aF (c1:=[.slice none 0 0]) rfl (bP rfl) (aF (c1:=[.slice none 0 0]) rfl (bP rfl) (bR))))))⟩
instance:TI Tryz.prog 39 5 true:=⟨Ew⟩
instance:BI Tryz.prog 39 88:=⟨JR⟩
instance:ZI Tryz.prog 39 (.agg [.v (.int .i64 0),.v (.int .i64 0),.v (.slice none 0 0),.v (.slice none 0 0),.v (.slice none 0 0)]):=⟨IB⟩
theorem FD:ck Tryz.prog 39 [(1,false),(1,false),(1,false),(1,false),(1,false)]:=⟨_,Tryz.underlying39,⟨rfl,T3,⟨rfl,T3,⟨rfl,Et,⟨rfl,Et,⟨rfl,ID,trivial⟩⟩⟩⟩⟩,by decide⟩
instance:SI Tryz.prog 39 [(1,false),(1,false),(1,false),(1,false),(1,false)]:=⟨FD⟩
theorem Ad:bj Tryz.prog 42 6 true:=⟨by kernel_rfl,_,Tryz.underlying42,rfl⟩
theorem IT:a7 Tryz.prog 42 112:=⟨Tryz.t42,by kernel_rfl,rfl⟩
theorem IC:aT Tryz.prog 42 (.agg [ratL 0,ratL 0]):=⟨Tryz.t42,_,by kernel_rfl,rfl,by simp [LV.pure,aD,ah.pure],fun _ _ _=>bp (aF (c1:=[.bool false,.slice none 0 0,.slice none 0 0]) (by simp [LV.csize,ay,ah.csize]) (aX) (aF (c1:=[.bool false,.slice none 0 0,.slice none 0 0]) (by simp [LV.csize,ay,ah.csize]) (aX) (bR)))⟩
instance:TI Tryz.prog 42 6 true:=⟨Ad⟩
instance:BI Tryz.prog 42 112:=⟨IT⟩
instance:ZI Tryz.prog 42 (.agg [ratL 0,ratL 0]):=⟨IC⟩
theorem HP:ck Tryz.prog 42 [(3,true),(3,true)]:=⟨_,Tryz.underlying42,⟨rfl,bF,⟨rfl,bF,trivial⟩⟩,by decide⟩
instance:SI Tryz.prog 42 [(3,true),(3,true)]:=⟨HP⟩
instance:UN Tryz.prog 46 (.int .i64):=⟨Tryz.underlying46⟩
theorem IE:bj Tryz.prog 46 1 false:=⟨by kernel_rfl,_,Tryz.underlying46,rfl⟩
theorem Jl:a7 Tryz.prog 46 8:=⟨Tryz.t46,by kernel_rfl,rfl⟩
theorem Iw:aT Tryz.prog 46 (.v (.int .i64 0)):=⟨Tryz.t46,_,by kernel_rfl,rfl,rfl,fun _ _ _=>bP rfl⟩
instance:TI Tryz.prog 46 1 false:=⟨IE⟩
instance:BI Tryz.prog 46 8:=⟨Jl⟩
instance:ZI Tryz.prog 46 (.v (.int .i64 0)):=⟨Iw⟩
instance:UN Tryz.prog 60 (.slice 62):=⟨Tryz.underlying60⟩
theorem rf:bj Tryz.prog 60 1 false:=⟨by kernel_rfl,_,Tryz.underlying60,rfl⟩
theorem Gd:a7 Tryz.prog 60 24:=⟨Tryz.t60,by kernel_rfl,rfl⟩
theorem JO:aT Tryz.prog 60 (.v (.slice none 0 0)):=⟨Tryz.t60,_,by kernel_rfl,rfl,rfl,fun _ _ _=>bP rfl⟩
instance:TI Tryz.prog 60 1 false:=⟨rf⟩
instance:BI Tryz.prog 60 24:=⟨Gd⟩
instance:ZI Tryz.prog 60 (.v (.slice none 0 0)):=⟨JO⟩
theorem me:bj Tryz.prog 62 12 true:=⟨by kernel_rfl,_,Tryz.underlying62,rfl⟩
theorem wS:a7 Tryz.prog 62 224:=⟨Tryz.t62,by kernel_rfl,rfl⟩
theorem ta:aT Tryz.prog 62 (.agg [.agg [ratL 0,ratL 0,ratL 0],ratL 0]):=⟨Tryz.t62,_,by kernel_rfl,rfl,by simp [LV.pure,aD,ah.pure],fun _ _ _=>bp (aF (c1:=[.bool false,.slice none 0 0,.slice none 0 0,.bool false,.slice none 0 0,.slice none 0 0,.bool false,.slice none 0 0,.slice none 0 0]) (by simp [LV.csize,ay,ah.csize]) (bp (aF (c1:=[.bool false,.slice none 0 0,.slice none 0 0]) (by simp [LV.csize,ay,ah.csize]) (aX) (aF (c1:=[.bool false,.slice none 0 0,.slice none 0 0]) (by simp [LV.csize,ay,ah.csize]) (aX) (aF (c1:=[.bool false,.slice none 0 0,.slice none 0 0]) (by simp [LV.csize,ay,ah.csize]) (aX) (bR))))) (aF (c1:=[.bool false,.slice none 0 0,.slice none 0 0]) (by simp [LV.csize,ay,ah.csize]) (aX) (bR)))⟩
instance:TI Tryz.prog 62 12 true:=⟨me⟩
instance:BI Tryz.prog 62 224:=⟨wS⟩
instance:ZI Tryz.prog 62 (.agg [.agg [ratL 0,ratL 0,ratL 0],ratL 0]):=⟨ta⟩
theorem GW:ck Tryz.prog 62 [(9,true),(3,true)]:=⟨_,Tryz.underlying62,⟨rfl,lq,⟨rfl,bF,trivial⟩⟩,by decide⟩
instance:SI Tryz.prog 62 [(9,true),(3,true)]:=⟨GW⟩
theorem zT:bj Tryz.prog 64 3 true:=⟨by kernel_rfl,_,Tryz.underlying64,rfl⟩
theorem JQ:a7 Tryz.prog 64 40:=⟨Tryz.t64,by kernel_rfl,rfl⟩
theorem JI:aT Tryz.prog 64 (.agg [.v (.int .i64 0),.v (.int .i64 0),.v (.slice none 0 0)]):=⟨Tryz.t64,_,by kernel_rfl,rfl,rfl,fun _ _ _=>bp (aF (c1:=[.int .i64 0]) rfl (bP rfl) (aF (c1:=[.int .i64 0]) rfl (bP rfl) (aF (c1:=[.slice none 0 0]) rfl (bP rfl) (bR))))⟩
instance:TI Tryz.prog 64 3 true:=⟨zT⟩
instance:BI Tryz.prog 64 40:=⟨JQ⟩
instance:ZI Tryz.prog 64 (.agg [.v (.int .i64 0),.v (.int .i64 0),.v (.slice none 0 0)]):=⟨JI⟩
theorem Fq:ck Tryz.prog 64 [(1,false),(1,false),(1,false)]:=⟨_,Tryz.underlying64,⟨rfl,T3,⟨rfl,T3,⟨rfl,Et,trivial⟩⟩⟩,by decide⟩
instance:SI Tryz.prog 64 [(1,false),(1,false),(1,false)]:=⟨Fq⟩
instance:UN Tryz.prog 65 (.array 4 64):=⟨Tryz.underlying65⟩
theorem Gy:bj Tryz.prog 65 12 true:=⟨by kernel_rfl,_,Tryz.underlying65,rfl⟩
theorem JF:a7 Tryz.prog 65 160:=⟨Tryz.t65,by kernel_rfl,rfl⟩
theorem Jm:aT Tryz.prog 65 (.agg [.agg [.v (.int .i64 0),.v (.int .i64 0),.v (.slice none 0 0)],.agg [.v (.int .i64 0),.v (.int .i64 0),.v (.slice none 0 0)],.agg [.v (.int .i64 0),.v (.int .i64 0),.v (.slice none 0 0)],.agg [.v (.int .i64 0),.v (.int .i64 0),.v (.slice none 0 0)]]):=⟨Tryz.t65,_,by kernel_rfl,rfl,rfl,fun _ _ _=>bp (aF (c1:=[.int .i64 0,.int .i64 0,.slice none 0 0]) rfl (bp (aF (c1:=[.int .i64 0]) rfl (bP rfl) (aF (c1:=[.int .i64 0]) rfl (bP rfl) (aF (c1:=[.slice none 0 0]) rfl (bP rfl) (bR))))) (aF (c1:=[.int .i64 0,.int .i64 0,.slice none 0 0]) rfl (bp (aF (c1:=[.int .i64 0]) rfl (bP rfl) (aF (c1:=[.int .i64 0]) rfl (bP rfl) (aF (c1:=[.slice none 0 0]) rfl (bP rfl) (bR))))) (aF (c1:=[.int .i64 0,.int .i64 0,.slice none 0 0]) rfl (bp (aF (c1:=[.int .i64 0]) rfl (bP rfl) (aF (c1:=[.int .i64 0]) rfl (bP rfl) (aF (c1:=[.slice none 0 0]) rfl (bP rfl) (bR))))) (aF (c1:=[.int .i64 0,.int .i64 0,.slice none 0 0]) rfl (bp (aF (c1:=[.int .i64 0]) rfl (bP rfl) (aF (c1:=[.int .i64 0]) rfl (bP rfl) (aF (c1:=[.slice none 0 0]) rfl (bP rfl) (bR))))) (bR)))))⟩
instance:TI Tryz.prog 65 12 true:=⟨Gy⟩
instance:BI Tryz.prog 65 160:=⟨JF⟩
instance:ZI Tryz.prog 65 (.agg [.agg [.v (.int .i64 0),.v (.int .i64 0),.v (.slice none 0 0)],.agg [.v (.int .i64 0),.v (.int .i64 0),.v (.slice none 0 0)],.agg [.v (.int .i64 0),.v (.int .i64 0),.v (.slice none 0 0)],.agg [.v (.int .i64 0),.v (.int .i64 0),.v (.slice none 0 0)]]):=⟨Jm⟩
instance:UN Tryz.prog 73 (.array 3 42):=⟨Tryz.underlying73⟩
theorem JT:bj Tryz.prog 73 18 true:=⟨by kernel_rfl,_,Tryz.underlying73,rfl⟩
theorem JZ:a7 Tryz.prog 73 336:=⟨Tryz.t73,by kernel_rfl,rfl⟩
theorem Jh:aT Tryz.prog 73 (.agg [.agg [ratL 0,ratL 0],.agg [ratL 0,ratL 0],.agg [ratL 0,ratL 0]]):=⟨Tryz.t73,_,by kernel_rfl,rfl,by simp [LV.pure,aD,ah.pure],fun _ _ _=>bp (aF (c1:=[.bool false,.slice none 0 0,.slice none 0 0,.bool false,.slice none 0 0,.slice none 0 0]) (by simp [LV.csize,ay,ah.csize]) (bp (aF (c1:=[.bool false,.slice none 0 0,.slice none 0 0]) (by simp [LV.csize,ay,ah.csize]) (aX) (aF (c1:=[.bool false,.slice none 0 0,.slice none 0 0]) (by simp [LV.csize,ay,ah.csize]) (aX) (bR)))) (aF (c1:=[.bool false,.slice none 0 0,.slice none 0 0,.bool false,.slice none 0 0,.slice none 0 0]) (by simp [LV.csize,ay,ah.csize]) (bp (aF (c1:=[.bool false,.slice none 0 0,.slice none 0 0]) (by simp [LV.csize,ay,ah.csize]) (aX) (aF (c1:=[.bool false,.slice none 0 0,.slice none 0 0]) (by simp [LV.csize,ay,ah.csize]) (aX) (bR)))) (aF (c1:=[.bool false,.slice none 0 0,.slice none 0 0,.bool false,.slice none 0 0,.slice none 0 0]) (by simp [LV.csize,ay,ah.csize]) (bp (aF (c1:=[.bool false,.slice none 0 0,.slice none 0 0]) (by simp [LV.csize,ay,ah.csize]) (aX) (aF (c1:=[.bool false,.slice none 0 0,.slice none 0 0]) (by simp [LV.csize,ay,ah.csize]) (aX) (bR)))) (bR))))⟩
instance:TI Tryz.prog 73 18 true:=⟨JT⟩
instance:BI Tryz.prog 73 336:=⟨JZ⟩
instance:ZI Tryz.prog 73 (.agg [.agg [ratL 0,ratL 0],.agg [ratL 0,ratL 0],.agg [ratL 0,ratL 0]]):=⟨Jh⟩
instance:UN Tryz.prog 74 (.array 3 42):=⟨Tryz.underlying74⟩
theorem Em:bj Tryz.prog 74 18 true:=⟨by kernel_rfl,_,Tryz.underlying74,rfl⟩
theorem JX:a7 Tryz.prog 74 336:=⟨Tryz.t74,by kernel_rfl,rfl⟩
theorem I1:aT Tryz.prog 74 (.agg [.agg [ratL 0,ratL 0],.agg [ratL 0,ratL 0],.agg [ratL 0,ratL 0]]):=⟨Tryz.t74,_,by kernel_rfl,rfl,by simp [LV.pure,aD,ah.pure],fun _ _ _=>bp (aF (c1:=[.bool false,.slice none 0 0,.slice none 0 0,.bool false,.slice none 0 0,.slice none 0 0]) (by simp [LV.csize,ay,ah.csize]) (bp (aF (c1:=[.bool false,.slice none 0 0,.slice none 0 0]) (by simp [LV.csize,ay,ah.csize]) (aX) (aF (c1:=[.bool false,.slice none 0 0,.slice none 0 0]) (by simp [LV.csize,ay,ah.csize]) (aX) (bR)))) (aF (c1:=[.bool false,.slice none 0 0,.slice none 0 0,.bool false,.slice none 0 0,.slice none 0 0]) (by simp [LV.csize,ay,ah.csize]) (bp (aF (c1:=[.bool false,.slice none 0 0,.slice none 0 0]) (by simp [LV.csize,ay,ah.csize]) (aX) (aF (c1:=[.bool false,.slice none 0 0,.slice none 0 0]) (by simp [LV.csize,ay,ah.csize]) (aX) (bR)))) (aF (c1:=[.bool false,.slice none 0 0,.slice none 0 0,.bool false,.slice none 0 0,.slice none 0 0]) (by simp [LV.csize,ay,ah.csize]) (bp (aF (c1:=[.bool false,.slice none 0 0,.slice none 0 0]) (by simp [LV.csize,ay,ah.csize]) (aX) (aF (c1:=[.bool false,.slice none 0 0,.slice none 0 0]) (by simp [LV.csize,ay,ah.csize]) (aX) (bR)))) (bR))))⟩
instance:TI Tryz.prog 74 18 true:=⟨Em⟩
instance:BI Tryz.prog 74 336:=⟨JX⟩
instance:ZI Tryz.prog 74 (.agg [.agg [ratL 0,ratL 0],.agg [ratL 0,ratL 0],.agg [ratL 0,ratL 0]]):=⟨I1⟩
instance:UN Tryz.prog 76 (.array 4 4):=⟨Tryz.underlying76⟩
theorem GT:bj Tryz.prog 76 4 true:=⟨by kernel_rfl,_,Tryz.underlying76,rfl⟩
theorem I8:a7 Tryz.prog 76 4:=⟨Tryz.t76,by kernel_rfl,rfl⟩
theorem Ju:aT Tryz.prog 76 (.agg [.v (.bool false),.v (.bool false),.v (.bool false),.v (.bool false)]):=⟨Tryz.t76,_,by kernel_rfl,rfl,rfl,fun _ _ _=>bp (aF (c1:=[.bool false]) rfl (bP rfl) (aF (c1:=[.bool false]) rfl (bP rfl) (aF (c1:=[.bool false]) rfl (bP rfl) (aF (c1:=[.bool false]) rfl (bP rfl) (bR)))))⟩
instance:TI Tryz.prog 76 4 true:=⟨GT⟩
instance:BI Tryz.prog 76 4:=⟨I8⟩
instance:ZI Tryz.prog 76 (.agg [.v (.bool false),.v (.bool false),.v (.bool false),.v (.bool false)]):=⟨Ju⟩
theorem FK:bj Tryz.prog 86 12 true:=⟨by kernel_rfl,_,Tryz.underlying86,rfl⟩
theorem JJ:a7 Tryz.prog 86 224:=⟨Tryz.t86,by kernel_rfl,rfl⟩
theorem JA:aT Tryz.prog 86 (.agg [.agg [ratL 0,ratL 0,ratL 0],ratL 0]):=⟨Tryz.t86,_,by kernel_rfl,rfl,by simp [LV.pure,aD,ah.pure],fun _ _ _=>bp (aF (c1:=[.bool false,.slice none 0 0,.slice none 0 0,.bool false,.slice none 0 0,.slice none 0 0,.bool false,.slice none 0 0,.slice none 0 0]) (by simp [LV.csize,ay,ah.csize]) (bp (aF (c1:=[.bool false,.slice none 0 0,.slice none 0 0]) (by simp [LV.csize,ay,ah.csize]) (aX) (aF (c1:=[.bool false,.slice none 0 0,.slice none 0 0]) (by simp [LV.csize,ay,ah.csize]) (aX) (aF (c1:=[.bool false,.slice none 0 0,.slice none 0 0]) (by simp [LV.csize,ay,ah.csize]) (aX) (bR))))) (aF (c1:=[.bool false,.slice none 0 0,.slice none 0 0]) (by simp [LV.csize,ay,ah.csize]) (aX) (bR)))⟩
instance:TI Tryz.prog 86 12 true:=⟨FK⟩
instance:BI Tryz.prog 86 224:=⟨JJ⟩
instance:ZI Tryz.prog 86 (.agg [.agg [ratL 0,ratL 0,ratL 0],ratL 0]):=⟨JA⟩
theorem HJ:ck Tryz.prog 86 [(9,true),(3,true)]:=⟨_,Tryz.underlying86,⟨rfl,lq,⟨rfl,bF,trivial⟩⟩,by decide⟩
instance:SI Tryz.prog 86 [(9,true),(3,true)]:=⟨HJ⟩
theorem JV:bj Tryz.prog 95 2 true:=⟨by kernel_rfl,_,Tryz.underlying95,rfl⟩
theorem Ji:a7 Tryz.prog 95 32:=⟨Tryz.t95,by kernel_rfl,rfl⟩
theorem Iy:aT Tryz.prog 95 (.agg [.v (.slice none 0 0),.v (.int .i64 0)]):=⟨Tryz.t95,_,by kernel_rfl,rfl,rfl,fun _ _ _=>bp (aF (c1:=[.slice none 0 0]) rfl (bP rfl) (aF (c1:=[.int .i64 0]) rfl (bP rfl) (bR)))⟩
instance:TI Tryz.prog 95 2 true:=⟨JV⟩
instance:BI Tryz.prog 95 32:=⟨Ji⟩
instance:ZI Tryz.prog 95 (.agg [.v (.slice none 0 0),.v (.int .i64 0)]):=⟨Iy⟩
theorem E0:ck Tryz.prog 95 [(1,false),(1,false)]:=⟨_,Tryz.underlying95,⟨rfl,IG,⟨rfl,T3,trivial⟩⟩,by decide⟩
instance:SI Tryz.prog 95 [(1,false),(1,false)]:=⟨E0⟩
instance:UN Tryz.prog 106 (.array 3 64):=⟨Tryz.underlying106⟩
theorem ES:bj Tryz.prog 106 9 true:=⟨by kernel_rfl,_,Tryz.underlying106,rfl⟩
theorem Ha:a7 Tryz.prog 106 120:=⟨Tryz.t106,by kernel_rfl,rfl⟩
theorem Gk:aT Tryz.prog 106 (.agg [.agg [.v (.int .i64 0),.v (.int .i64 0),.v (.slice none 0 0)],.agg [.v (.int .i64 0),.v (.int .i64 0),.v (.slice none 0 0)],.agg [.v (.int .i64 0),.v (.int .i64 0),.v (.slice none 0 0)]]):=⟨Tryz.t106,_,by kernel_rfl,rfl,rfl,fun _ _ _=>bp (aF (c1:=[.int .i64 0,.int .i64 0,.slice none 0 0]) rfl (bp (aF (c1:=[.int .i64 0]) rfl (bP rfl) (aF (c1:=[.int .i64 0]) rfl (bP rfl) (aF (c1:=[.slice none 0 0]) rfl (bP rfl) (bR))))) (aF (c1:=[.int .i64 0,.int .i64 0,.slice none 0 0]) rfl (bp (aF (c1:=[.int .i64 0]) rfl (bP rfl) (aF (c1:=[.int .i64 0]) rfl (bP rfl) (aF (c1:=[.slice none 0 0]) rfl (bP rfl) (bR))))) (aF (c1:=[.int .i64 0,.int .i64 0,.slice none 0 0]) rfl (bp (aF (c1:=[.int .i64 0]) rfl (bP rfl) (aF (c1:=[.int .i64 0]) rfl (bP rfl) (aF (c1:=[.slice none 0 0]) rfl (bP rfl) (bR))))) (bR))))⟩
instance:TI Tryz.prog 106 9 true:=⟨ES⟩
instance:BI Tryz.prog 106 120:=⟨Ha⟩
instance:ZI Tryz.prog 106 (.agg [.agg [.v (.int .i64 0),.v (.int .i64 0),.v (.slice none 0 0)],.agg [.v (.int .i64 0),.v (.int .i64 0),.v (.slice none 0 0)],.agg [.v (.int .i64 0),.v (.int .i64 0),.v (.slice none 0 0)]]):=⟨Gk⟩
instance:UN Tryz.prog 111 (.slice 113):=⟨Tryz.underlying111⟩
theorem HI:bj Tryz.prog 111 1 false:=⟨by kernel_rfl,_,Tryz.underlying111,rfl⟩
theorem GI:a7 Tryz.prog 111 24:=⟨Tryz.t111,by kernel_rfl,rfl⟩
theorem Ie:aT Tryz.prog 111 (.v (.slice none 0 0)):=⟨Tryz.t111,_,by kernel_rfl,rfl,rfl,fun _ _ _=>bP rfl⟩
instance:TI Tryz.prog 111 1 false:=⟨HI⟩
instance:BI Tryz.prog 111 24:=⟨GI⟩
instance:ZI Tryz.prog 111 (.v (.slice none 0 0)):=⟨Ie⟩
theorem Io:bj Tryz.prog 113 3 true:=⟨by kernel_rfl,_,Tryz.underlying113,rfl⟩
theorem In:a7 Tryz.prog 113 56:=⟨Tryz.t113,by kernel_rfl,rfl⟩
theorem HX:aT Tryz.prog 113 (.agg [.v (.int .i64 0),.v (.slice none 0 0),.v (.slice none 0 0)]):=⟨Tryz.t113,_,by kernel_rfl,rfl,rfl,fun _ _ _=>bp (aF (c1:=[.int .i64 0]) rfl (bP rfl) (aF (c1:=[.slice none 0 0]) rfl (bP rfl) (aF (c1:=[.slice none 0 0]) rfl (bP rfl) (bR))))⟩
instance:TI Tryz.prog 113 3 true:=⟨Io⟩
instance:BI Tryz.prog 113 56:=⟨In⟩
instance:ZI Tryz.prog 113 (.agg [.v (.int .i64 0),.v (.slice none 0 0),.v (.slice none 0 0)]):=⟨HX⟩
theorem FN:ck Tryz.prog 113 [(1,false),(1,false),(1,false)]:=⟨_,Tryz.underlying113,⟨rfl,T3,⟨rfl,Et,⟨rfl,rf,trivial⟩⟩⟩,by decide⟩
instance:SI Tryz.prog 113 [(1,false),(1,false),(1,false)]:=⟨FN⟩
instance:UN Tryz.prog 117 (.array 4 29):=⟨Tryz.underlying117⟩
theorem EK:bj Tryz.prog 117 12 true:=⟨by kernel_rfl,_,Tryz.underlying117,rfl⟩
theorem If:a7 Tryz.prog 117 224:=⟨Tryz.t117,by kernel_rfl,rfl⟩
theorem Im:aT Tryz.prog 117 (.agg [ratL 0,ratL 0,ratL 0,ratL 0]):=⟨Tryz.t117,_,by kernel_rfl,rfl,by simp [LV.pure,aD,ah.pure],fun _ _ _=>bp (aF (c1:=[.bool false,.slice none 0 0,.slice none 0 0]) (by simp [LV.csize,ay,ah.csize]) (aX) (aF (c1:=[.bool false,.slice none 0 0,.slice none 0 0]) (by simp [LV.csize,ay,ah.csize]) (aX) (aF (c1:=[.bool false,.slice none 0 0,.slice none 0 0]) (by simp [LV.csize,ay,ah.csize]) (aX) (aF (c1:=[.bool false,.slice none 0 0,.slice none 0 0]) (by simp [LV.csize,ay,ah.csize]) (aX) (bR)))))⟩
instance:TI Tryz.prog 117 12 true:=⟨EK⟩
instance:BI Tryz.prog 117 224:=⟨If⟩
instance:ZI Tryz.prog 117 (.agg [ratL 0,ratL 0,ratL 0,ratL 0]):=⟨Im⟩
instance:UN Tryz.prog 118 (.array 4 29):=⟨Tryz.underlying118⟩
theorem EO:bj Tryz.prog 118 12 true:=⟨by kernel_rfl,_,Tryz.underlying118,rfl⟩
theorem HN:a7 Tryz.prog 118 224:=⟨Tryz.t118,by kernel_rfl,rfl⟩
theorem Ia:aT Tryz.prog 118 (.agg [ratL 0,ratL 0,ratL 0,ratL 0]):=⟨Tryz.t118,_,by kernel_rfl,rfl,by simp [LV.pure,aD,ah.pure],fun _ _ _=>bp (aF (c1:=[.bool false,.slice none 0 0,.slice none 0 0]) (by simp [LV.csize,ay,ah.csize]) (aX) (aF (c1:=[.bool false,.slice none 0 0,.slice none 0 0]) (by simp [LV.csize,ay,ah.csize]) (aX) (aF (c1:=[.bool false,.slice none 0 0,.slice none 0 0]) (by simp [LV.csize,ay,ah.csize]) (aX) (aF (c1:=[.bool false,.slice none 0 0,.slice none 0 0]) (by simp [LV.csize,ay,ah.csize]) (aX) (bR)))))⟩
instance:TI Tryz.prog 118 12 true:=⟨EO⟩
instance:BI Tryz.prog 118 224:=⟨HN⟩
instance:ZI Tryz.prog 118 (.agg [ratL 0,ratL 0,ratL 0,ratL 0]):=⟨Ia⟩
instance:UN Tryz.prog 122 (.slice 31):=⟨Tryz.underlying122⟩
theorem HR:bj Tryz.prog 122 1 false:=⟨by kernel_rfl,_,Tryz.underlying122,rfl⟩
theorem H7:a7 Tryz.prog 122 24:=⟨Tryz.t122,by kernel_rfl,rfl⟩
theorem Ht:aT Tryz.prog 122 (.v (.slice none 0 0)):=⟨Tryz.t122,_,by kernel_rfl,rfl,rfl,fun _ _ _=>bP rfl⟩
instance:TI Tryz.prog 122 1 false:=⟨HR⟩
instance:BI Tryz.prog 122 24:=⟨H7⟩
instance:ZI Tryz.prog 122 (.v (.slice none 0 0)):=⟨Ht⟩
instance:UN Tryz.prog 159 (.slice 29):=⟨Tryz.underlying159⟩
theorem CO:bj Tryz.prog 159 1 false:=⟨by kernel_rfl,_,Tryz.underlying159,rfl⟩
theorem GK:a7 Tryz.prog 159 24:=⟨Tryz.t159,by kernel_rfl,rfl⟩
theorem G4:aT Tryz.prog 159 (.v (.slice none 0 0)):=⟨Tryz.t159,_,by kernel_rfl,rfl,rfl,fun _ _ _=>bP rfl⟩
instance:TI Tryz.prog 159 1 false:=⟨CO⟩
instance:BI Tryz.prog 159 24:=⟨GK⟩
instance:ZI Tryz.prog 159 (.v (.slice none 0 0)):=⟨G4⟩
instance:UN Tryz.prog 161 (.int .u64):=⟨Tryz.underlying161⟩
theorem Hn:bj Tryz.prog 161 1 false:=⟨by kernel_rfl,_,Tryz.underlying161,rfl⟩
theorem HY:a7 Tryz.prog 161 8:=⟨Tryz.t161,by kernel_rfl,rfl⟩
theorem HO:aT Tryz.prog 161 (.v (.int .u64 0)):=⟨Tryz.t161,_,by kernel_rfl,rfl,rfl,fun _ _ _=>bP rfl⟩
instance:TI Tryz.prog 161 1 false:=⟨Hn⟩
instance:BI Tryz.prog 161 8:=⟨HY⟩
instance:ZI Tryz.prog 161 (.v (.int .u64 0)):=⟨HO⟩
instance:UN Tryz.prog 182 (.int .u32):=⟨Tryz.underlying182⟩
theorem f8:bj Tryz.prog 182 1 false:=⟨by kernel_rfl,_,Tryz.underlying182,rfl⟩
theorem sc:a7 Tryz.prog 182 4:=⟨Tryz.t182,by kernel_rfl,rfl⟩
theorem qF:aT Tryz.prog 182 (.v (.int .u32 0)):=⟨Tryz.t182,_,by kernel_rfl,rfl,rfl,fun _ _ _=>bP rfl⟩
instance:TI Tryz.prog 182 1 false:=⟨f8⟩
instance:BI Tryz.prog 182 4:=⟨sc⟩
instance:ZI Tryz.prog 182 (.v (.int .u32 0)):=⟨qF⟩
instance:UN Tryz.prog 187 (.array 2 29):=⟨Tryz.underlying187⟩
theorem Hl:bj Tryz.prog 187 6 true:=⟨by kernel_rfl,_,Tryz.underlying187,rfl⟩
theorem HL:a7 Tryz.prog 187 112:=⟨Tryz.t187,by kernel_rfl,rfl⟩
theorem GF:aT Tryz.prog 187 (.agg [ratL 0,ratL 0]):=⟨Tryz.t187,_,by kernel_rfl,rfl,by simp [LV.pure,aD,ah.pure],fun _ _ _=>bp (aF (c1:=[.bool false,.slice none 0 0,.slice none 0 0]) (by simp [LV.csize,ay,ah.csize]) (aX) (aF (c1:=[.bool false,.slice none 0 0,.slice none 0 0]) (by simp [LV.csize,ay,ah.csize]) (aX) (bR)))⟩
instance:TI Tryz.prog 187 6 true:=⟨Hl⟩
instance:BI Tryz.prog 187 112:=⟨HL⟩
instance:ZI Tryz.prog 187 (.agg [ratL 0,ratL 0]):=⟨GF⟩
instance:UN Tryz.prog 188 (.array 3 187):=⟨Tryz.underlying188⟩
theorem Hp:bj Tryz.prog 188 18 true:=⟨by kernel_rfl,_,Tryz.underlying188,rfl⟩
theorem Hj:a7 Tryz.prog 188 336:=⟨Tryz.t188,by kernel_rfl,rfl⟩
theorem Gg:aT Tryz.prog 188 (.agg [.agg [ratL 0,ratL 0],.agg [ratL 0,ratL 0],.agg [ratL 0,ratL 0]]):=⟨Tryz.t188,_,by kernel_rfl,rfl,by simp [LV.pure,aD,ah.pure],fun _ _ _=>bp (aF (c1:=[.bool false,.slice none 0 0,.slice none 0 0,.bool false,.slice none 0 0,.slice none 0 0]) (by simp [LV.csize,ay,ah.csize]) (bp (aF (c1:=[.bool false,.slice none 0 0,.slice none 0 0]) (by simp [LV.csize,ay,ah.csize]) (aX) (aF (c1:=[.bool false,.slice none 0 0,.slice none 0 0]) (by simp [LV.csize,ay,ah.csize]) (aX) (bR)))) (aF (c1:=[.bool false,.slice none 0 0,.slice none 0 0,.bool false,.slice none 0 0,.slice none 0 0]) (by simp [LV.csize,ay,ah.csize]) (bp (aF (c1:=[.bool false,.slice none 0 0,.slice none 0 0]) (by simp [LV.csize,ay,ah.csize]) (aX) (aF (c1:=[.bool false,.slice none 0 0,.slice none 0 0]) (by simp [LV.csize,ay,ah.csize]) (aX) (bR)))) (aF (c1:=[.bool false,.slice none 0 0,.slice none 0 0,.bool false,.slice none 0 0,.slice none 0 0]) (by simp [LV.csize,ay,ah.csize]) (bp (aF (c1:=[.bool false,.slice none 0 0,.slice none 0 0]) (by simp [LV.csize,ay,ah.csize]) (aX) (aF (c1:=[.bool false,.slice none 0 0,.slice none 0 0]) (by simp [LV.csize,ay,ah.csize]) (aX) (bR)))) (bR))))⟩
instance:TI Tryz.prog 188 18 true:=⟨Hp⟩
instance:BI Tryz.prog 188 336:=⟨Hj⟩
instance:ZI Tryz.prog 188 (.agg [.agg [ratL 0,ratL 0],.agg [ratL 0,ratL 0],.agg [ratL 0,ratL 0]]):=⟨Gg⟩
instance:UN Tryz.prog 193 (.int .u64):=⟨Tryz.underlying193⟩
theorem GB:bj Tryz.prog 193 1 false:=⟨by kernel_rfl,_,Tryz.underlying193,rfl⟩
theorem HK:a7 Tryz.prog 193 8:=⟨Tryz.t193,by kernel_rfl,rfl⟩
theorem G6:aT Tryz.prog 193 (.v (.int .u64 0)):=⟨Tryz.t193,_,by kernel_rfl,rfl,rfl,fun _ _ _=>bP rfl⟩
instance:TI Tryz.prog 193 1 false:=⟨GB⟩
instance:BI Tryz.prog 193 8:=⟨HK⟩
instance:ZI Tryz.prog 193 (.v (.int .u64 0)):=⟨G6⟩
instance:UN Tryz.prog 197 (.slice 5):=⟨Tryz.underlying197⟩
theorem Hu:bj Tryz.prog 197 1 false:=⟨by kernel_rfl,_,Tryz.underlying197,rfl⟩
theorem GH:a7 Tryz.prog 197 24:=⟨Tryz.t197,by kernel_rfl,rfl⟩
theorem H8:aT Tryz.prog 197 (.v (.slice none 0 0)):=⟨Tryz.t197,_,by kernel_rfl,rfl,rfl,fun _ _ _=>bP rfl⟩
instance:TI Tryz.prog 197 1 false:=⟨Hu⟩
instance:BI Tryz.prog 197 24:=⟨GH⟩
instance:ZI Tryz.prog 197 (.v (.slice none 0 0)):=⟨H8⟩
instance:UN Tryz.prog 222 (.slice 159):=⟨Tryz.underlying222⟩
theorem Gz:bj Tryz.prog 222 1 false:=⟨by kernel_rfl,_,Tryz.underlying222,rfl⟩
theorem Gh:a7 Tryz.prog 222 24:=⟨Tryz.t222,by kernel_rfl,rfl⟩
theorem GP:aT Tryz.prog 222 (.v (.slice none 0 0)):=⟨Tryz.t222,_,by kernel_rfl,rfl,rfl,fun _ _ _=>bP rfl⟩
instance:TI Tryz.prog 222 1 false:=⟨Gz⟩
instance:BI Tryz.prog 222 24:=⟨Gh⟩
instance:ZI Tryz.prog 222 (.v (.slice none 0 0)):=⟨GP⟩
instance:UN Tryz.prog 239 (.slice 2):=⟨Tryz.underlying239⟩
theorem GX:bj Tryz.prog 239 1 false:=⟨by kernel_rfl,_,Tryz.underlying239,rfl⟩
theorem Hk:a7 Tryz.prog 239 24:=⟨Tryz.t239,by kernel_rfl,rfl⟩
theorem G8:aT Tryz.prog 239 (.v (.slice none 0 0)):=⟨Tryz.t239,_,by kernel_rfl,rfl,rfl,fun _ _ _=>bP rfl⟩
instance:TI Tryz.prog 239 1 false:=⟨GX⟩
instance:BI Tryz.prog 239 24:=⟨Hk⟩
instance:ZI Tryz.prog 239 (.v (.slice none 0 0)):=⟨G8⟩
instance:UN Tryz.prog 241 (.slice 36):=⟨Tryz.underlying241⟩
theorem Hb:bj Tryz.prog 241 1 false:=⟨by kernel_rfl,_,Tryz.underlying241,rfl⟩
theorem Gi:a7 Tryz.prog 241 24:=⟨Tryz.t241,by kernel_rfl,rfl⟩
theorem GC:aT Tryz.prog 241 (.v (.slice none 0 0)):=⟨Tryz.t241,_,by kernel_rfl,rfl,rfl,fun _ _ _=>bP rfl⟩
instance:TI Tryz.prog 241 1 false:=⟨Hb⟩
instance:BI Tryz.prog 241 24:=⟨Gi⟩
instance:ZI Tryz.prog 241 (.v (.slice none 0 0)):=⟨GC⟩
instance:UN Tryz.prog 255 (.array 0 16):=⟨Tryz.underlying255⟩
theorem HU:bj Tryz.prog 255 0 true:=⟨by kernel_rfl,_,Tryz.underlying255,rfl⟩
theorem Gp:a7 Tryz.prog 255 0:=⟨Tryz.t255,by kernel_rfl,rfl⟩
theorem GN:aT Tryz.prog 255 (.agg []):=⟨Tryz.t255,_,by kernel_rfl,rfl,rfl,fun _ _ _=>bp (bR)⟩
instance:TI Tryz.prog 255 0 true:=⟨HU⟩
instance:BI Tryz.prog 255 0:=⟨Gp⟩
instance:ZI Tryz.prog 255 (.agg []):=⟨GN⟩
theorem Id:bj Tryz.prog 262 1 false:=⟨by kernel_rfl,_,Tryz.underlying262,rfl⟩
theorem Hw:a7 Tryz.prog 262 8:=⟨Tryz.t262,by kernel_rfl,rfl⟩
theorem G2:aT Tryz.prog 262 (.v (.pointer none)):=⟨Tryz.t262,_,by kernel_rfl,rfl,rfl,fun _ _ _=>bP rfl⟩
instance:TI Tryz.prog 262 1 false:=⟨Id⟩
instance:BI Tryz.prog 262 8:=⟨Hw⟩
instance:ZI Tryz.prog 262 (.v (.pointer none)):=⟨G2⟩
theorem EG:aT Tryz.prog 42 (spL (0,0)):=by rw [im];exact IC
instance:EC Tryz.prog 2 gi 1 false 0:=⟨kB,Z2,T2⟩
instance:EC Tryz.prog 3 gi 1 false 0:=⟨kB,Z3,T3⟩
instance:EC Tryz.prog 29 ratL 3 true 0:=⟨ah,Hy,bF⟩
instance:EC Tryz.prog 31 cQ 9 true ⟨0,0,0⟩:=⟨cT,F6,lq⟩
instance:EC Tryz.prog 42 spL 6 true (0,0):=⟨fb,EG,Ad⟩
instance:AE Tryz.prog 42 spL 6 true (0,0):=⟨fb,EG⟩
instance:EC Tryz.prog 46 gi 1 false 0:=⟨kB,Iw,IE⟩
instance:EC Tryz.prog 62 dX 12 true ⟨⟨0,0,0⟩,0⟩:=⟨cA,ta,me⟩
instance:EC Tryz.prog 182 bh 1 false 0:=⟨bB,qF,f8⟩
section
variable {f:FuncId} {fn:Func} {c:Code} {args:List LV} {r:LV}
theorem bS (hf:Tryz.prog.funcs[f]?=some fn)
  (h:wpL Tryz.prog c (fun e L=>match e with | .exit _=>False | _=>jD Tryz.prog fn.results.toList L r []) (St.mk (fun t=>args.getD t .any) (hp [])))
  (hb:fn.body=some c:=by exact rfl) (hn:(fn.name== "runtime.NumGoroutine")=false:=by decide +kernel) (hd:da fn.ntmps c=true:=by decide +kernel) (hlen:args.length≤fn.ntmps:=by exact Nat.le_of_ble_eq_true rfl) (ht:∀ g,r.ren g=r:=by exact I6):ap Tryz.prog f args r:=ye EM hf hb hn hd hlen ht h
theorem El {bs:List Blk} (hf:Tryz.prog.funcs[f]?=some fn)
  (h:wpL Tryz.prog c (fun e L=>match e with | .exit _=>False | _=>jD Tryz.prog fn.results.toList L r bs) (St.mk (fun t=>args.getD t .any) (hp [])))
  (hb:fn.body=some c:=by exact rfl) (hn:(fn.name== "runtime.NumGoroutine")=false:=by decide +kernel) (hd:da fn.ntmps c=true:=by decide +kernel) (hlen:args.length≤fn.ntmps:=by exact Nat.le_of_ble_eq_true rfl):dB Tryz.prog f args r bs:=xy EM hf hb hn hd hlen h
theorem BC {blk blk':Blk} (hf:Tryz.prog.funcs[f]?=some fn)
  (h:wpL Tryz.prog c (fun e L=>match e with | .exit _=>False | _=>rq Tryz.prog fn.results.toList L r blk') (St.mk (fun t=>args.getD t .any) (hp [(0,blk)])))
  (hb:fn.body=some c:=by exact rfl) (hn:(fn.name== "runtime.NumGoroutine")=false:=by decide +kernel) (hd:da fn.ntmps c=true:=by decide +kernel) (hlen:args.length≤fn.ntmps:=by exact Nat.le_of_ble_eq_true rfl) (hmt:blk.mt=true:=by exact rfl):dK Tryz.prog f blk args r blk':=xo EM hf hb hn hd hlen hmt h
end
end Go.Proofs.YtfpdccbgngdhkaaGreat
end
section
set_option linter.unusedVariables false
set_option linter.unusedSimpArgs false
set_option maxHeartbeats 8000000
set_option maxRecDepth 100000
attribute [local irreducible] Go.Lg.opsL Go.Lg.wpL Go.Lg.thenL Go.Lg.blockL
namespace Go.Proofs.YtfpdccbgngdhkaaGreat
open Go.Lg
namespace Mx
theorem kC {p q:Prop} (k:q) (e:p=q:=by simp only [e1,e2,e3,e4,p1,p2,p3,q1,q2,q3,l1,t0,t1,r1,r2,r3,r4,Nat.zero_add,Nat.reduceMul,Nat.reduceAdd,b1,b2,b3,b4,b5,b6,i1,i2,i3,i4,i5,i6,Nat.reduceBEq,ej,ek];exact rfl):p:=e.mpr k
theorem tL {p:Prop} (h:p:=by first | (refine kC ?_;exact rfl) | exact rfl):p:=h
theorem CZ {p q:Prop} (k:q) (e:p=q:=by simp only [e1,e2,e3,e4,p1,p2,p3,q1,q2,q3,l1,t0,t1,r1,r2,r3,r4,Nat.zero_add,Nat.reduceMul,Nat.reduceAdd,b1,b2,b3,b4,b5,b6,i1,i2,i3,i4,i5,i6,Nat.reduceBEq,ek];exact rfl):p:=e.mpr k
theorem H4 {p:Prop} (h:p:=by first | (refine CZ ?_;exact rfl) | exact rfl):p:=h
end Mx
open Mx H0 in
theorem zw (l:List Nat) (hl:l.length≤4611686018427387904):ap Tryz.prog 208 [dj l] (dj (kd l)):=by
 unfold dj kd
 refine bS Tryz.func208 ?_
 refine dI ?_
 refine gE (fun(k:Nat) L=>(((St.mk L.slot (hp [])).put (some 0) (.list 1 (l.map bh))).put (some 3) (ai k))) (fun k=>k≤l.length∧dt l.length l=dt k l) (fun k=>k) l.length ⟨Nat.le_refl _,rfl⟩ ?_
 rintro k L1 ⟨hk,hkt⟩
 refine bJ ?_
 refine bT 8 rfl (fun h8r h8=>?_) (fun h8r h8=>?_)
 ·obtain⟨j,rfl⟩:∃ j,k=j+1:=⟨k-1,by omega⟩
  have ej:(((j+1:Nat):Int)-1).toNat=j:=by omega
  have ek:(((j+1:Nat):Int)-1)=j:=by omega
  refine bV ?_
  refine fk tL ?_
  refine aL ?_
  refine an rfl (fun h15r h15=>?_) (fun h15r h15=>?_)
  ·refine bV ?_
   refine fk H4 ?_
   refine bG ?_
   exact fA j ⟨by omega,hkt.trans (by simp only [dt];rw [if_pos (by simpa using h15)])⟩
  ·refine cg ?_
   refine ab rfl (by first | exact .sliceLh (h:=_) bB rfl Tryz.underlying27 f8 rfl om | exact .sliceRh rfl Tryz.underlying27 f8 rfl om om) ?_
   refine bw ?_
   rw [hkt,dt,if_neg (by simpa using h15)]
   exact aS rfl (.pure (ak bB _ _))
 ·have hk0:k=0:=by omega
  subst hk0
  have ej:True:=trivial
  have ek:True:=trivial
  refine bV ?_
  refine fk tL ?_
  refine bD ?_
  refine ab rfl (by first | exact .sliceLh (h:=_) bB rfl Tryz.underlying27 f8 rfl om | exact .sliceRh rfl Tryz.underlying27 f8 rfl om om) ?_
  refine bw ?_
  rw [hkt]
  exact aS rfl (.pure (ak bB _ _))
namespace J0
theorem bQ {p q:Prop} (k:q) (e:p=q:=by simp only [e1,e2,e3,e4,p1,p2,p3,q1,q2,q3,l1,t0,t1,r1,r2,r3,r4,Nat.zero_add,Nat.reduceMul,Nat.reduceAdd,b1,b2,b3,b4,b5,b6,i1,i2,i3,i4,i5,i6,Nat.reduceBEq,cS];exact rfl):p:=e.mpr k
end J0
open J0 in
theorem yb (a b:List Nat) (ha:di a) (hb:di b) (hla:a.length≤1099511627776) (hlb:b.length≤1099511627776):ap Tryz.prog 207 [dj a,dj b] (ba (val a+val b)):=by
 unfold dj ba
 refine bS Tryz.func207 ?_
 refine en ?_
 refine cr (fun L=>∃ (x:List Nat) (y:List Nat) (L1:St),(di x∧di y∧x.length≤1099511627776∧y.length≤x.length∧val a+val b=val x+val y)∧L=(((St.mk L1.slot (hp [])).put (some 0) (.list 1 (x.map bh))).put (some 1) (.list 1 (y.map bh)))) ?_ ?_
 ·refine an rfl (fun h13r h13=>?_) (fun h13r h13=>?_)
  ·refine bV ?_
   exact⟨b,a,_,⟨hb,ha,hlb,by omega,Nat.add_comm _ _⟩,((aa (aa (aJ cl) cl) cl)).symm⟩
  ·refine bG ?_
   exact⟨a,b,_,⟨ha,hb,hla,by omega,rfl⟩,((aa (aa (aJ cl) cl) cl)).symm⟩
 ·rintro _ ⟨x,y,LC13,⟨hx,hy,hlx,hyx,hxy⟩,rfl⟩
  rw [hxy]
  refine bJ ?_
  refine bM rfl rfl (.mkE (n:=x.length+1) (m:=x.length+1) ml ml om om om) ?_
  refine iP ?_
  refine tp (fun(k:Nat) (o:List Nat) (c:Nat) L=>((((((((St.mk L.slot (hp [(19,⟨1,o.map bh,true⟩)])).put (some 0) (.list 1 (x.map bh))).put (some 1) (.list 1 (y.map bh))).put (some 5) (.ref 19 1 0 (x.length+1))).put (some 6) (ce c)).put (some 20) (.list 1 (x.map bh))).put (some 21) (ai x.length)).put (some 22) (ai k))) (fun k o c=>k≤x.length∧o.length=x.length+1∧c≤1∧di o∧val (o.take k)+4294967296 ^ k*c=val (x.take k)+val (y.take k)) (fun k o c=>x.length-k) 0 (List.replicate (x.length+1) 0) 0 ⟨Nat.zero_le _,by simp,by omega,dP _,by simp [val]⟩ ?_
  rintro k o c L1 ⟨hk,hol,hc,hlo,hv⟩
  have hxk:=bH hx k
  have hyk:=bH hy k
  refine bJ ?_
  refine an rfl (fun h23r h23=>?_) (fun h23r h23=>?_)
  ·refine GU ?_
   refine an rfl (fun h34r h34=>?_) (fun h34r h34=>?_)
   ·refine HW ?_
    exact rb (k+1) (o.set k ((c+x.getD k 0+y.getD k 0) % 4294967296)) ((c+x.getD k 0+y.getD k 0)/4294967296) ⟨by omega,by simp [hol],by omega,cM hlo _ _ (Nat.mod_lt _ (by omega)),vI (by omega) hv rfl⟩
   ·refine tk ?_
    exact rb (k+1) (o.set k ((c+x.getD k 0) % 4294967296)) ((c+x.getD k 0)/4294967296) ⟨by omega,by simp [hol],by omega,cM hlo _ _ (Nat.mod_lt _ (by omega)),vI (by omega) hv (by rw [eZ y k (by omega)];rfl)⟩
  ·obtain rfl:k=x.length:=by omega
   refine ia ?_
   refine s5 [19] s4 (zw _ (by first | omega | (simp;done) | (simp;omega))) ?_
   refine bw ?_
   rw [←AV (c:=c % 4294967296) hyx hol hlo (by omega) (by rw [Nat.mod_eq_of_lt (by omega)];exact hv)]
   exact aS rfl (.pure (aG _))
theorem dZ (l:List Nat) (h:di l) (hl:l.length≤4611686018427387904):ap Tryz.prog 208 [dj l] (ba (val l)):=by
 have:=zw l hl
 rwa [dO h] at this
namespace Lj
theorem bQ {p q:Prop} (k:q) (e:p=q:=by simp only [e1,e2,e3,e4,p1,p2,p3,q1,q2,q3,l1,t0,t1,r1,r2,r3,r4,Nat.zero_add,Nat.reduceMul,Nat.reduceAdd,b1,b2,b3,b4,b5,b6,i1,i2,i3,i4,i5,i6,Nat.reduceBEq,cS,ej];exact rfl):p:=e.mpr k
end Lj
open Lj in
theorem y7 (a:List Nat) (hl:a.length≤4611686018427387904):ap Tryz.prog 223 [dj a] (bL (decide (a.length=0∨a.getD (a.length-1) 0≠0))):=by
 unfold dj
 refine bS Tryz.func223 ?_
 have ej:True:=trivial
 refine bD ?_
 refine bT 6 rfl (fun h6r h6=>?_) (fun h6r h6=>?_)
 ·have ej:True:=trivial
  refine bE ?_
  refine aS ?_ (.pure rfl)
  simp only [e1,e2,e3,e4,p1,p2,p3,q1,q2,q3,Nat.reduceBEq]
  congr 2
  first | (symm;rw [decide_eq_true_iff];omega) | (rw [Bool.eq_iff_iff,bne_iff_ne,decide_eq_true_iff];omega)
 ·have ej:((a.length:Int)-1).toNat=a.length-1:=by omega
  refine bE ?_
  refine aS ?_ (.pure rfl)
  simp only [e1,e2,e3,e4,p1,p2,p3,q1,q2,q3,Nat.reduceBEq]
  congr 2
  first | (symm;rw [decide_eq_true_iff];omega) | (rw [Bool.eq_iff_iff,bne_iff_ne,decide_eq_true_iff];omega)
namespace ME
theorem bQ {p q:Prop} (k:q) (e:p=q:=by simp only [e1,e2,e3,e4,p1,p2,p3,q1,q2,q3,l1,t0,t1,r1,r2,r3,r4,Nat.zero_add,Nat.reduceMul,Nat.reduceAdd,b1,b2,b3,b4,b5,b6,i1,i2,i3,i4,i5,i6,Nat.reduceBEq,cS,ej,ek];exact rfl):p:=e.mpr k
end ME
open ME in
theorem yr (a:List Nat) (h:di a) (hl:a.length≤2):ap Tryz.prog 260 [dj a] (ce (val a)):=by
 unfold dj
 refine bS Tryz.func260 ?_
 have ej:True:=trivial
 have ek:True:=trivial
 refine ib ?_
 refine ik (fun(k n:Nat) L=>((((St.mk L.slot (hp [])).put (some 0) (.list 1 (a.map bh))).put (some 3) (ce n)).put (some 4) (iL ((k:Int)-1)))) (fun k n=>k≤a.length∧n=val (a.drop k)) (fun k n=>k) a.length 0 ⟨Nat.le_refl _,by simp [val]⟩ ?_
 rintro k n L1 ⟨hk,hn⟩
 refine bV ?_
 refine an rfl (fun h9r h9=>?_) (fun h9r h9=>?_)
 ·obtain⟨j,rfl⟩:∃ j,k=j+1:=⟨k-1,by omega⟩
  have ej:(((j+1:Nat):Int)-1).toNat=j:=by omega
  have ek:(((j+1:Nat):Int)-1)=j:=by omega
  have hb:=bH h j
  have hn2:n<4294967296:=by have:=lY h (k:=j+1) (j:=1) (by omega);rw [hn];simpa using this
  refine uv ?_
  exact gk j (n*4294967296+a.getD j 0) ⟨by omega,by rw [de (by omega),hn];omega⟩
 ·obtain rfl:k=0:=by omega
  have ej:True:=trivial
  have ek:True:=trivial
  rw [List.drop_zero] at hn
  rw [←hn]
  refine bE ?_
  exact aS rfl (by first | exact .pure rfl | exact .pure (aG _) | exact .pure (ar _) | exact .pure (ah.pure _) | exact .pure (ak bB _ _) | exact .pure (ak ah _ _))
namespace Lc
theorem bQ {p q:Prop} (k:q) (e:p=q:=by simp only [e1,e2,e3,e4,p1,p2,p3,q1,q2,q3,l1,t0,t1,r1,r2,r3,r4,Nat.zero_add,Nat.reduceMul,Nat.reduceAdd,b1,b2,b3,b4,b5,b6,i1,i2,i3,i4,i5,i6,Nat.reduceBEq,cS,ej,ek];exact rfl):p:=e.mpr k
end Lc
open Lc in
theorem nq (a b:List Nat) (ha:di a) (hb:di b) (hla:a.length≤1099511627776) (hlb:b.length≤1099511627776):ap Tryz.prog 219 [dj a,dj b] (iL (fC (val a) (val b))):=by
 refine bS Tryz.func219 ?_
 have ej:True:=trivial
 have ek:True:=trivial
 refine cx ?_
 refine cp bK (dZ _ (by first | assumption | exact aB _) (by omega)) ?_
 refine aL ?_
 refine cp bK (dZ _ (by first | assumption | exact aB _) (by omega)) ?_
 refine dI ?_
 refine an rfl (fun h14r h14=>?_) (fun h14r h14=>?_)
 ·have hla2:(aE (val a)).length≤1099511627776:=by rw [←dO ha];unfold kd;simp;omega
  refine bv ?_
  refine an rfl (fun h19r h19=>?_) (fun h19r h19=>?_)
  ·have hE:=jI (m:=val a) (n:=val b) (by omega)
   refine cx ?_
   first | (rw [dY hE];exact aS rfl (.pure rfl)) | (rw [eF hE];exact aS rfl (.pure rfl)) | (rw [fd hE];exact aS rfl (.pure rfl))
  ·have hE:=jI (m:=val b) (n:=val a) (by omega)
   refine cg ?_
   first | (rw [dY hE];exact aS rfl (.pure rfl)) | (rw [eF hE];exact aS rfl (.pure rfl)) | (rw [fd hE];exact aS rfl (.pure rfl))
 ·have hlen:(aE (val a)).length=(aE (val b)).length:=by omega
  have hla2:(aE (val a)).length≤1099511627776:=by rw [←dO ha];unfold kd;simp;omega
  clear h14 h14r
  refine bE ?_
  refine gE (fun(k:Nat) L=>((((St.mk L.slot (hp [])).put (some 0) (ba (val a))).put (some 1) (ba (val b))).put (some 5) (iL ((k:Int)-1)))) (fun k=>k≤(aE (val a)).length∧(aE (val a)).drop k=(aE (val b)).drop k) (fun k=>k) ((aE (val a)).length) ⟨Nat.le_refl _,by rw [List.drop_length,List.drop_of_length_le (by omega)]⟩ ?_
  rintro k L1 ⟨hk,hd⟩
  refine bV ?_
  refine an rfl (fun h24r h24=>?_) (fun h24r h24=>?_)
  ·obtain⟨j,rfl⟩:∃ j,k=j+1:=⟨k-1,by omega⟩
   have ej:(((j+1:Nat):Int)-1).toNat=j:=by omega
   have ek:(((j+1:Nat):Int)-1)=j:=by omega
   refine ca ?_
   refine au 9 (by decide +kernel) ?_
   refine bD ?_
   refine an rfl (fun h35r h35=>?_) (fun h35r h35=>?_)
   ·refine bG ?_
    refine au 9 (by decide +kernel) ?_
    refine bD ?_
    refine an rfl (fun h44r h44=>?_) (fun h44r h44=>?_)
    ·have hE:=fD (aB (val a)) (k:=j) (by omega) (by omega) hd (by omega)
     rw [az,az] at hE
     refine bE ?_
     first | (rw [dY hE];exact aS rfl (.pure rfl)) | (rw [eF hE];exact aS rfl (.pure rfl)) | (rw [fd hE];exact aS rfl (.pure rfl))
    ·have hE:=fD (aB (val b)) (k:=j) (by omega) (by omega) hd.symm (by omega)
     rw [az,az] at hE
     refine ct ?_
     first | (rw [dY hE];exact aS rfl (.pure rfl)) | (rw [eF hE];exact aS rfl (.pure rfl)) | (rw [fd hE];exact aS rfl (.pure rfl))
   ·refine cg ?_
    exact fA j ⟨by omega,nG (by omega) (by omega) hd (by omega)⟩
  ·obtain rfl:k=0:=by omega
   have ej:True:=trivial
   have ek:True:=trivial
   rw [List.drop_zero,List.drop_zero] at hd
   have hE:val a=val b:=by have:=congrArg val hd;rwa [az,az] at this
   refine bD ?_
   first | (rw [dY hE];exact aS rfl (.pure rfl)) | (rw [eF hE];exact aS rfl (.pure rfl)) | (rw [fd hE];exact aS rfl (.pure rfl))
theorem l8 {b:List Nat} (h:di b):(aE (val b)).length≤b.length:=by
 rw [←dO h];unfold kd;simp;exact Nat.min_le_right _ _
open H0 in
theorem yf (a b:List Nat) (ha:di a) (hb:di b) (hla:a.length≤1099511627776) (hlb:b.length≤1099511627776) (hlt:val a<val b):ap Tryz.prog 218 [dj a,dj b] (.tup [dj [],iL 7]):=by
 refine bS Tryz.func218 ?_
 refine bD ?_
 refine cp bf (nq _ _ (by first | assumption | exact aB _) (by first | assumption | exact aB _) (by omega) (by omega)) ?_
 refine bx ?_
 refine an rfl (fun h15r h15=>?_) (fun h15r h15=>?_)
 ·refine cx ?_
  exact lr rfl (.nil 1) rfl (.pure rfl)
 ·exfalso;rw [dY hlt] at h15;omega
theorem yX {k br:Nat} {a b o:List Nat} (hol:k<o.length) (hbr:br≤1) (hx:a.getD k 0<4294967296) (hyb:b.getD k 0<4294967296) (hlo:di o) (hv:val (o.take k)+val (b.take k)=val (a.take k)+4294967296 ^ k*br) {y d:Nat}
  (hy:y=br+b.getD k 0) (hd:d=(18446744073709551616+a.getD k 0-y) % 18446744073709551616) :
  d/9223372036854775808≤1∧di (o.set k (d % 4294967296))∧val ((o.set k (d % 4294967296)).take (k+1))+val (b.take (k+1))=val (a.take (k+1))+4294967296 ^ (k+1)*(d/9223372036854775808):=by
 refine⟨by omega,cM hlo _ _ (by omega),?_⟩
 rcases Nat.lt_or_ge (a.getD k 0) y with h | h
 ·have h1:d % 4294967296=4294967296+a.getD k 0-y:=by omega
  have h2:d/9223372036854775808=1:=by omega
  rw [h1,h2]
  exact rj hol hv hy h (by omega)
 ·have h1:d % 4294967296=a.getD k 0-y:=by omega
  have h2:d/9223372036854775808=0:=by omega
  rw [h1,h2]
  exact sg hol hv hy h
namespace Li
theorem bQ {p q:Prop} (k:q) (e:p=q:=by simp only [e1,e2,e3,e4,p1,p2,p3,q1,q2,q3,l1,t0,t1,r1,r2,r3,r4,Nat.zero_add,Nat.reduceMul,Nat.reduceAdd,b1,b2,b3,b4,b5,b6,i1,i2,i3,i4,i5,i6,Nat.reduceBEq,cS];exact rfl):p:=e.mpr k
end Li
open Li in
theorem Dr (a b:List Nat) (ha:di a) (hb:di b) (hla:a.length≤1099511627776) (hlb:b.length≤1099511627776) (hle:val b≤val a):ap Tryz.prog 218 [dj a,dj b] (.tup [ba (val a-val b),iL 0]):=by
 have hbl:(aE (val b)).length≤a.length:=by
  apply cU;exact Nat.lt_of_le_of_lt hle (ks ha)
 refine bS Tryz.func218 ?_
 refine bD ?_
 refine cp bf (nq _ _ (by first | assumption | exact aB _) (by first | assumption | exact aB _) (by omega) (by omega)) ?_
 refine bx ?_
 refine an rfl (fun h15r h15=>?_) (fun h15r h15=>?_)
 ·exfalso
  rcases Nat.lt_or_eq_of_le hle with h | h
  ·rw [eF h] at h15;omega
  ·rw [fd h.symm] at h15;omega
 ·refine ca ?_
  refine cp bK (dZ _ (by first | assumption | exact aB _) (by omega)) ?_
  refine bV ?_
  refine bM rfl rfl (.mkE (n:=a.length) (m:=a.length) ml ml om om om) ?_
  refine iP ?_
  refine tp (fun(k:Nat) (o:List Nat) (br:Nat) L=>((((((((St.mk L.slot (hp [(20,⟨1,o.map bh,true⟩)])).put (some 0) (.list 1 (a.map bh))).put (some 1) (ba (val b))).put (some 6) (.ref 20 1 0 a.length)).put (some 7) (ce br)).put (some 21) (.list 1 (a.map bh))).put (some 22) (ai a.length)).put (some 23) (ai k))) (fun k o br=>k≤a.length∧o.length=a.length∧br≤1∧di o∧val (o.take k)+val ((aE (val b)).take k)=val (a.take k)+4294967296 ^ k*br) (fun k o br=>a.length-k) 0 (List.replicate a.length 0) 0 ⟨Nat.zero_le _,by simp,by omega,dP _,by simp [val]⟩ ?_
  rintro k o br L1 ⟨hk,hol,hbr,hlo,hv⟩
  have hxk:=bH ha k
  have hyk:=aZ (val b) k
  refine bJ ?_
  refine an rfl (fun h24r h24=>?_) (fun h24r h24=>?_)
  ·refine FE ?_
   refine cr (fun L=>∃ (y:Nat) (L1:St),(y=br+(aE (val b)).getD k 0)∧L=(((((((((((St.mk L1.slot (hp [(20,⟨1,o.map bh,true⟩)])).put (some 0) (.list 1 (a.map bh))).put (some 1) (ba (val b))).put (some 6) (.ref 20 1 0 a.length)).put (some 7) (ce br)).put (some 21) (.list 1 (a.map bh))).put (some 22) (ai a.length)).put (some 23) (ai k)).put (some 9) (bh (a.getD k 0))).put (some 8) (ai k)).put (some 10) (ce y))) ?_ ?_
   ·refine an rfl (fun h32r h32=>?_) (fun h32r h32=>?_)
    ·refine bD ?_
     exact⟨br+(aE (val b)).getD k 0,_,rfl,((aa (aa (aa (aa (aa (aa (aa (aa (aa (aa (aJ cl) cl) cl) cl) cl) cl) cl) cl) cl) cl) cl)).symm⟩
    ·refine bG ?_
     exact⟨br,_,by rw [eZ _ k (by omega)];rfl,((aa (aa (aa (aa (aa (aa (aa (aa (aa (aa (aJ cl) cl) cl) cl) cl) cl) cl) cl) cl) cl) cl)).symm⟩
   ·rintro _ ⟨y,LC32,hy,rfl⟩
    refine bJ ?_
    refine ab rfl (.bin rfl rfl (w7 (by omega))) ?_
    refine vU ?_
    exact rb (k+1) (o.set k ((18446744073709551616+a.getD k 0-y) % 18446744073709551616 % 4294967296)) ((18446744073709551616+a.getD k 0-y) % 18446744073709551616/9223372036854775808) ⟨by omega,by simp [hol],yX (by omega) hbr hxk hyk hlo hv hy rfl⟩
  ·obtain rfl:k=a.length:=by omega
   refine cx ?_
   refine s5 [20] s4 (dZ _ (by first | assumption | exact aB _) (by omega)) ?_
   refine ca ?_
   have e:=vo ha hlo hol hbl (by rw [az];exact hle) hv
   rw [dO hlo,az] at e
   have e2:=congrArg val e
   rw [az,az] at e2
   rw [←e2]
   exact lr rfl (.pure (ar _)) rfl (.pure rfl)
theorem rA {c x y z:Nat} (hc:c<4294967296) (hx:x<4294967296) (hy:y<4294967296) (hz:z<4294967296):c+(x*y+z)<18446744073709551616:=by
 have:=i9 hx hy;omega
theorem mul_zero {i x:Nat} {a b o:List Nat} (hx:x=a.getD i 0) (h0:x=0) (hv:val o=val (a.take i)*val b):val o=val (a.take (i+1))*val b:=by
 rw [bC,←hx,h0];simpa using hv
theorem pp {i m j x:Nat} {o:List Nat} (hj:j<m) (hz:∀ p,i+m≤p→o.getD p 0=0):∀ p,i+m≤p→(o.set (i+j) x).getD p 0=0:=fun p hp=>by
 rw [Go.Lg.getD_set_ne _ _ _ _ (by omega)];exact hz p hp
theorem px {i m x:Nat} {o:List Nat} (hz:∀ p,i+m≤p→o.getD p 0=0):∀ p,i+1+m≤p→(o.set (i+m) x).getD p 0=0:=fun p hp=>by
 rw [Go.Lg.getD_set_ne _ _ _ _ (by omega)];exact hz p (by omega)
theorem nP (n p:Nat):(List.replicate n 0).getD p 0=0:=by
 rw [List.getD_eq_getElem?_getD,List.getElem?_replicate];split<;>rfl
namespace Lh
theorem bQ {p q:Prop} (k:q) (e:p=q:=by simp only [e1,e2,e3,e4,p1,p2,p3,q1,q2,q3,l1,t0,t1,r1,r2,r3,r4,Nat.zero_add,Nat.reduceMul,Nat.reduceAdd,b1,b2,b3,b4,b5,b6,i1,i2,i3,i4,i5,i6,Nat.reduceBEq,cS,eij];exact rfl):p:=e.mpr k
end Lh
open Lh in
theorem iO (a b:List Nat) (ha:di a) (hb:di b) (hla:a.length≤1099511627776) (hlb:b.length≤1099511627776):ap Tryz.prog 137 [dj a,dj b] (ba (val a*val b)):=by
 unfold dj
 refine bS Tryz.func137 ?_
 have eij:True:=trivial
 refine bE ?_
 refine bM rfl rfl (.mkE (n:=a.length+b.length) (m:=a.length+b.length) ml ml om om om) ?_
 refine bE ?_
 refine ik (fun(i:Nat) (o:List Nat) L=>(((((((St.mk L.slot (hp [(16,⟨1,o.map bh,true⟩)])).put (some 0) (.list 1 (a.map bh))).put (some 1) (.list 1 (b.map bh))).put (some 5) (.ref 16 1 0 (a.length+b.length))).put (some 17) (.list 1 (a.map bh))).put (some 18) (ai a.length)).put (some 19) (ai i))) (fun i o=>i≤a.length∧o.length=a.length+b.length∧di o∧val o=val (a.take i)*val b∧∀ p,i+b.length≤p→o.getD p 0=0) (fun i o=>a.length-i) 0 (List.replicate (a.length+b.length) 0) ⟨Nat.zero_le _,by simp,dP _,by simp [val,jM],fun p _=>nP _ _⟩ ?_
 rintro i o L1 ⟨hi,hol,hlo,hv,hz⟩
 have hxi:=bH ha i
 have eij:True:=trivial
 refine bJ ?_
 refine an rfl (fun h20r h20=>?_) (fun h20r h20=>?_)
 ·refine ib ?_
  refine an rfl (fun h25r h25=>?_) (fun h25r h25=>?_)
  ·refine cg ?_
   exact gk (i+1) o ⟨by omega,hol,hlo,mul_zero rfl (by omega) hv,fun p hp=>hz p (by omega)⟩
  ·refine ie ?_
   refine tp (fun(j:Nat) (o:List Nat) (c:Nat) L=>(((((((((((((St.mk L.slot (hp [(16,⟨1,o.map bh,true⟩)])).put (some 0) (.list 1 (a.map bh))).put (some 1) (.list 1 (b.map bh))).put (some 5) (.ref 16 1 0 (a.length+b.length))).put (some 17) (.list 1 (a.map bh))).put (some 18) (ai a.length)).put (some 19) (ai i)).put (some 6) (ai i)).put (some 7) (bh (a.getD i 0))).put (some 8) (ce c)).put (some 26) (.list 1 (b.map bh))).put (some 27) (ai b.length)).put (some 28) (ai j))) (fun j o c=>j≤b.length∧o.length=a.length+b.length∧di o∧c<4294967296∧val o+4294967296 ^ (i+j)*c=val (a.take i)*val b+4294967296 ^ i*(a.getD i 0*val (b.take j))∧∀ p,i+b.length≤p→o.getD p 0=0) (fun j o c=>b.length-j) 0 o 0 ⟨Nat.zero_le _,hol,hlo,by omega,by rw [hv];simp [val],hz⟩ ?_
   rintro j o c L2 ⟨hj,hol,hlo,hc,hv,hz⟩
   have hyj:=bH hb j
   have hzj:=bH hlo (i+j)
   have hs:=rA hc hxi hyj hzj
   have eij:((i:Int)+(j:Int)).toNat=i+j:=by omega
   refine bJ ?_
   refine an rfl (fun h29r h29=>?_) (fun h29r h29=>?_)
   ·refine Ik ?_
    exact rb (j+1) (o.set (i+j) ((c+(a.getD i 0*b.getD j 0+o.getD (i+j) 0)) % 4294967296)) ((c+(a.getD i 0*b.getD j 0+o.getD (i+j) 0))/4294967296) ⟨by omega,by simp [hol],cM hlo _ _ (Nat.mod_lt _ (by omega)),by omega,uG (by omega) hv rfl,pp (by omega) hz⟩
   ·obtain rfl:j=b.length:=by omega
    have eij2:((i:Int)+(b.length:Int)).toNat=i+b.length:=by omega
    refine uv ?_
    exact gk (i+1) (o.set (i+b.length) (c % 4294967296)) ⟨by omega,by simp [hol],cM hlo _ _ (Nat.mod_lt _ (by omega)),by rw [Nat.mod_eq_of_lt hc];exact vL (by omega) (by omega) (hz _ (Nat.le_refl _)) rfl rfl hv,px hz⟩
 ·obtain rfl:i=a.length:=by omega
  refine cx ?_
  refine s5 [16] s4 (dZ _ (by first | assumption | exact aB _) (by first | omega | (simp;done) | (simp;omega))) ?_
  refine bw ?_
  rw [List.take_length] at hv
  rw [←hv]
  exact aS rfl (by first | exact .pure rfl | exact .pure (aG _) | exact .pure (ar _) | exact .pure (ah.pure _) | exact .pure (ak bB _ _) | exact .pure (ak ah _ _))
namespace Ll
theorem bQ {p q:Prop} (k:q) (e:p=q:=by simp only [e1,e2,e3,e4,p1,p2,p3,q1,q2,q3,l1,t0,t1,r1,r2,r3,r4,Nat.zero_add,Nat.reduceMul,Nat.reduceAdd,b1,b2,b3,b4,b5,b6,i1,i2,i3,i4,i5,i6,Nat.reduceBEq,cS,ej,ek];exact rfl):p:=e.mpr k
end Ll
open Ll in
theorem yB (a:List Nat) (d:Nat) (ha:di a) (hla:a.length≤1099511627776) (hd0:0<d) (hd:d<4294967296):ap Tryz.prog 261 [dj a,iV d] (.tup [ba (val a/d),iV (val a % d)]):=by
 unfold dj
 refine bS Tryz.func261 ?_
 have ej:True:=trivial
 have ek:True:=trivial
 refine bv ?_
 refine bM rfl rfl (.mkE (n:=a.length) (m:=a.length) ml ml om om om) ?_
 refine je ?_
 refine tp (fun(k:Nat) (q:List Nat) (r:Nat) L=>((((((St.mk L.slot (hp [(11,⟨1,q.map bh,true⟩)])).put (some 0) (.list 1 (a.map bh))).put (some 1) (iV d)).put (some 6) (.ref 11 1 0 a.length)).put (some 7) (ce r)).put (some 8) (iL ((k:Int)-1)))) (fun k q r=>k≤a.length∧q.length=a.length∧di q∧r<d∧val (q.drop k)*d+r=val (a.drop k)) (fun k q r=>k) a.length (List.replicate a.length 0) 0 ⟨Nat.le_refl _,by simp,dP _,hd0,by simp [val]⟩ ?_
 rintro k q r L1 ⟨hk,hql,hlq,hr,hv⟩
 refine bV ?_
 refine an rfl (fun h16r h16=>?_) (fun h16r h16=>?_)
 ·obtain⟨j,rfl⟩:∃ j,k=j+1:=⟨k-1,by omega⟩
  have ej:(((j+1:Nat):Int)-1).toNat=j:=by omega
  have ek:(((j+1:Nat):Int)-1)=j:=by omega
  have hxj:=bH ha j
  refine tk ?_
  refine ab rfl (.bin rfl rfl (rG (by omega) (by omega))) ?_
  refine ib ?_
  exact rb j (q.set j ((r*4294967296+a.getD j 0)/d % 4294967296)) ((r*4294967296+a.getD j 0) % d) ⟨by omega,by simp [hql],cM hlq _ _ (Nat.mod_lt _ (by omega)),Nat.mod_lt _ hd0,by rw [Nat.mod_eq_of_lt (rZ hr hxj)];exact pz (by omega) hql hv rfl⟩
 ·obtain rfl:k=0:=by omega
  have ej:True:=trivial
  have ek:True:=trivial
  refine cx ?_
  refine s5 [11] s4 (dZ _ (by first | assumption | exact aB _) (by first | omega | (simp;done) | (simp;omega))) ?_
  refine bV ?_
  obtain⟨E1,E2⟩:=pB hd0 hr hlq hv
  rw [dO hlq] at E1
  have E3:=congrArg val E1
  rw [az,az] at E3
  rw [←E3,←E2]
  have E4:r % 4294967296=r:=Nat.mod_eq_of_lt (by omega)
  refine lr rfl (.pure (ar _)) rfl ?_
  show Imm _ (iV (r % 4294967296)) (iV r)
  rw [E4]
  exact .pure rfl
theorem rv {s:Nat} (hs:s<32):2 ^ s≤2147483648∧0<2 ^ s:=⟨Nat.pow_le_pow_right (n:=2) (by omega) (show s≤31 by omega),Nat.pow_pos (by omega)⟩
theorem BY {m:Nat} (h:m<256):(0:Int)≤IntKind.u8.wrap (m:Int)∧(IntKind.u8.wrap (m:Int)).toNat=m:=by
 rw [IntKind.wrap_u8];omega
theorem zG {x p:Nat} (hx:x<4294967296) (hp:p≤2147483648):x*p≤9223372034707292160:=by
 have:=Nat.mul_le_mul (Nat.le_sub_one_of_lt hx) hp;simpa using this
theorem rV {x p c:Nat} (hx:x<4294967296) (hc:c<p):(x*p+c)/4294967296<p:=by
 rw [Nat.div_lt_iff_lt_mul (by omega)]
 have:(x+1)*p≤4294967296*p:=Nat.mul_le_mul_right _ hx
 rw [Nat.add_mul] at this
 rw [Nat.mul_comm p];omega
namespace Mr
theorem bQ {p q:Prop} (k:q) (e:p=q:=by simp only [e1,e2,e3,e4,p1,p2,p3,q1,q2,q3,l1,t0,t1,r1,r2,r3,r4,Nat.zero_add,Nat.reduceMul,Nat.reduceAdd,b1,b2,b3,b4,b5,b6,i1,i2,i3,i4,i5,i6,Nat.reduceBEq,cS];exact rfl):p:=e.mpr k
end Mr
open Mr in
theorem AS (a:List Nat) (s:Nat) (ha:di a) (hla:a.length≤1099511627776) (hs:s<32):dB Tryz.prog 263 [dj a,ai s] (.ref 1 1 0 (a.length+1)) [⟨1,(eJ (a.length+1) (val a*2 ^ s)).map bh,true⟩]:=by
 unfold dj
 refine El Tryz.func263 ?_
 refine bv ?_
 refine bM rfl rfl (.mkE (n:=a.length+1) (m:=a.length+1) ml ml om om om) ?_
 refine iP ?_
 refine tp (fun(k:Nat) (o:List Nat) (c:Nat) L=>((((((((St.mk L.slot (hp [(12,⟨1,o.map bh,true⟩)])).put (some 0) (.list 1 (a.map bh))).put (some 1) (ai s)).put (some 5) (.ref 12 1 0 (a.length+1))).put (some 6) (ce c)).put (some 13) (.list 1 (a.map bh))).put (some 14) (ai a.length)).put (some 15) (ai k))) (fun k o c=>k≤a.length∧o.length=a.length+1∧c<2 ^ s∧di o∧val (o.take k)+4294967296 ^ k*c=val (a.take k)*2 ^ s) (fun k o c=>a.length-k) 0 (List.replicate (a.length+1) 0) 0 ⟨Nat.zero_le _,by simp,(rv hs).2,dP _,by simp [val]⟩ ?_
 rintro k o c L1 ⟨hk,hol,hc,hlo,hv⟩
 have hxk:=bH ha k
 obtain⟨hp1,hp2⟩:=rv hs
 have hsx:=zG hxk hp1
 refine bJ ?_
 refine an rfl (fun h16r h16=>?_) (fun h16r h16=>?_)
 ·refine ia ?_
  refine ab rfl (.sh rfl rfl (Fz (by omega) (by omega))) ?_
  refine ab rfl (.bin rfl rfl (Ge hc (by omega))) ?_
  refine vU ?_
  exact rb (k+1) (o.set k ((a.getD k 0*2 ^ s+c) % 4294967296)) ((a.getD k 0*2 ^ s+c)/4294967296) ⟨by omega,by simp [hol],rV hxk hc,cM hlo _ _ (Nat.mod_lt _ (by omega)),vX (by omega) hv rfl⟩
 ·obtain rfl:k=a.length:=by omega
  refine uv ?_
  have hc2:c % 4294967296=c:=Nat.mod_eq_of_lt (by omega)
  have E:=ws hol hv
  have E2:=mn (cM hlo a.length c (by omega)) (by simp only [List.length_set];exact hol)
  rw [E] at E2
  rw [←E2]
  simp only [hc2]
  exact k9 rfl rfl (al bB _)
open H0 in
theorem x7 (n:Nat) (hn:n<18446744073709551616):ap Tryz.prog 209 [ce n] (ba n):=by
 have hL:di [n % 4294967296,n/4294967296 % 4294967296]:=by
  intro x hx;simp at hx;omega
 have hV:val [n % 4294967296,n/4294967296 % 4294967296]=n:=by rw [qB];omega
 refine bS Tryz.func209 ?_
 refine ct ?_
 refine s5 [8] s4 (dZ _ (by first | assumption | exact aB _) (by first | omega | (simp;done) | (simp;omega))) ?_
 refine bw ?_
 skip
 exact aS rfl (by rw [hV];exact .pure (ar _))
namespace K9
theorem kC {p q:Prop} (k:q) (e:p=q:=by simp only [e1,e2,e3,e4,p1,p2,p3,q1,q2,q3,l1,t0,t1,r1,r2,r3,r4,Nat.zero_add,Nat.reduceMul,Nat.reduceAdd,b1,b2,b3,b4,b5,b6,i1,i2,i3,i4,i5,i6,Nat.reduceBEq,hbn];exact rfl):p:=e.mpr k
theorem tL {p:Prop} (h:p:=by first | (refine kC ?_;exact rfl) | exact rfl):p:=h
end K9
open K9 H0 in
theorem vO (n:Nat) (hn:n<4294967296):ap Tryz.prog 259 [iV n] (iL (cy n)):=by
 refine bS Tryz.func259 ?_
 refine bE ?_
 refine cr (fun L=>∃ (m:Nat) (q:Nat) (L1:St),(cy n=q+cy m∧m<65536∧q≤16)∧L=(((St.mk L1.slot (hp [])).put (some 0) (iV m)).put (some 2) (iL q))) ?_ ?_
 ·refine an rfl (fun h4r h4=>?_) (fun h4r h4=>?_)
  ·refine bx ?_
   refine ab rfl (.sh rfl rfl (wZ (m:=16) (by decide))) ?_
   refine bV ?_
   exact⟨n/2 ^ 16,16,_,⟨kR (by omega),by omega,by omega⟩,((aa (aa (aJ cl) cl) cl)).symm⟩
  ·refine bG ?_
   exact⟨n,0,_,⟨by omega,by omega,by omega⟩,((aa (aa (aJ cl) cl) cl)).symm⟩
 ·rintro _ ⟨m,q,LC4,⟨hb1,hm,hq⟩,rfl⟩
  refine cx ?_
  refine cr (fun L=>∃ (m2:Nat) (q2:Nat) (L1:St),(cy n=q2+cy m2∧m2<256∧q2≤24)∧L=(((St.mk L1.slot (hp [])).put (some 0) (iV m2)).put (some 2) (iL q2))) ?_ ?_
  ·refine an rfl (fun h8r h8=>?_) (fun h8r h8=>?_)
   ·refine bx ?_
    refine ab rfl (.sh rfl rfl (wZ (m:=8) (by decide))) ?_
    refine cg ?_
    exact⟨m/2 ^ 8,q+8,_,⟨by rw [hb1,kR (n:=m) (k:=8) (by omega)];omega,by omega,by omega⟩,((aa (aa (aJ cl) cl) cl)).symm⟩
   ·refine bG ?_
    exact⟨m,q,_,⟨hb1,by omega,by omega⟩,((aa (aa (aJ cl) cl) cl)).symm⟩
  ·rintro _ ⟨m2,q2,LC8,⟨hb2,hm2,hq2⟩,rfl⟩
   have hb8:cy m2≤8:=eI.2 hm2
   have hbn:(UInt8.ofNat (cy m2)).toNat=cy m2:=(by decide:∀ k,k≤8→(UInt8.ofNat k).toNat=k) _ hb8
   refine bJ ?_
   refine ab rfl (.indexS (b:=UInt8.ofNat (cy m2)) rfl Tryz.underlying9 rfl (BY hm2).1 (by rw [(BY hm2).2];exact Js (by decide +kernel) hm2)) ?_
   refine ab rfl (.cvI Tryz.underlying5 Tryz.underlying3 rfl (by omega) (by omega)) ?_
   refine ab rfl (.bin rfl rfl (ez (by omega) (by omega))) ?_
   refine aL ?_
   refine fk tL ?_
   refine bG ?_
   rw [hb2]
   exact aS rfl (by first | exact .pure rfl | (rw [hbn];exact .pure rfl))
open H0 in
theorem Ds (n:Nat) (hn:n<4294967296):ap Tryz.prog 262 [iV n] (iL (32-cy n)):=by
 have hb:cy n≤32:=eI.2 hn
 refine bS Tryz.func262 ?_
 refine cx ?_
 refine cp bK (vO _ (by omega)) ?_
 refine ca ?_
 exact aS rfl (by first | exact .pure rfl | exact .pure (aG _) | exact .pure (ar _) | exact .pure (ah.pure _) | exact .pure (ak bB _ _) | exact .pure (ak ah _ _))
theorem iS (l:List Nat) (h:di l) (hl:l.length≤1099511627776):(aE (val l)).length≤1099511627776:=Nat.le_trans (l8 h) hl
theorem ro {n:Nat} (h:0<(aE n).length):32*((aE n).length-1)+cy ((aE n).getD ((aE n).length-1) 0)=cy n:=by
 have:=xX (aB n) (jJ n) h
 rw [az] at this;omega
namespace Lb
theorem bQ {p q:Prop} (k:q) (e:p=q:=by simp only [e1,e2,e3,e4,p1,p2,p3,q1,q2,q3,l1,t0,t1,r1,r2,r3,r4,Nat.zero_add,Nat.reduceMul,Nat.reduceAdd,b1,b2,b3,b4,b5,b6,i1,i2,i3,i4,i5,i6,Nat.reduceBEq,cS,ej];exact rfl):p:=e.mpr k
end Lb
open Lb in
theorem gU (a:List Nat) (ha:di a) (hla:a.length≤1099511627776):ap Tryz.prog 201 [dj a] (iL (cy (val a))):=by
 have hlt:=iS a ha hla
 refine bS Tryz.func201 ?_
 have ej:True:=trivial
 refine cx ?_
 refine cp bK (dZ _ (by first | assumption | exact aB _) (by first | omega | (simp;done) | (simp;omega))) ?_
 refine bD ?_
 refine an rfl (fun h7r h7=>?_) (fun h7r h7=>?_)
 ·have h0:val a=0:=cH.1 (List.eq_nil_of_length_eq_zero (by omega))
  have hz:cy (val a)=0:=el.2 h0
  refine bV ?_
  rw [hz]
  exact aS rfl (by first | exact .pure rfl | exact .pure (aG _) | exact .pure (ar _) | exact .pure (ah.pure _) | exact .pure (ak bB _ _) | exact .pure (ak ah _ _))
 ·have hpos:0<(aE (val a)).length:=by omega
  have ej:(((aE (val a)).length:Int)-1).toNat=(aE (val a)).length-1:=by omega
  have hz:=ro hpos
  have hlim:=aZ (val a) ((aE (val a)).length-1)
  have hb32:cy ((aE (val a)).getD ((aE (val a)).length-1) 0)≤32:=eI.2 hlim
  refine dI ?_
  refine cp bK (vO _ (by rw [ej];exact hlim)) ?_
  refine ab rfl (.bin rfl rfl (ez (by simp only [ej,cS];omega) (by simp only [ej,cS];omega))) ?_
  refine bw ?_
  refine aS ?_ (.pure rfl)
  simp only [e1,e2,e3,e4,p1,p2,p3,q1,q2,q3,Nat.reduceBEq]
  congr 2
  omega
namespace J2
theorem kC {p q:Prop} (k:q) (e:p=q:=by simp only [e1,e2,e3,e4,p1,p2,p3,q1,q2,q3,l1,t0,t1,r1,r2,r3,r4,Nat.zero_add,Nat.reduceMul,Nat.reduceAdd,b1,b2,b3,b4,b5,b6,i1,i2,i3,i4,i5,i6,Nat.reduceBEq,List.take_zero,List.take_nil,List.nil_append,ae bB,LV.kill];exact rfl):p:=e.mpr k
theorem tL {p:Prop} (h:p:=by first | (refine kC ?_;exact rfl) | exact rfl):p:=h
end J2
open J2 H0 in
theorem lj (a:List Nat) (hla:a.length≤1099511627776):ap Tryz.prog 220 [dj a] (dj a):=by
 unfold dj
 refine bS Tryz.func220 ?_
 refine bV ?_
 refine qu (Av (sz:=1) (l:=a.map bh) rfl Tryz.underlying27 (fun b hb=>?_))
 refine aL ?_
 refine an rfl (fun h4r h4=>?_) (fun h4r h4=>?_)
 ·have hnil:a=[]:=by simpa using hb h4r
  subst hnil
  refine bV ?_
  exact aS rfl (.nil 1)
 ·refine bJ ?_
  refine aK rfl (.app rfl rfl rfl rfl rfl (Nat.zero_le _) (.inr rfl) (by decide) Tryz.underlying27 Tryz.underlying27 qF f8 rfl sc (.inr (.inl rfl)) (by simp;omega) (by simp;omega) (by decide)) ?_
  refine aL ?_
  refine fk tL ?_
  refine bG ?_
  exact fM [7] rfl rfl (bg bB rfl rfl (by simp))
namespace Kc
theorem bQ {p q:Prop} (k:q) (e:p=q:=by simp only [e1,e2,e3,e4,p1,p2,p3,q1,q2,q3,l1,t0,t1,r1,r2,r3,r4,Nat.zero_add,Nat.reduceMul,Nat.reduceAdd,b1,b2,b3,b4,b5,b6,i1,i2,i3,i4,i5,i6,Nat.reduceBEq,cS];exact rfl):p:=e.mpr k
end Kc
open Kc in
theorem ms (a b:List Nat) (hla:a.length≤1099511627776) (hlb:b.length≤1099511627776):ap Tryz.prog 217 [dj a,dj b] (bL (decide (a=b))):=by
 unfold dj
 refine bS Tryz.func217 ?_
 refine en ?_
 refine an rfl (fun h10r h10=>?_) (fun h10r h10=>?_)
 ·have hE:a≠b:=by rintro rfl;omega
  refine bV ?_
  first | (rw [decide_eq_true hE];exact aS rfl (.pure rfl)) | (rw [decide_eq_false hE];exact aS rfl (.pure rfl))
 ·have hl:a.length=b.length:=by omega
  clear h10 h10r
  refine bD ?_
  refine gE (fun(k:Nat) L=>((((((St.mk L.slot (hp [])).put (some 0) (.list 1 (a.map bh))).put (some 1) (.list 1 (b.map bh))).put (some 11) (.list 1 (a.map bh))).put (some 12) (ai a.length)).put (some 13) (ai k))) (fun k=>k≤a.length∧a.take k=b.take k) (fun k=>a.length-k) 0 ⟨Nat.zero_le _,rfl⟩ ?_
  rintro k L1 ⟨hk,ht⟩
  refine bJ ?_
  refine an rfl (fun h14r h14=>?_) (fun h14r h14=>?_)
  ·refine bD ?_
   refine au 9 (by decide +kernel) ?_
   refine bD ?_
   refine an rfl (fun h24r h24=>?_) (fun h24r h24=>?_)
   ·have hE:a≠b:=by rintro rfl;omega
    refine bD ?_
    first | (rw [decide_eq_true hE];exact aS rfl (.pure rfl)) | (rw [decide_eq_false hE];exact aS rfl (.pure rfl))
   ·refine cx ?_
    exact fA (k+1) ⟨by omega,tx (by omega) (by omega) ht (by omega)⟩
  ·obtain rfl:k=a.length:=by omega
   have hE:a=b:=by rw [List.take_length,hl,List.take_length] at ht;exact ht
   refine bD ?_
   first | (rw [decide_eq_true hE];exact aS rfl (.pure rfl)) | (rw [decide_eq_false hE];exact aS rfl (.pure rfl))
namespace My
theorem bQ {p q:Prop} (k:q) (e:p=q:=by simp only [e1,e2,e3,e4,p1,p2,p3,q1,q2,q3,l1,t0,t1,r1,r2,r3,r4,Nat.zero_add,Nat.reduceMul,Nat.reduceAdd,b1,b2,b3,b4,b5,b6,i1,i2,i3,i4,i5,i6,Nat.reduceBEq,ej,ek,cS];exact rfl):p:=e.mpr k
end My
open My in
theorem Ap (l:List Nat) (hl:l.length≤4611686018427387904) (h0:0<l.length):dK Tryz.prog 208 ⟨1,l.map bh,true⟩ [.ref 0 1 0 l.length] (.ref 0 1 0 (dt l.length l)) ⟨1,l.map bh,true⟩:=by
 refine BC Tryz.func208 ?_
 have ej:True:=trivial
 have ek:True:=trivial
 refine dI ?_
 refine gE (fun(k:Nat) L=>(((St.mk L.slot (hp [(0,⟨1,l.map bh,true⟩)])).put (some 0) (.ref 0 1 0 l.length)).put (some 3) (ai k))) (fun k=>k≤l.length∧dt l.length l=dt k l) (fun k=>k) l.length ⟨Nat.le_refl _,rfl⟩ ?_
 rintro k L1 ⟨hk,hkt⟩
 refine bJ ?_
 refine bT 8 rfl (fun h8r h8=>?_) (fun h8r h8=>?_)
 ·obtain⟨j,rfl⟩:∃ j,k=j+1:=⟨k-1,by omega⟩
  have ej:(((j+1:Nat):Int)-1).toNat=j:=by omega
  have ek:(((j+1:Nat):Int)-1)=j:=by omega
  refine cg ?_
  refine an rfl (fun h15r h15=>?_) (fun h15r h15=>?_)
  ·refine bv ?_
   exact fA j ⟨by omega,hkt.trans (by simp only [dt];rw [if_pos (by simpa using h15)])⟩
  ·refine cg ?_
   refine ab rfl (by first | exact .sliceLh (h:=_) bB rfl Tryz.underlying27 f8 rfl om | exact .sliceRh rfl Tryz.underlying27 f8 rfl om om) ?_
   refine bw ?_
   rw [hkt,dt,if_neg (by simpa using h15)]
   exact i8 rfl .ref rfl rfl (al bB _)
 ·have hk0:k=0:=by omega
  subst hk0
  refine ia ?_
  refine ab rfl (by first | exact .sliceLh (h:=_) bB rfl Tryz.underlying27 f8 rfl om | exact .sliceRh rfl Tryz.underlying27 f8 rfl om om) ?_
  refine bw ?_
  rw [hkt]
  exact i8 rfl .ref rfl rfl (al bB _)
theorem yn (l:List Nat) (n:Nat) (hn:n=l.length) (hl:n≤4611686018427387904) (h0:0<n):dK Tryz.prog 208 ⟨1,l.map bh,true⟩ [.ref 0 1 0 n] (.ref 0 1 0 (dt n l)) ⟨1,l.map bh,true⟩:=by
 subst hn;exact Ap l hl h0
theorem sP (x s:Nat) (hla:(aE x).length≤1099511627776) (hs:s<32):dB Tryz.prog 263 [ba x,ai s] (.ref 1 1 0 ((aE x).length+1)) [⟨1,(eJ ((aE x).length+1) (x*2 ^ s)).map bh,true⟩]:=by
 have:=AS (aE x) s (aB x) hla hs
 rw [az] at this
 exact this
theorem AO (x:Nat):val [x]=x:=by simp [val]
theorem Fh {x:Nat} (h:x≤32):(32:Int)-(x:Int)=((32-x:Nat):Int):=by omega
namespace Ld
theorem bQ {p q:Prop} (k:q) (e:p=q:=by simp only [e1,e2,e3,e4,p1,p2,p3,q1,q2,q3,l1,t0,t1,r1,r2,r3,r4,Nat.zero_add,Nat.reduceMul,Nat.reduceAdd,b1,b2,b3,b4,b5,b6,i1,i2,i3,i4,i5,i6,Nat.reduceBEq,cS,az,ej,ek,es,eV,ej1,ej2,ej3,ehm,ehg,en1,en2,eij,eiij,eqn,egi,egi1,List.set_set,List.length_set,Nat.add_mod_mod,eg2,eg3,ei1,enV];exact rfl):p:=e.mpr k
theorem kC {p q:Prop} (k:q) (e:p=q:=by simp only [e1,e2,e3,e4,p1,p2,p3,q1,q2,q3,l1,t0,t1,r1,r2,r3,r4,Nat.zero_add,Nat.reduceMul,Nat.reduceAdd,b1,b2,b3,b4,b5,b6,i1,i2,i3,i4,i5,i6,Nat.reduceBEq,cS,az,ej,ek,es,eV,ej1,ej2,ej3,ehm,ehg,en1,en2,eij,eiij,eqn,egi,egi1,List.set_set,List.length_set,Nat.add_mod_mod,eg2,eg3,ei1,enV,ehg];exact rfl):p:=e.mpr k
theorem tL {p:Prop} (h:p:=by first | (refine kC ?_;exact rfl) | exact rfl):p:=h
theorem CZ {p q:Prop} (k:q) (e:p=q:=by simp only [e1,e2,e3,e4,p1,p2,p3,q1,q2,q3,l1,t0,t1,r1,r2,r3,r4,Nat.zero_add,Nat.reduceMul,Nat.reduceAdd,b1,b2,b3,b4,b5,b6,i1,i2,i3,i4,i5,i6,Nat.reduceBEq,cS,az,ej,ek,es,eV,ej1,ej2,ej3,ehm,ehg,en1,en2,eij,eiij,eqn,egi,egi1,List.set_set,List.length_set,Nat.add_mod_mod,eg2,eg3,ei1,enV,AO];exact rfl):p:=e.mpr k
theorem H4 {p:Prop} (h:p:=by first | (refine CZ ?_;exact rfl) | exact rfl):p:=h
theorem Gf {p q:Prop} (k:q) (e:p=q:=by simp only [e1,e2,e3,e4,p1,p2,p3,q1,q2,q3,l1,t0,t1,r1,r2,r3,r4,Nat.zero_add,Nat.reduceMul,Nat.reduceAdd,b1,b2,b3,b4,b5,b6,i1,i2,i3,i4,i5,i6,Nat.reduceBEq,cS,az,ej,ek,es,eV,ej1,ej2,ej3,ehm,ehg,en1,en2,eij,eiij,eqn,egi,egi1,List.set_set,List.length_set,Nat.add_mod_mod,eg2,eg3,ei1,enV,dq,ehm];exact rfl):p:=e.mpr k
theorem JC {p:Prop} (h:p:=by first | (refine Gf ?_;exact rfl) | exact rfl):p:=h
theorem FL {p q:Prop} (k:q) (e:p=q:=by simp only [e1,e2,e3,e4,p1,p2,p3,q1,q2,q3,l1,t0,t1,r1,r2,r3,r4,Nat.zero_add,Nat.reduceMul,Nat.reduceAdd,b1,b2,b3,b4,b5,b6,i1,i2,i3,i4,i5,i6,Nat.reduceBEq,cS,az,ej,ek,es,eV,ej1,ej2,ej3,ehm,ehg,en1,en2,eij,eiij,eqn,egi,egi1,List.set_set,List.length_set,Nat.add_mod_mod,eg2,eg3,ei1,enV,enV];exact rfl):p:=e.mpr k
theorem Jk {p:Prop} (h:p:=by first | (refine FL ?_;exact rfl) | exact rfl):p:=h
theorem gm {p:Prop} (h:p:=by first | rfl | (refine FL ?_;first | exact trivial | rfl | (congr 3<;>omega) | (congr 2<;>omega))):p:=h
theorem Hf {p q:Prop} (k:q) (e:p=q:=by simp only [e1,e2,e3,e4,p1,p2,p3,q1,q2,q3,l1,t0,t1,r1,r2,r3,r4,Nat.zero_add,Nat.reduceMul,Nat.reduceAdd,b1,b2,b3,b4,b5,b6,i1,i2,i3,i4,i5,i6,Nat.reduceBEq,cS,az,ej,ek,es,eV,ej1,ej2,ej3,ehm,ehg,en1,en2,eij,eiij,eqn,egi,egi1,List.set_set,List.length_set,Nat.add_mod_mod,eg2,eg3,ei1,enV,enV,ehm];exact rfl):p:=e.mpr k
theorem vh {p:Prop} (h:p:=by first | rfl | (refine Hf ?_;first | exact trivial | rfl | (congr 3<;>omega) | (congr 2<;>omega))):p:=h
theorem GQ {p q:Prop} (k:q) (e:p=q:=by simp only [e1,e2,e3,e4,p1,p2,p3,q1,q2,q3,l1,t0,t1,r1,r2,r3,r4,Nat.zero_add,Nat.reduceMul,Nat.reduceAdd,b1,b2,b3,b4,b5,b6,i1,i2,i3,i4,i5,i6,Nat.reduceBEq,cS,az,ej,ek,es,eV,ej1,ej2,ej3,ehm,ehg,en1,en2,eij,eiij,eqn,egi,egi1,List.set_set,List.length_set,Nat.add_mod_mod,eg2,eg3,ei1,enV,←hT];exact rfl):p:=e.mpr k
theorem IY {p:Prop} (h:p:=by first | (refine GQ ?_;exact rfl) | exact rfl):p:=h
end Ld
open Ld in
theorem y8 (b ul ql:List Nat) (n s m q0 j:Nat) (enV:(aE (val b*2 ^ s)).length=n+2) (hnm:n+2≤m) (hm4:m≤1099511627776) (hq0:q0=m+1-(n+2)) (hk:j+1≤q0) (hul:ul.length=m+1) (hql:ql.length=q0) (hlu:di ul) (hlq:di ql) (hvt:2147483648≤(aE (val b*2 ^ s)).getD (n+1) 0) (hV0:0<(val b*2 ^ s)) (hVlt:(val b*2 ^ s)<4294967296 ^ (n+2)) (hlt:val ul<(val b*2 ^ s)*4294967296 ^ (j+1)) {Q:LEx→St→Prop} (L1:St)
  (hQ:∀ (x:Nat) (L2:St),(val ul/4294967296 ^ j/(val b*2 ^ s)≤x∧x≤val ul/4294967296 ^ j/(val b*2 ^ s)+1∧x<4294967296)→Q .normal ((((((((St.mk L2.slot (hp [(1001057,⟨1,ul.map bh,true⟩),(1001105,⟨1,(eJ ((aE (val b)).length+1) (val b*2 ^ s)).map bh,false⟩),(77,⟨1,ql.map bh,true⟩)])).put (some 4) (.ref 77 1 0 q0)).put (some 9) (ai s)).put (some 10) (.ref 1001057 1 0 (m+1))).put (some 11) (ba (val b*2 ^ s))).put (some 12) (ai (n+2))).put (some 13) (iL (((j+1:Nat):Int)-1))).put (some 15) (ce x))) :
  wpL Tryz.prog ((ti Tryz.f206 [1,1,1,1,1,1,1,0,1,0,0,1,0,0,1,1,0]).getD .skip) Q (((((((((St.mk L1.slot (hp [(1001057,⟨1,ul.map bh,true⟩),(1001105,⟨1,(eJ ((aE (val b)).length+1) (val b*2 ^ s)).map bh,false⟩),(77,⟨1,ql.map bh,true⟩)])).put (some 4) (.ref 77 1 0 q0)).put (some 9) (ai s)).put (some 10) (.ref 1001057 1 0 (m+1))).put (some 11) (ba (val b*2 ^ s))).put (some 12) (ai (n+2))).put (some 13) (iL (((j+1:Nat):Int)-1))).put (some 15) (ce ((ul.getD (n+2+j) 0*4294967296+ul.getD (n+1+j) 0)/(aE (val b*2 ^ s)).getD (n+1) 0))).put (some 16) (ce ((ul.getD (n+2+j) 0*4294967296+ul.getD (n+1+j) 0) % (aE (val b*2 ^ s)).getD (n+1) 0))):=by
 have ej:True:=trivial
 have ek:True:=trivial
 have es:True:=trivial
 have eV:True:=trivial
 have ej1:True:=trivial
 have ej2:True:=trivial
 have ej3:True:=trivial
 have ehm:True:=trivial
 have ehg:True:=trivial
 have en1:True:=trivial
 have en2:True:=trivial
 have eij:True:=trivial
 have eiij:True:=trivial
 have eqn:True:=trivial
 have egi:True:=trivial
 have egi1:True:=trivial
 have eg2:True:=trivial
 have eg3:True:=trivial
 have ei1:True:=trivial
 have ej1:((j:Int)+((n+2:Nat):Int)).toNat=n+2+j:=by omega
 have ej2:((j:Int)+((n+2:Nat):Int)-1).toNat=n+1+j:=by omega
 have ej3:((j:Int)+((n+2:Nat):Int)-2).toNat=n+j:=by omega
 have en1:(((n+2:Nat):Int)-1).toNat=n+1:=by omega
 have en2:(((n+2:Nat):Int)-2).toNat=n:=by omega
 have ek:(((j+1:Nat):Int)-1)=(j:Int):=by omega
 have hv1l:=aZ ((val b*2 ^ s)) (n+1)
 have hv2l:=aZ ((val b*2 ^ s)) n
 have hu0:=bH hlu (n+2+j)
 have hu1:=bH hlu (n+1+j)
 have hu2:=bH hlu (n+j)
 obtain⟨vl,rl,hvl,hrl,hVe,hRe,hRV⟩:=tj (j:=j) enV (by omega) hlu hlt
 have hun:=FY hVe hRe hvl hv2l hRV
 have htop:=C1 hVe hRe hrl hu2 (by omega)
 have hqB:val ul/4294967296 ^ j/(val b*2 ^ s)<4294967296:=by rw [Nat.div_lt_iff_lt_mul hV0,Nat.mul_comm];exact hRV
 refine n9 rfl ?_
 refine aL ?_
 refine ik (fun(x rest:Nat) L=>(((((((((St.mk L.slot (hp [(1001057,⟨1,ul.map bh,true⟩),(1001105,⟨1,(eJ ((aE (val b)).length+1) (val b*2 ^ s)).map bh,false⟩),(77,⟨1,ql.map bh,true⟩)])).put (some 4) (.ref 77 1 0 q0)).put (some 9) (ai s)).put (some 10) (.ref 1001057 1 0 (m+1))).put (some 11) (ba (val b*2 ^ s))).put (some 12) (ai (n+2))).put (some 13) (iL (((j+1:Nat):Int)-1))).put (some 15) (ce x)).put (some 16) (ce rest))) (fun x rest=>val ul/4294967296 ^ j/(val b*2 ^ s)≤x∧x*(aE (val b*2 ^ s)).getD (n+1) 0+rest=(ul.getD (n+2+j) 0*4294967296+ul.getD (n+1+j) 0)∧rest<4294967296) (fun x rest=>x) ((ul.getD (n+2+j) 0*4294967296+ul.getD (n+1+j) 0)/(aE (val b*2 ^ s)).getD (n+1) 0) ((ul.getD (n+2+j) 0*4294967296+ul.getD (n+1+j) 0) % (aE (val b*2 ^ s)).getD (n+1) 0) ⟨htop,by rw [Nat.mul_comm];exact Nat.div_add_mod _ _,Nat.lt_trans (Nat.mod_lt _ (by omega)) hv1l⟩ ?_
 rintro x rest L2 ⟨hx,hxr,hrest⟩
 have hxt:x≤x*(aE (val b*2 ^ s)).getD (n+1) 0:=Nat.le_mul_of_pos_right _ (by omega)
 refine bG ?_
 refine au 24 (by decide +kernel) ?_
 refine bx ?_
 refine bT 120 rfl (fun h120r h120=>?_) (fun h120r h120=>?_)
 ·have hxd:val ul/4294967296 ^ j/(val b*2 ^ s)≤x-1:=by omega
  have hx0:1≤x:=by omega
  refine FE ?_
  have hxr2:(x-1)*(aE (val b*2 ^ s)).getD (n+1) 0+(rest+(aE (val b*2 ^ s)).getD (n+1) 0)=(ul.getD (n+2+j) 0*4294967296+ul.getD (n+1+j) 0):=by
   have e:(x-1)*(aE (val b*2 ^ s)).getD (n+1) 0+(aE (val b*2 ^ s)).getD (n+1) 0=x*(aE (val b*2 ^ s)).getD (n+1) 0:=by rw [←Nat.succ_mul];congr 1;omega
   omega
  refine vU ?_
  refine an rfl (fun h153r h153=>?_) (fun h153r h153=>?_)
  ·have hbk:=sJ (u2:=ul.getD (n+j) 0) hxr2 hun hu1 hv2l (by omega)
   refine bw ?_
   exact gO (hQ (x-1) _ ⟨hxd,tY hVe hRe hvl (by omega) hV0 hxr2 (Nat.le_of_lt hbk.1) hbk.2,hbk.1⟩) (aa (aa (aa (aa (aa (aa (aa (aJ cl) cl) cl) cl) cl) cl) cl) cl)
  ·refine bx ?_
   exact gk (x-1) (rest+(aE (val b*2 ^ s)).getD (n+1) 0) ⟨hxd,hxr2,by omega⟩
 ·have hmul:=i9 (show x<4294967296 by omega) hv2l
  refine uv ?_
  refine an rfl (fun h141r h141=>?_) (fun h141r h141=>?_)
  ·have hx0:1≤x:=by
    rcases Nat.eq_zero_or_pos x with e | e
    ·rw [e,Nat.zero_mul] at h141;omega
    ·exact e
   have hxd:val ul/4294967296 ^ j/(val b*2 ^ s)≤x-1:=by have:=Db hVe hRe hrl hV0 hxr (by omega);omega
   refine bw ?_
   have hxr2:(x-1)*(aE (val b*2 ^ s)).getD (n+1) 0+(rest+(aE (val b*2 ^ s)).getD (n+1) 0)=(ul.getD (n+2+j) 0*4294967296+ul.getD (n+1+j) 0):=by
    have e:(x-1)*(aE (val b*2 ^ s)).getD (n+1) 0+(aE (val b*2 ^ s)).getD (n+1) 0=x*(aE (val b*2 ^ s)).getD (n+1) 0:=by rw [←Nat.succ_mul];congr 1;omega
    omega
   refine vU ?_
   refine an rfl (fun h153r h153=>?_) (fun h153r h153=>?_)
   ·have hbk:=sJ (u2:=ul.getD (n+j) 0) hxr2 hun hu1 hv2l (by omega)
    refine bw ?_
    exact gO (hQ (x-1) _ ⟨hxd,tY hVe hRe hvl (by omega) hV0 hxr2 (Nat.le_of_lt hbk.1) hbk.2,hbk.1⟩) (aa (aa (aa (aa (aa (aa (aa (aJ cl) cl) cl) cl) cl) cl) cl) cl)
   ·refine bx ?_
    exact gk (x-1) (rest+(aE (val b*2 ^ s)).getD (n+1) 0) ⟨hxd,hxr2,by omega⟩
  ·refine bw ?_
   exact gO (hQ (x) _ ⟨hx,tY hVe hRe hvl (by omega) hV0 hxr (by omega) (by omega),by omega⟩) (aa (aa (aa (aa (aa (aa (aa (aJ cl) cl) cl) cl) cl) cl) cl) cl)
open Ld in
theorem tb (b ul ql:List Nat) (n s m q0 j:Nat) (enV:(aE (val b*2 ^ s)).length=n+2) (hnm:n+2≤m) (hm4:m≤1099511627776) (hq0:q0=m+1-(n+2)) (hk:j+1≤q0) (hul:ul.length=m+1) (hql:ql.length=q0) (hlu:di ul) (hlq:di ql) (hvt:2147483648≤(aE (val b*2 ^ s)).getD (n+1) 0) (hV0:0<(val b*2 ^ s)) (hVlt:(val b*2 ^ s)<4294967296 ^ (n+2)) (hlt:val ul<(val b*2 ^ s)*4294967296 ^ (j+1)) (x:Nat) (hx1:val ul/4294967296 ^ j/(val b*2 ^ s)≤x) (hxB:x<4294967296) {Q:LEx→St→Prop} (L1:St)
  (hQ:∀ (wl:List Nat) (c:Nat) (br:Nat) (L2:St),(wl.length=m+1∧di wl∧c<4294967296∧br≤1∧val wl+4294967296 ^ j*(x*(val b*2 ^ s))=val ul+4294967296 ^ (n+2+j)*(c+br)∧∀ p,n+2+j≤p→wl.getD p 0=ul.getD p 0)→Q .normal ((((((((((St.mk L2.slot (hp [(1001057,⟨1,wl.map bh,true⟩),(1001105,⟨1,(eJ ((aE (val b)).length+1) (val b*2 ^ s)).map bh,false⟩),(77,⟨1,ql.map bh,true⟩)])).put (some 4) (.ref 77 1 0 q0)).put (some 9) (ai s)).put (some 10) (.ref 1001057 1 0 (m+1))).put (some 11) (ba (val b*2 ^ s))).put (some 12) (ai (n+2))).put (some 13) (iL (((j+1:Nat):Int)-1))).put (some 15) (ce x)).put (some 17) (ce br)).put (some 18) (ce c))) :
  wpL Tryz.prog ((ti Tryz.f206 [1,1,1,1,1,1,1,0,1,0,0,1,0,0,1,1,1,1,0,1]).getD .skip) Q (((((((((((((St.mk L1.slot (hp [(1001057,⟨1,ul.map bh,true⟩),(1001105,⟨1,(eJ ((aE (val b)).length+1) (val b*2 ^ s)).map bh,false⟩),(77,⟨1,ql.map bh,true⟩)])).put (some 4) (.ref 77 1 0 q0)).put (some 9) (ai s)).put (some 10) (.ref 1001057 1 0 (m+1))).put (some 11) (ba (val b*2 ^ s))).put (some 12) (ai (n+2))).put (some 13) (iL (((j+1:Nat):Int)-1))).put (some 15) (ce x)).put (some 17) (ce 0)).put (some 18) (ce 0)).put (some 154) (ba (val b*2 ^ s))).put (some 155) (ai (n+2))).put (some 156) (ai 0)):=by
 have ej:True:=trivial
 have ek:True:=trivial
 have es:True:=trivial
 have eV:True:=trivial
 have ej1:True:=trivial
 have ej2:True:=trivial
 have ej3:True:=trivial
 have ehm:True:=trivial
 have ehg:True:=trivial
 have en1:True:=trivial
 have en2:True:=trivial
 have eij:True:=trivial
 have eiij:True:=trivial
 have eqn:True:=trivial
 have egi:True:=trivial
 have egi1:True:=trivial
 have eg2:True:=trivial
 have eg3:True:=trivial
 have ei1:True:=trivial
 have ej1:((j:Int)+((n+2:Nat):Int)).toNat=n+2+j:=by omega
 have ej2:((j:Int)+((n+2:Nat):Int)-1).toNat=n+1+j:=by omega
 have ej3:((j:Int)+((n+2:Nat):Int)-2).toNat=n+j:=by omega
 have en1:(((n+2:Nat):Int)-1).toNat=n+1:=by omega
 have en2:(((n+2:Nat):Int)-2).toNat=n:=by omega
 have ek:(((j+1:Nat):Int)-1)=(j:Int):=by omega
 have hv1l:=aZ ((val b*2 ^ s)) (n+1)
 have hv2l:=aZ ((val b*2 ^ s)) n
 have hu0:=bH hlu (n+2+j)
 have hu1:=bH hlu (n+1+j)
 have hu2:=bH hlu (n+j)
 refine n9 rfl ?_
 refine aL ?_
 refine EY (fun(i:Nat) (wl:List Nat) (c br:Nat) L=>(((((((((((((St.mk L.slot (hp [(1001057,⟨1,wl.map bh,true⟩),(1001105,⟨1,(eJ ((aE (val b)).length+1) (val b*2 ^ s)).map bh,false⟩),(77,⟨1,ql.map bh,true⟩)])).put (some 4) (.ref 77 1 0 q0)).put (some 9) (ai s)).put (some 10) (.ref 1001057 1 0 (m+1))).put (some 11) (ba (val b*2 ^ s))).put (some 12) (ai (n+2))).put (some 13) (iL (((j+1:Nat):Int)-1))).put (some 15) (ce x)).put (some 17) (ce br)).put (some 18) (ce c)).put (some 154) (ba (val b*2 ^ s))).put (some 155) (ai (n+2))).put (some 156) (ai i))) (fun i wl c br=>i≤n+2∧wl.length=m+1∧di wl∧c<4294967296∧br≤1∧val wl+4294967296 ^ j*(x*val ((aE (val b*2 ^ s)).take i))=val ul+4294967296 ^ (i+j)*(c+br)∧∀ p,n+2+j≤p→wl.getD p 0=ul.getD p 0) (fun i wl c br=>n+2-i) 0 ul 0 0 ⟨Nat.zero_le _,hul,hlu,by omega,by omega,by simp [val],fun _ _=>rfl⟩ (h0:=⟨_,aP.of_eq (aa (aa (aa (aa (aa (aa (aa (aa (aa (aa (aa (aa (aJ gm) gm) gm) gm) gm) gm) gm) gm) gm) gm) gm) gm) gm)⟩) ?_
 rintro i wl c br L3 ⟨hi,hwl,hlw,hc,hbr,hv5,hz5⟩
 have eij:((i:Int)+(j:Int)).toNat=i+j:=by omega
 have hvi:=aZ (val b*2 ^ s) i
 have hmul:=i9 hxB hvi
 have hwi:=bH hlw (i+j)
 refine bJ ?_
 refine an rfl (fun h157r h157=>?_) (fun h157r h157=>?_)
 ·refine EN ?_
  refine ab rfl (.bin rfl rfl (HZ)) ?_
  refine ab rfl (.bin rfl rfl (w7 (by omega))) ?_
  refine aL ?_
  refine ab rfl (.bin rfl rfl (w7 (by omega))) ?_
  refine EN ?_
  exact Ev (i+1) (wl.set (i+j) (((18446744073709551616+(18446744073709551616+wl.getD (i+j) 0-(c+x*(aE (val b*2 ^ s)).getD i 0) % 4294967296) % 18446744073709551616-br) % 18446744073709551616) % 4294967296)) ((c+x*(aE (val b*2 ^ s)).getD i 0)/4294967296) (((18446744073709551616+(18446744073709551616+wl.getD (i+j) 0-(c+x*(aE (val b*2 ^ s)).getD i 0) % 4294967296) % 18446744073709551616-br) % 18446744073709551616)/9223372036854775808) (by
   obtain⟨g1,g2,g3⟩:=C4 (by omega) hlw hbr hv5 (c1:=(c+x*(aE (val b*2 ^ s)).getD i 0)) rfl rfl
   exact⟨by omega,by simp [hwl],g2,by omega,g1,g3,fun p hp=>by rw [Go.Lg.getD_set_ne _ _ _ _ (by omega)];exact hz5 p hp⟩) (he:=aP.of_eq (aa (aa (aa (aa (aa (aa (aa (aa (aa (aa (aa (aa (aJ gm) gm) gm) gm) gm) gm) gm) gm) gm) gm) gm) gm) gm))
 ·obtain rfl:i=n+2:=by omega
  rw [List.take_of_length_le (by omega),az] at hv5
  refine bw ?_
  exact gO (hQ (wl) (c) (br) _ ⟨hwl,hlw,hc,hbr,hv5,hz5⟩) (aa (aa (aa (aa (aa (aa (aa (aa (aa (aJ cl) cl) cl) cl) cl) cl) cl) cl) cl) cl)
open Ld in
theorem yG (b ul ql:List Nat) (n s m q0 j:Nat) (enV:(aE (val b*2 ^ s)).length=n+2) (hnm:n+2≤m) (hm4:m≤1099511627776) (hq0:q0=m+1-(n+2)) (hk:j+1≤q0) (hul:ul.length=m+1) (hql:ql.length=q0) (hlu:di ul) (hlq:di ql) (hvt:2147483648≤(aE (val b*2 ^ s)).getD (n+1) 0) (hV0:0<(val b*2 ^ s)) (hVlt:(val b*2 ^ s)<4294967296 ^ (n+2)) (hlt:val ul<(val b*2 ^ s)*4294967296 ^ (j+1)) (x:Nat) (hx1:val ul/4294967296 ^ j/(val b*2 ^ s)≤x) (hx2:x≤val ul/4294967296 ^ j/(val b*2 ^ s)+1) (hxB:x<4294967296) (wl:List Nat) (c br:Nat) (hwl:wl.length=m+1) (hlw:di wl) (hc:c<4294967296) (hbr:br≤1) (hv5:val wl+4294967296 ^ j*(x*(val b*2 ^ s))=val ul+4294967296 ^ (n+2+j)*(c+br)) (hz5:∀ p,n+2+j≤p→wl.getD p 0=ul.getD p 0) {Q:LEx→St→Prop} (L1:St)
  (hQ:∀ (w4:List Nat) (x4:Nat) (L2:St),(x4=val ul/4294967296 ^ j/(val b*2 ^ s)∧w4.length=m+1∧di w4∧val w4+4294967296 ^ j*(x4*(val b*2 ^ s))=val ul)→Q .normal ((((((((St.mk L2.slot (hp [(1001057,⟨1,w4.map bh,true⟩),(1001105,⟨1,(eJ ((aE (val b)).length+1) (val b*2 ^ s)).map bh,false⟩),(77,⟨1,ql.map bh,true⟩)])).put (some 4) (.ref 77 1 0 q0)).put (some 9) (ai s)).put (some 10) (.ref 1001057 1 0 (m+1))).put (some 11) (ba (val b*2 ^ s))).put (some 12) (ai (n+2))).put (some 13) (iL (((j+1:Nat):Int)-1))).put (some 15) (ce x4))) :
  wpL Tryz.prog ((ti Tryz.f206 [1,1,1,1,1,1,1,0,1,0,0,1,0,0,1,1,1,1,1,1,1,0,1]).getD .skip) Q ((((((((((St.mk L1.slot (hp [(1001057,⟨1,(wl.set (n+2+j) (((18446744073709551616+(18446744073709551616+wl.getD (n+2+j) 0-c) % 18446744073709551616-br) % 18446744073709551616) % 4294967296)).map bh,true⟩),(1001105,⟨1,(eJ ((aE (val b)).length+1) (val b*2 ^ s)).map bh,false⟩),(77,⟨1,ql.map bh,true⟩)])).put (some 4) (.ref 77 1 0 q0)).put (some 9) (ai s)).put (some 10) (.ref 1001057 1 0 (m+1))).put (some 11) (ba (val b*2 ^ s))).put (some 12) (ai (n+2))).put (some 13) (iL (((j+1:Nat):Int)-1))).put (some 15) (ce x)).put (some 22) (ce ((18446744073709551616+(18446744073709551616+wl.getD (n+2+j) 0-c) % 18446744073709551616-br) % 18446744073709551616))).put (some 211) (.v (.bool (((((18446744073709551616+(18446744073709551616+wl.getD (n+2+j) 0-c) % 18446744073709551616-br) % 18446744073709551616)/9223372036854775808:Nat):Int) != 0)))):=by
 have ej:True:=trivial
 have ek:True:=trivial
 have es:True:=trivial
 have eV:True:=trivial
 have ej1:True:=trivial
 have ej2:True:=trivial
 have ej3:True:=trivial
 have ehm:True:=trivial
 have ehg:True:=trivial
 have en1:True:=trivial
 have en2:True:=trivial
 have eij:True:=trivial
 have eiij:True:=trivial
 have eqn:True:=trivial
 have egi:True:=trivial
 have egi1:True:=trivial
 have eg2:True:=trivial
 have eg3:True:=trivial
 have ei1:True:=trivial
 have ej1:((j:Int)+((n+2:Nat):Int)).toNat=n+2+j:=by omega
 have ej2:((j:Int)+((n+2:Nat):Int)-1).toNat=n+1+j:=by omega
 have ej3:((j:Int)+((n+2:Nat):Int)-2).toNat=n+j:=by omega
 have en1:(((n+2:Nat):Int)-1).toNat=n+1:=by omega
 have en2:(((n+2:Nat):Int)-2).toNat=n:=by omega
 have ek:(((j+1:Nat):Int)-1)=(j:Int):=by omega
 have hv1l:=aZ ((val b*2 ^ s)) (n+1)
 have hv2l:=aZ ((val b*2 ^ s)) n
 have hu0:=bH hlu (n+2+j)
 have hu1:=bH hlu (n+1+j)
 have hu2:=bH hlu (n+j)
 have hz:=mG (n:=n+2) (j:=j) hVlt hlt
 obtain⟨hlw2,hd2,hv6⟩:=uL (n:=n+2) (by omega) hlw hbr hc hv5 rfl rfl
 have hwt:=bH hlw (n+2+j)
 refine n9 rfl ?_
 refine an rfl (fun h211r h211=>?_) (fun h211r h211=>?_)
 ·have hd1:((18446744073709551616+(18446744073709551616+wl.getD (n+2+j) 0-c) % 18446744073709551616-br) % 18446744073709551616)/9223372036854775808=1:=by omega
  have hgt:=ET (V:=(val b*2 ^ s)) (n:=n+2) (j:=j) (x:=x) (ul:=(wl.set (n+2+j) (((18446744073709551616+(18446744073709551616+wl.getD (n+2+j) 0-c) % 18446744073709551616-br) % 18446744073709551616) % 4294967296))) (ul0:=ul) (by rw [hv6,hd1,Nat.mul_one]) (md hlw2 (fun p hp=>by rw [Go.Lg.getD_set_ne _ _ _ _ (by omega),hz5 p (by omega)];exact hz p hp)) hV0
  have hx0:1≤x:=Nat.lt_of_le_of_lt (Nat.zero_le _) hgt
  refine bx ?_
  refine ab rfl (.bin rfl rfl (FA (show 1≤x by omega) (by omega))) ?_
  refine iP ?_
  refine tp (fun(ii:Nat) (w3:List Nat) (c3:Nat) L=>((((((((((((St.mk L.slot (hp [(1001057,⟨1,w3.map bh,true⟩),(1001105,⟨1,(eJ ((aE (val b)).length+1) (val b*2 ^ s)).map bh,false⟩),(77,⟨1,ql.map bh,true⟩)])).put (some 4) (.ref 77 1 0 q0)).put (some 9) (ai s)).put (some 10) (.ref 1001057 1 0 (m+1))).put (some 11) (ba (val b*2 ^ s))).put (some 12) (ai (n+2))).put (some 13) (iL (((j+1:Nat):Int)-1))).put (some 15) (ce (x-1))).put (some 18) (ce c3)).put (some 214) (ba (val b*2 ^ s))).put (some 215) (ai (n+2))).put (some 216) (ai ii))) (fun ii w3 c3=>ii≤n+2∧w3.length=m+1∧di w3∧c3≤1∧val w3+4294967296 ^ (ii+j)*c3=val (wl.set (n+2+j) (((18446744073709551616+(18446744073709551616+wl.getD (n+2+j) 0-c) % 18446744073709551616-br) % 18446744073709551616) % 4294967296))+4294967296 ^ j*val ((aE (val b*2 ^ s)).take ii)∧∀ p,n+2+j+1≤p→w3.getD p 0=0) (fun ii w3 c3=>n+2-ii) 0 (wl.set (n+2+j) (((18446744073709551616+(18446744073709551616+wl.getD (n+2+j) 0-c) % 18446744073709551616-br) % 18446744073709551616) % 4294967296)) 0 ⟨Nat.zero_le _,by simp [hwl],hlw2,by omega,by simp [val],fun p hp=>by rw [Go.Lg.getD_set_ne _ _ _ _ (by omega),hz5 p (by omega)];exact hz p hp⟩ (h0:=⟨_,aP.of_eq (aa (aa (aa (aa (aa (aa (aa (aa (aa (aa (aa (aJ gm) gm) gm) gm) gm) gm) gm) gm) gm) gm) gm) gm)⟩) ?_
  rintro ii w3 c3 L4 ⟨hi3,hw3,hl3,hc3,hv7,hz7⟩
  have eiij:((ii:Int)+(j:Int)).toNat=ii+j:=by omega
  have hvi3:=aZ (val b*2 ^ s) ii
  have hwi3:=bH hl3 (ii+j)
  refine bJ ?_
  refine an rfl (fun h217r h217=>?_) (fun h217r h217=>?_)
  ·refine Hh ?_
   exact rb (ii+1) (w3.set (ii+j) ((c3+(w3.getD (ii+j) 0+(aE (val b*2 ^ s)).getD ii 0)) % 4294967296)) ((c3+(w3.getD (ii+j) 0+(aE (val b*2 ^ s)).getD ii 0))/4294967296) (by
    obtain⟨g1,g2⟩:=D3 (by omega) hl3 hv7 (s:=(c3+(w3.getD (ii+j) 0+(aE (val b*2 ^ s)).getD ii 0))) rfl
    exact⟨by omega,by simp [hw3],g1,by omega,g2,fun p hp=>by rw [Go.Lg.getD_set_ne _ _ _ _ (by omega)];exact hz7 p hp⟩) (he:=aP.of_eq (aa (aa (aa (aa (aa (aa (aa (aa (aa (aa (aa (aJ gm) gm) gm) gm) gm) gm) gm) gm) gm) gm) gm) gm))
  ·obtain rfl:ii=n+2:=by omega
   rw [List.take_of_length_le (by omega),az] at hv7
   have hw3t:=bH hl3 (n+2+j)
   have hxe:x-1=val ul/4294967296 ^ j/(val b*2 ^ s):=by omega
   have hxle:4294967296 ^ j*((x-1)*(val b*2 ^ s))≤val ul:=by rw [hxe];exact Nat.le_trans (Nat.mul_le_mul_left _ (Nat.div_mul_le_self _ _)) (Nat.mul_div_le _ _)
   have hbk:=Ak (ul:=(wl.set (n+2+j) (((18446744073709551616+(18446744073709551616+wl.getD (n+2+j) 0-c) % 18446744073709551616-br) % 18446744073709551616) % 4294967296))) (ul0:=ul) (n:=n+2) (j:=j) (x:=x) (V:=(val b*2 ^ s)) (ul3:=w3) (c:=c3) (by omega) hxle (by rw [hv6,hd1,Nat.mul_one]) (by omega) hl3 hz7 hc3 hv7 rfl
   refine dI ?_
   refine ab rfl (.bin rfl rfl (yI)) ?_
   refine bx ?_
   exact gO (hQ (w3.set (n+2+j) ((w3.getD (n+2+j) 0+c3) % 4294967296)) (x-1) _ ⟨hxe,by simp [hw3],hbk.1,hbk.2⟩) (aa (aa (aa (aa (aa (aa (aa (aJ cl) cl) cl) cl) cl) cl) cl) cl)
 ·have hd0:((18446744073709551616+(18446744073709551616+wl.getD (n+2+j) 0-c) % 18446744073709551616-br) % 18446744073709551616)/9223372036854775808=0:=by omega
  rw [hd0,Nat.mul_zero,Nat.add_zero] at hv6
  have hxF:x=val ul/4294967296 ^ j/(val b*2 ^ s):=by have:=Fx hv6 hV0;omega
  refine aL ?_
  exact gO (hQ ((wl.set (n+2+j) (((18446744073709551616+(18446744073709551616+wl.getD (n+2+j) 0-c) % 18446744073709551616-br) % 18446744073709551616) % 4294967296))) (x) _ ⟨hxF,by simp [hwl],hlw2,hv6⟩) (aa (aa (aa (aa (aa (aa (aa (aJ cl) cl) cl) cl) cl) cl) cl) cl)
open Ld in
theorem wt (b ul ql:List Nat) (n s m q0 j:Nat) (enV:(aE (val b*2 ^ s)).length=n+2) (hnm:n+2≤m) (hm4:m≤1099511627776) (hq0:q0=m+1-(n+2)) (hk:j+1≤q0) (hul:ul.length=m+1) (hql:ql.length=q0) (hlu:di ul) (hlq:di ql) (hvt:2147483648≤(aE (val b*2 ^ s)).getD (n+1) 0) (hV0:0<(val b*2 ^ s)) (hVlt:(val b*2 ^ s)<4294967296 ^ (n+2)) (hlt:val ul<(val b*2 ^ s)*4294967296 ^ (j+1)) {Q:LEx→St→Prop} (L1:St)
  (hQ:∀ (w4:List Nat) (x4:Nat) (L2:St),(x4=val ul/4294967296 ^ j/(val b*2 ^ s)∧w4.length=m+1∧di w4∧val w4+4294967296 ^ j*(x4*(val b*2 ^ s))=val ul)→Q .normal (((((((St.mk L2.slot (hp [(1001057,⟨1,w4.map bh,true⟩),(1001105,⟨1,(eJ ((aE (val b)).length+1) (val b*2 ^ s)).map bh,false⟩),(77,⟨1,(ql.set j (x4 % 4294967296)).map bh,true⟩)])).put (some 4) (.ref 77 1 0 q0)).put (some 9) (ai s)).put (some 10) (.ref 1001057 1 0 (m+1))).put (some 11) (ba (val b*2 ^ s))).put (some 12) (ai (n+2))).put (some 13) (iL (((j+1:Nat):Int)-1)))) :
  wpL Tryz.prog ((ti Tryz.f206 [1,1,1,1,1,1,1,0,1,0,0,1,0]).getD .skip) Q (((((((St.mk L1.slot (hp [(1001057,⟨1,ul.map bh,true⟩),(1001105,⟨1,(eJ ((aE (val b)).length+1) (val b*2 ^ s)).map bh,false⟩),(77,⟨1,ql.map bh,true⟩)])).put (some 4) (.ref 77 1 0 q0)).put (some 9) (ai s)).put (some 10) (.ref 1001057 1 0 (m+1))).put (some 11) (ba (val b*2 ^ s))).put (some 12) (ai (n+2))).put (some 13) (iL (((j+1:Nat):Int)-1))):=by
 have ej:True:=trivial
 have ek:True:=trivial
 have es:True:=trivial
 have eV:True:=trivial
 have ej1:True:=trivial
 have ej2:True:=trivial
 have ej3:True:=trivial
 have ehm:True:=trivial
 have ehg:True:=trivial
 have en1:True:=trivial
 have en2:True:=trivial
 have eij:True:=trivial
 have eiij:True:=trivial
 have eqn:True:=trivial
 have egi:True:=trivial
 have egi1:True:=trivial
 have eg2:True:=trivial
 have eg3:True:=trivial
 have ei1:True:=trivial
 have ej1:((j:Int)+((n+2:Nat):Int)).toNat=n+2+j:=by omega
 have ej2:((j:Int)+((n+2:Nat):Int)-1).toNat=n+1+j:=by omega
 have ej3:((j:Int)+((n+2:Nat):Int)-2).toNat=n+j:=by omega
 have en1:(((n+2:Nat):Int)-1).toNat=n+1:=by omega
 have en2:(((n+2:Nat):Int)-2).toNat=n:=by omega
 have ek:(((j+1:Nat):Int)-1)=(j:Int):=by omega
 have hv1l:=aZ ((val b*2 ^ s)) (n+1)
 have hv2l:=aZ ((val b*2 ^ s)) n
 have hu0:=bH hlu (n+2+j)
 have hu1:=bH hlu (n+1+j)
 have hu2:=bH hlu (n+j)
 have hz:=mG (n:=n+2) (j:=j) hVlt hlt
 refine n9 rfl ?_
 refine bG ?_
 refine au 18 (by decide +kernel) ?_
 refine tz ?_
 refine au 18 (by decide +kernel) ?_
 refine bV ?_
 refine ab rfl (.bin rfl rfl (rG (by simp only [en1,cS];omega) (by omega))) ?_
 refine bV ?_
 refine ab rfl (.bin rfl rfl (Ed (by simp only [en1,cS];omega))) ?_
 refine ca ?_
 refine ob (S:=fun L=>(((((((((St.mk L.slot (hp [(1001057,⟨1,ul.map bh,true⟩),(1001105,⟨1,(eJ ((aE (val b)).length+1) (val b*2 ^ s)).map bh,false⟩),(77,⟨1,ql.map bh,true⟩)])).put (some 4) (.ref 77 1 0 q0)).put (some 9) (ai s)).put (some 10) (.ref 1001057 1 0 (m+1))).put (some 11) (ba (val b*2 ^ s))).put (some 12) (ai (n+2))).put (some 13) (iL (((j+1:Nat):Int)-1))).put (some 15) (ce ((ul.getD (n+2+j) 0*4294967296+ul.getD (n+1+j) 0)/(aE (val b*2 ^ s)).getD (n+1) 0))).put (some 16) (ce ((ul.getD (n+2+j) 0*4294967296+ul.getD (n+1+j) 0) % (aE (val b*2 ^ s)).getD (n+1) 0)))) (aa (aa (aa (aa (aa (aa (aa (aa (aJ cl) cl) cl) cl) cl) cl) cl) cl) cl) ?_
 refine y8 b ul ql n s m q0 j enV hnm hm4 hq0 hk hul hql hlu hlq hvt hV0 hVlt hlt _ ?_
 rintro x LQ ⟨hx1,hx2,hxB⟩
 refine en ?_
 refine ob (S:=fun L=>(((((((((((((St.mk L.slot (hp [(1001057,⟨1,ul.map bh,true⟩),(1001105,⟨1,(eJ ((aE (val b)).length+1) (val b*2 ^ s)).map bh,false⟩),(77,⟨1,ql.map bh,true⟩)])).put (some 4) (.ref 77 1 0 q0)).put (some 9) (ai s)).put (some 10) (.ref 1001057 1 0 (m+1))).put (some 11) (ba (val b*2 ^ s))).put (some 12) (ai (n+2))).put (some 13) (iL (((j+1:Nat):Int)-1))).put (some 15) (ce x)).put (some 17) (ce 0)).put (some 18) (ce 0)).put (some 154) (ba (val b*2 ^ s))).put (some 155) (ai (n+2))).put (some 156) (ai 0))) (aa (aa (aa (aa (aa (aa (aa (aa (aa (aa (aa (aa (aJ cl) cl) cl) cl) cl) cl) cl) cl) cl) cl) cl) cl) cl) ?_
 refine tb b ul ql n s m q0 j enV hnm hm4 hq0 hk hul hql hlu hlq hvt hV0 hVlt hlt x hx1 hxB _ ?_
 rintro wl c br LQ ⟨hwl,hlw,hc,hbr,hv5,hz5⟩
 obtain⟨hlw2,hd2,hv6⟩:=uL (n:=n+2) (by omega) hlw hbr hc hv5 rfl rfl
 have hwt:=bH hlw (n+2+j)
 refine bD ?_
 refine ab rfl (.bin rfl rfl (w7 (by omega))) ?_
 refine aL ?_
 refine ab rfl (.bin rfl rfl (w7 (by omega))) ?_
 refine uv ?_
 refine ob (S:=fun L=>((((((((((St.mk L.slot (hp [(1001057,⟨1,(wl.set (n+2+j) (((18446744073709551616+(18446744073709551616+wl.getD (n+2+j) 0-c) % 18446744073709551616-br) % 18446744073709551616) % 4294967296)).map bh,true⟩),(1001105,⟨1,(eJ ((aE (val b)).length+1) (val b*2 ^ s)).map bh,false⟩),(77,⟨1,ql.map bh,true⟩)])).put (some 4) (.ref 77 1 0 q0)).put (some 9) (ai s)).put (some 10) (.ref 1001057 1 0 (m+1))).put (some 11) (ba (val b*2 ^ s))).put (some 12) (ai (n+2))).put (some 13) (iL (((j+1:Nat):Int)-1))).put (some 15) (ce x)).put (some 22) (ce ((18446744073709551616+(18446744073709551616+wl.getD (n+2+j) 0-c) % 18446744073709551616-br) % 18446744073709551616))).put (some 211) (.v (.bool (((((18446744073709551616+(18446744073709551616+wl.getD (n+2+j) 0-c) % 18446744073709551616-br) % 18446744073709551616)/9223372036854775808:Nat):Int) != 0))))) (aa (aa (aa (aa (aa (aa (aa (aa (aa (aJ cl) cl) cl) cl) cl) cl) cl) cl) cl) cl) ?_
 refine yG b ul ql n s m q0 j enV hnm hm4 hq0 hk hul hql hlu hlq hvt hV0 hVlt hlt x hx1 hx2 hxB wl c br hwl hlw hc hbr hv5 hz5 _ ?_
 rintro w4 x4 LQ ⟨hx4,hw4,hl4,hv8⟩
 have hRV:val ul/4294967296 ^ j<(val b*2 ^ s)*4294967296:=by
  obtain⟨_,_,_,_,_,_,h⟩:=tj (j:=j) enV (by omega) hlu hlt
  exact h
 have hqB:val ul/4294967296 ^ j/(val b*2 ^ s)<4294967296:=by rw [Nat.div_lt_iff_lt_mul hV0,Nat.mul_comm];exact hRV
 have hx4B:x4<4294967296:=by rw [hx4];exact hqB
 have hx4m:x4 % 4294967296=x4:=Nat.mod_eq_of_lt hx4B
 refine bv ?_
 exact gO (hQ (w4) (x4) _ ⟨hx4,hw4,hl4,hv8⟩) (aa (aa (aa (aa (aa (aa (aJ cl) cl) cl) cl) cl) cl) cl)
open Ld in
theorem wu (b ul ql:List Nat) (s m q0 T:Nat) (hs32:s<32) (hm4:m≤1099511627776) (hul:ul.length=m+1) (hlu:di ul) (hTm:T≤m+1) (hTz:∀ p,T≤p→ul.getD p 0=0) (hlow:ul.getD 0 0 % 2 ^ s=0) {Q:LEx→St→Prop} (L1:St)
  (hQ:∀ (w:List Nat) (L2:St),(w.length=m+1∧di w∧2 ^ s*val (w.take T)=val (ul.take T)+4294967296 ^ T*(ul.getD T 0 % 2 ^ s))→Q .normal (((St.mk L2.slot (hp [(1001057,⟨1,w.map bh,true⟩),(1001105,⟨1,(eJ ((aE (val b)).length+1) (val b*2 ^ s)).map bh,false⟩),(77,⟨1,ql.map bh,true⟩)])).put (some 4) (.ref 77 1 0 q0)).put (some 5) (.ref 1001057 1 0 T))) :
  wpL Tryz.prog ((ti Tryz.f206 [1,1,1,1,1,1,1,1,1,0,1]).getD .skip) Q (((((((St.mk L1.slot (hp [(1001057,⟨1,ul.map bh,true⟩),(1001105,⟨1,(eJ ((aE (val b)).length+1) (val b*2 ^ s)).map bh,false⟩),(77,⟨1,ql.map bh,true⟩)])).put (some 4) (.ref 77 1 0 q0)).put (some 5) (.ref 1001057 1 0 T)).put (some 9) (ai s)).put (some 260) (.ref 1001057 1 0 T)).put (some 261) (ai T)).put (some 262) (ai 0)):=by
 have ej:True:=trivial
 have ek:True:=trivial
 have es:True:=trivial
 have eV:True:=trivial
 have ej1:True:=trivial
 have ej2:True:=trivial
 have ej3:True:=trivial
 have ehm:True:=trivial
 have ehg:True:=trivial
 have en1:True:=trivial
 have en2:True:=trivial
 have eij:True:=trivial
 have eiij:True:=trivial
 have eqn:True:=trivial
 have egi:True:=trivial
 have egi1:True:=trivial
 have eg2:True:=trivial
 have eg3:True:=trivial
 have ei1:True:=trivial
 have enV:True:=trivial
 refine n9 rfl ?_
 refine aL ?_
 refine ik (fun(i:Nat) (w:List Nat) L=>(((((((St.mk L.slot (hp [(1001057,⟨1,w.map bh,true⟩),(1001105,⟨1,(eJ ((aE (val b)).length+1) (val b*2 ^ s)).map bh,false⟩),(77,⟨1,ql.map bh,true⟩)])).put (some 4) (.ref 77 1 0 q0)).put (some 5) (.ref 1001057 1 0 T)).put (some 9) (ai s)).put (some 260) (.ref 1001057 1 0 T)).put (some 261) (ai T)).put (some 262) (ai i))) (fun i w=>i≤T∧w.length=m+1∧di w∧(∀ p,i≤p→w.getD p 0=ul.getD p 0)∧2 ^ s*val (w.take i)=val (ul.take i)+4294967296 ^ i*(ul.getD i 0 % 2 ^ s)) (fun i w=>T-i) 0 ul ⟨Nat.zero_le _,hul,hlu,fun _ _=>rfl,by rw [hlow];simp [val]⟩ ?_
 rintro i w L5 ⟨hi,hwl,hlw,hz9,hv9⟩
 have ei1:((i:Int)+1).toNat=i+1:=by omega
 have hwi:=bH hlw i
 have hwi1:=bH hlu (i+1)
 have egi:=hz9 i (Nat.le_refl _)
 have egi1:=hz9 (i+1) (by omega)
 have hui:=bH hlu i
 obtain⟨hh1,hh2⟩:=qm (z:=ul.getD (i+1) 0) (show s≤32 by omega) hui
 have hh3:ul.getD i 0/2 ^ s<4294967296:=by omega
 refine bJ ?_
 refine an rfl (fun h263r h263=>?_) (fun h263r h263=>?_)
 ·have eg2:(w.set i (ul.getD i 0/2 ^ s)).getD i 0=ul.getD i 0/2 ^ s:=ke _ _ _ (by omega)
  have eg3:(w.set i (ul.getD i 0/2 ^ s)).getD (i+1) 0=ul.getD (i+1) 0:=by rw [Go.Lg.getD_set_ne _ _ _ _ (by omega)];exact egi1
  refine iP ?_
  refine ab rfl (.sh rfl rfl (wZ (m:=s) (by show s≤32;omega))) ?_
  refine cg ?_
  refine bT 274 rfl (fun h274r h274=>?_) (fun h274r h274=>?_)
  ·refine cx ?_
   refine an rfl (fun h280r h280=>?_) (fun h280r h280=>?_)
   ·refine au 14 (by decide +kernel) ?_
    refine bD ?_
    refine ab rfl (.sh rfl rfl (Ec (s:=s) (by omega))) ?_
    refine ab rfl (.bin rfl rfl (Fs (by simp only [e1,e2,e3,e4,p1,p2,p3,q1,q2,q3,l1,t0,t1,r1,r2,r3,r4,Nat.zero_add,Nat.reduceMul,Nat.reduceAdd,b1,b2,b3,b4,b5,b6,i1,i2,i3,i4,i5,i6,Nat.reduceBEq,cS,egi,egi1,eg2,eg3,ei1];exact hh1) (by simp only [e1,e2,e3,e4,p1,p2,p3,q1,q2,q3,l1,t0,t1,r1,r2,r3,r4,Nat.zero_add,Nat.reduceMul,Nat.reduceAdd,b1,b2,b3,b4,b5,b6,i1,i2,i3,i4,i5,i6,Nat.reduceBEq,cS,egi,egi1,eg2,eg3,ei1];exact hh2))) ?_
    refine bv ?_
    exact gk (i+1) (w.set i (ul.getD (i+1) 0 % 2 ^ s*2 ^ (32-s)+ul.getD i 0/2 ^ s)) ⟨by omega,by simp [hwl],cM hlw _ _ hh2,fun p hp=>by rw [Go.Lg.getD_set_ne _ _ _ _ (by omega)];exact hz9 p (by omega),uf (by omega) hs32 egi hv9 (Nat.add_comm _ _)⟩
   ·refine cx ?_
    exact gk (i+1) (w.set i (ul.getD i 0/2 ^ s)) ⟨by omega,by simp [hwl],cM hlw _ _ hh3,fun p hp=>by rw [Go.Lg.getD_set_ne _ _ _ _ (by omega)];exact hz9 p (by omega),uf (by omega) hs32 egi hv9 (by rw [hTz (i+1) (by omega)];simp)⟩
  ·refine iP ?_
   exact gk (i+1) (w.set i (ul.getD i 0/2 ^ s)) ⟨by omega,by simp [hwl],cM hlw _ _ hh3,fun p hp=>by rw [Go.Lg.getD_set_ne _ _ _ _ (by omega)];exact hz9 p (by omega),uf (by omega) hs32 egi hv9 (by rw [show s=0 by omega];simp [Nat.mod_one])⟩
 ·obtain rfl:i=T:=by omega
  refine bw ?_
  exact gO (hQ (w) _ ⟨hwl,hlw,hv9⟩) (aa (aa (aJ cl) cl) cl)
open Ld in
theorem pJ (a b:List Nat) (ha:di a) (hb:di b) (hla:a.length≤1099511627776) (hlb:b.length≤1099511627776) (hb0:0<val b):ap Tryz.prog 206 [dj a,dj b] (.tup [ba (val a/val b),ba (val a % val b),iL 0]):=by
 have hla2:=iS a ha hla
 have hlb2:=iS b hb hlb
 have hbne:(aE (val b)).length≠0:=fun h=>by have:=cH.1 (List.eq_nil_of_length_eq_zero h);omega
 refine bS Tryz.func206 ?_
 have ej:True:=trivial
 have ek:True:=trivial
 have es:True:=trivial
 have eV:True:=trivial
 have ej1:True:=trivial
 have ej2:True:=trivial
 have ej3:True:=trivial
 have ehm:True:=trivial
 have ehg:True:=trivial
 have en1:True:=trivial
 have en2:True:=trivial
 have eij:True:=trivial
 have eiij:True:=trivial
 have eqn:True:=trivial
 have egi:True:=trivial
 have egi1:True:=trivial
 have eg2:True:=trivial
 have eg3:True:=trivial
 have ei1:True:=trivial
 have enV:True:=trivial
 refine bv ?_
 refine cp bK (dZ _ (by first | assumption | exact aB _) (by first | omega | (simp;done) | (simp;omega))) ?_
 refine aL ?_
 refine cp bK (dZ _ (by first | assumption | exact aB _) (by first | omega | (simp;done) | (simp;omega))) ?_
 refine dI ?_
 refine an rfl (fun h30r h30=>?_) (fun h30r h30=>?_)
 ·exfalso
  omega
 ·refine bw ?_
  refine cp bf (nq _ _ (by first | assumption | exact aB _) (by first | assumption | exact aB _) (by omega) (by omega)) ?_
  refine bw ?_
  refine an rfl (fun h34r h34=>?_) (fun h34r h34=>?_)
  ·have hlt:val a<val b:=by
    apply Classical.byContradiction
    intro hh
    rcases Nat.lt_or_eq_of_le (Nat.le_of_not_lt hh) with h | h
    ·rw [eF h] at h34;omega
    ·rw [fd h.symm] at h34;omega
   refine bx ?_
   refine cp bK (lj _ (by omega)) ?_
   refine cx ?_
   rw [Nat.div_eq_of_lt hlt,Nat.mod_eq_of_lt hlt]
   exact km [] rfl rfl (.nil 1) rfl (.pure (aG _)) rfl (.pure rfl)
  ·have hge:val b≤val a:=by
    apply Classical.byContradiction
    intro hh
    rw [dY (by omega)] at h34;omega
   refine cx ?_
   refine an rfl (fun h41r h41=>?_) (fun h41r h41=>?_)
   ·have hb32:val b<4294967296:=cK.1 (by omega)
    have hd1:aE (val b)=[val b]:=fx hb0 hb32
    have hg0:(aE (val b)).getD 0 0=val b:=by rw [hd1];rfl
    have ehg:=hg0
    have hml:=Nat.mod_lt (val a) hb0
    refine bJ ?_
    refine cp bf (yB _ _ (aB _) (by omega) (by show 0<(aE (val b)).getD 0 0;rw [hg0];exact hb0) (aZ _ _)) ?_
    refine ca ?_
    refine fk tL ?_
    refine bJ ?_
    refine s5 [55] s4 (dZ [val a % val b] (AC (by omega)) (by simp)) ?_
    refine bx ?_
    refine fk H4 ?_
    refine bw ?_
    exact km [] rfl rfl (.pure (ar _)) rfl (.pure (ar _)) rfl (.pure rfl)
   ·obtain⟨n,hn⟩:∃ n,(aE (val b)).length=n+2:=⟨(aE (val b)).length-2,by omega⟩
    obtain⟨m,hm⟩:∃ m,(aE (val a)).length=m:=⟨_,rfl⟩
    have ehm:=hm
    have hm4:m≤1099511627776:=by omega
    have hnm:n+1+1≤m:=by rw [←hm];have:=bN hge;omega
    have ej:(((aE (val b)).length:Int)-1).toNat=n+1:=by omega
    obtain⟨s,hs⟩:∃ s,s=32-cy ((aE (val b)).getD (n+1) 0):=⟨_,rfl⟩
    have hbl32:cy ((aE (val b)).getD (n+1) 0)≤32:=eI.2 (aZ _ _)
    have es:(32:Int)-((cy ((aE (val b)).getD (n+1) 0):Nat):Int)=((s:Nat):Int):=by rw [Fh hbl32,hs]
    obtain⟨hs32,enV,hVge,hVlt⟩:=vK (n:=n+1) hn hs
    have hV0:0<val b*2 ^ s:=Nat.mul_pos hb0 (Nat.pow_pos (by omega))
    have eV:val (eJ ((aE (val b)).length+1) (val b*2 ^ s))=val b*2 ^ s:=m9 (by rw [hn];exact Nat.lt_of_lt_of_le hVlt (Nat.pow_le_pow_right (by omega) (by omega)))
    have hvt:=Cs enV hVge
    have hv1l:=aZ (val b*2 ^ s) (n+1)
    have hv2l:=aZ (val b*2 ^ s) n
    obtain⟨hst1,hst2⟩:=yR (n:=n+1) hs32 hm hnm hVge
    obtain⟨q0,hq0⟩:∃ q0,q0=m+1-(n+2):=⟨_,rfl⟩
    have eqn:((m:Int)+1-((n+2:Nat):Int))=((q0:Nat):Int):=by omega
    have en1:(((n+2:Nat):Int)-1).toNat=n+1:=by omega
    have en2:(((n+2:Nat):Int)-2).toNat=n:=by omega
    have hB1:val (eJ (m+1) (val a*2 ^ s))=val a*2 ^ s:=m9 hst2
    refine bD ?_
    refine cp bK (Ds _ (aZ _ _)) ?_
    refine bV ?_
    refine gc [] rfl rfl (.cons (.pure (ar _)) (.cons (.pure rfl) .nil)) (sP (val a) s (by omega) hs32) (al bB _) rfl ?_
    refine bG ?_
    refine gc [] rfl rfl (.cons (.pure (ar _)) (.cons (.pure rfl) .nil)) (sP (val b) s (by omega) hs32) (al bB _) rfl ?_
    refine o6 [1001105] rfl rfl (.cons (bg bB rfl rfl (it _ _).symm) .nil) (dZ (eJ ((aE (val b)).length+1) (val b*2 ^ s)) (oq _ _) (by rw [it];omega)) ?_
    refine bG ?_
    refine fk JC ?_
    refine bJ ?_
    refine fk Jk ?_
    refine bV ?_
    refine bM rfl rfl (.mkE (n:=q0) (m:=q0) ml ml om om om) ?_
    refine ct ?_
    refine tp (fun(k:Nat) (ul ql:List Nat) L=>(((((((St.mk L.slot (hp [(1001057,⟨1,ul.map bh,true⟩),(1001105,⟨1,(eJ ((aE (val b)).length+1) (val b*2 ^ s)).map bh,false⟩),(77,⟨1,ql.map bh,true⟩)])).put (some 4) (.ref 77 1 0 q0)).put (some 9) (ai s)).put (some 10) (.ref 1001057 1 0 (m+1))).put (some 11) (ba (val b*2 ^ s))).put (some 12) (ai (n+2))).put (some 13) (iL ((k:Int)-1)))) (fun k ul ql=>k≤q0∧ul.length=m+1∧ql.length=q0∧di ul∧di ql∧val ul+(val b*2 ^ s)*4294967296 ^ k*val (ql.drop k)=val a*2 ^ s∧val ul<(val b*2 ^ s)*4294967296 ^ k) (fun k ul ql=>k) q0 (eJ (m+1) (val a*2 ^ s)) (List.replicate q0 0) ⟨Nat.le_refl _,it _ _,by simp,oq _ _,dP _,by rw [List.drop_of_length_le (by simp),hB1];simp [val],by rw [hB1,hq0];exact hst1⟩ (h0:=⟨_,aP.of_eq (aa (aa (aa (aa (aa (aa (aJ vh) vh) vh) vh) vh) vh) vh)⟩) ?_
    rintro k ul ql L1 ⟨hk,hul,hql,hlu,hlq,hv,hlt⟩
    refine bV ?_
    refine an rfl (fun h82r h82=>?_) (fun h82r h82=>?_)
    ·obtain⟨j,rfl⟩:∃ j,k=j+1:=⟨k-1,by omega⟩
     have ek:(((j+1:Nat):Int)-1)=(j:Int):=by omega
     refine bx ?_
     refine ob (S:=fun L=>(((((((St.mk L.slot (hp [(1001057,⟨1,ul.map bh,true⟩),(1001105,⟨1,(eJ ((aE (val b)).length+1) (val b*2 ^ s)).map bh,false⟩),(77,⟨1,ql.map bh,true⟩)])).put (some 4) (.ref 77 1 0 q0)).put (some 9) (ai s)).put (some 10) (.ref 1001057 1 0 (m+1))).put (some 11) (ba (val b*2 ^ s))).put (some 12) (ai (n+2))).put (some 13) (iL (((j+1:Nat):Int)-1)))) (aa (aa (aa (aa (aa (aa (aJ cl) cl) cl) cl) cl) cl) cl) ?_
     refine wt b ul ql n s m q0 j enV hnm hm4 hq0 hk hul hql hlu hlq hvt hV0 hVlt hlt _ ?_
     rintro w4 x4 LQ ⟨hx4,hw4,hl4,hv8⟩
     have hRV:val ul/4294967296 ^ j<(val b*2 ^ s)*4294967296:=by
      obtain⟨_,_,_,_,_,_,h⟩:=tj (j:=j) enV (by omega) hlu hlt
      exact h
     have hqB:val ul/4294967296 ^ j/(val b*2 ^ s)<4294967296:=by rw [Nat.div_lt_iff_lt_mul hV0,Nat.mul_comm];exact hRV
     have hx4B:x4<4294967296:=by rw [hx4];exact hqB
     have hx4m:x4 % 4294967296=x4:=Nat.mod_eq_of_lt hx4B
     obtain⟨hn1,hn2⟩:=vd (j:=j) hV0 hx4 hv8 (by omega) hv
     refine bV ?_
     exact rb j w4 (ql.set j (x4 % 4294967296)) ⟨by omega,hw4,by simp [hql],hl4,cM hlq _ _ (by omega),by rw [hx4m];exact hn1,hn2⟩ (he:=aP.of_eq (aa (aa (aa (aa (aa (aa (aJ vh) vh) vh) vh) vh) vh) vh))
    ·obtain rfl:k=0:=by omega
     rw [List.drop_zero,Nat.pow_zero,Nat.mul_one] at hv
     rw [Nat.pow_zero,Nat.mul_one] at hlt
     obtain⟨hq,hr⟩:=x8 hb0 hv hlt
     obtain⟨T,hT⟩:∃ T,T=dt (m+1) ul:=⟨_,rfl⟩
     have hTm:T≤m+1:=by rw [hT];exact nu _ _
     have hTz:=vZ (l:=ul) (n:=m+1) hul.symm
     rw [←hT] at hTz
     have hlow:=rM (by omega) hr
     refine cx ?_
     refine f7 1001057 rfl rfl rfl (al bB _) (.cons .ref .nil) (.ref (by omega)) (yn ul (m+1) hul.symm (by omega) (by omega)) rfl (al bB _) ?_
     refine aL ?_
     refine fk IY ?_
     refine cg ?_
     refine ob (S:=fun L=>(((((((St.mk L.slot (hp [(1001057,⟨1,ul.map bh,true⟩),(1001105,⟨1,(eJ ((aE (val b)).length+1) (val b*2 ^ s)).map bh,false⟩),(77,⟨1,ql.map bh,true⟩)])).put (some 4) (.ref 77 1 0 q0)).put (some 5) (.ref 1001057 1 0 T)).put (some 9) (ai s)).put (some 260) (.ref 1001057 1 0 T)).put (some 261) (ai T)).put (some 262) (ai 0))) (aa (aa (aa (aa (aa (aa (aJ cl) cl) cl) cl) cl) cl) cl) ?_
     refine wu b ul ql s m q0 T hs32 hm4 hul hlu hTm hTz hlow _ ?_
     rintro w LQ ⟨hwl,hlw,hv9⟩
     rw [hTz T (Nat.le_refl _),Nat.zero_mod,Nat.mul_zero,Nat.add_zero] at hv9
     have hfin:val (w.take T)=val a % val b:=by
      have e1:=(iW ul.length ul (Nat.le_refl _)).2
      rw [List.take_length,hul,←hT,hr] at e1
      rw [e1,Nat.mul_comm] at hv9
      exact Nat.eq_of_mul_eq_mul_right (Nat.pow_pos (by omega)) hv9
     refine bw ?_
     refine s5 [77] s4 (dZ ql hlq (by omega)) ?_
     refine aL ?_
     refine s5 [1001057] s4 (dZ (w.take T) (eM hlw _) (by simp;omega)) ?_
     refine bJ ?_
     rw [←hq,←hfin]
     exact km [] rfl rfl (.pure (ar _)) rfl (.pure (ar _)) rfl (.pure rfl)
namespace Lf
theorem bQ {p q:Prop} (k:q) (e:p=q:=by simp only [e1,e2,e3,e4,p1,p2,p3,q1,q2,q3,l1,t0,t1,r1,r2,r3,r4,Nat.zero_add,Nat.reduceMul,Nat.reduceAdd,b1,b2,b3,b4,b5,b6,i1,i2,i3,i4,i5,i6,Nat.reduceBEq,cS,az];exact rfl):p:=e.mpr k
end Lf
open Lf in
theorem tv (a b:List Nat) (ha:di a) (hb:di b) (hla:a.length≤1099511627776) (hlb:b.length≤1099511627776):ap Tryz.prog 205 [dj a,dj b] (ba (Nat.gcd (val a) (val b))):=by
 have hla2:=iS a ha hla
 have hlb2:=iS b hb hlb
 refine bS Tryz.func205 ?_
 refine cx ?_
 refine cp bK (dZ _ (by first | assumption | exact aB _) (by first | omega | (simp;done) | (simp;omega))) ?_
 refine cp bK (lj _ (by omega)) ?_
 refine aL ?_
 refine cp bK (dZ _ (by first | assumption | exact aB _) (by first | omega | (simp;done) | (simp;omega))) ?_
 refine cp bK (lj _ (by omega)) ?_
 refine bJ ?_
 refine ik (fun(x y:Nat) L=>(((St.mk L.slot (hp [])).put (some 5) (ba x)).put (some 6) (ba y))) (fun x y=>Nat.gcd x y=Nat.gcd (val a) (val b)∧(aE x).length≤1099511627776∧(aE y).length≤1099511627776) (fun x y=>y) (val a) (val b) ⟨rfl,hla2,hlb2⟩ ?_
 rintro x y L1 ⟨hg,hx,hy⟩
 refine cx ?_
 refine an rfl (fun h23r h23=>?_) (fun h23r h23=>?_)
 ·have hy0:0<y:=Nat.pos_of_ne_zero (fun h=>by rw [h,eT] at h23;simp at h23)
  refine bV ?_
  refine cp bf (pJ _ _ (aB _) (aB _) (by omega) (by omega) (by rw [az];exact hy0)) ?_
  refine iP ?_
  exact gk y (x % y) ⟨by rw [Nat.gcd_comm,←Nat.gcd_rec,Nat.gcd_comm];exact hg,hy,Nat.le_trans (bN (Nat.le_of_lt (Nat.mod_lt x hy0))) hy⟩ (hm:=Nat.mod_lt _ hy0)
 ·refine ct ?_
  refine an rfl (fun h35r h35=>?_) (fun h35r h35=>?_)
  ·have hy0:y=0:=cH.1 (List.eq_nil_of_length_eq_zero (by omega))
   refine cx ?_
   subst hy0
   rw [←hg,Nat.gcd_zero_right]
   exact aS rfl (by first | exact .pure rfl | exact .pure (aG _) | exact .pure (ar _) | exact .pure (ah.pure _) | exact .pure (ak bB _ _) | exact .pure (ak ah _ _))
  ·have hy0:0<y:=Nat.pos_of_ne_zero (fun h=>by rw [h,eT] at h35;simp at h35)
   refine bv ?_
   refine cr (fun L=>∃ (x2:Nat) (y2:Nat) (L1:St),(Nat.gcd x2 y2=Nat.gcd (val a) (val b)∧(aE x2).length≤2∧(aE y2).length≤2)∧L=(((St.mk L1.slot (hp [])).put (some 5) (ba x2)).put (some 6) (ba y2))) ?_ ?_
   ·refine an rfl (fun h39r h39=>?_) (fun h39r h39=>?_)
    ·refine bw ?_
     refine cp bf (pJ _ _ (aB _) (aB _) (by omega) (by omega) (by rw [az];exact hy0)) ?_
     refine ie ?_
     exact⟨y,x % y,_,⟨by rw [Nat.gcd_comm,←Nat.gcd_rec,Nat.gcd_comm];exact hg,by omega,Nat.le_trans (bN (Nat.le_of_lt (Nat.mod_lt x hy0))) (by omega)⟩,((aa (aa (aJ cl) cl) cl)).symm⟩
    ·refine bG ?_
     exact⟨x,y,_,⟨hg,by omega,by omega⟩,((aa (aa (aJ cl) cl) cl)).symm⟩
   ·rintro _ ⟨x2,y2,LC39,⟨hg2,hx2,hy2⟩,rfl⟩
    refine bw ?_
    refine cp bK (yr _ (aB _) (by omega)) ?_
    refine aL ?_
    refine cp bK (yr _ (aB _) (by omega)) ?_
    refine bJ ?_
    refine ik (fun(m n:Nat) L=>(((St.mk L.slot (hp [])).put (some 13) (ce m)).put (some 14) (ce n))) (fun m n=>Nat.gcd m n=Nat.gcd (val a) (val b)∧m<18446744073709551616∧n<18446744073709551616) (fun m n=>n) x2 y2 ⟨hg2,dQ.1 hx2,dQ.1 hy2⟩ ?_
    rintro m n L2 ⟨hg3,hm,hn⟩
    refine bV ?_
    refine an rfl (fun h54r h54=>?_) (fun h54r h54=>?_)
    ·refine bx ?_
     refine au 6 (by decide +kernel) ?_
     refine cg ?_
     exact gk n (m % n) ⟨by rw [Nat.gcd_comm,←Nat.gcd_rec,Nat.gcd_comm];exact hg3,hn,by have:=Nat.mod_lt m (show n > 0 by omega);omega⟩ (hm:=Nat.mod_lt _ (by omega))
    ·obtain rfl:n=0:=by omega
     refine cx ?_
     refine cp bK (x7 _ (by omega)) ?_
     refine bw ?_
     rw [←hg3,Nat.gcd_zero_right]
     exact aS rfl (by first | exact .pure rfl | exact .pure (aG _) | exact .pure (ar _) | exact .pure (ah.pure _) | exact .pure (ak bB _ _) | exact .pure (ak ah _ _))
open H0 in
theorem CG :ap Tryz.prog 140 [] (ba 1):=by
 refine bS Tryz.func140 ?_
 refine bE ?_
 rw [show ba 1=.list 1 ([1].map bh) from rfl]
 exact fM [1] rfl rfl (bg bB rfl rfl rfl)
namespace Mh
theorem bQ {p q:Prop} (k:q) (e:p=q:=by simp only [e1,e2,e3,e4,p1,p2,p3,q1,q2,q3,l1,t0,t1,r1,r2,r3,r4,Nat.zero_add,Nat.reduceMul,Nat.reduceAdd,b1,b2,b3,b4,b5,b6,i1,i2,i3,i4,i5,i6,Nat.reduceBEq,ae ah,ax];exact rfl):p:=e.mpr k
end Mh
open Mh in
theorem jw (q:Rat):ap Tryz.prog 138 [ratL q] (ba q.den):=by
 refine bS Tryz.func138 ?_
 refine en ?_
 refine an rfl (fun h6r h6=>?_) (fun h6r h6=>?_)
 ·have hd1:=jG (show (aE (eP q)).length=0 by omega)
  refine bG ?_
  refine cp Gc (CG) ?_
  refine ca ?_
  rw [hd1]
  exact aS rfl (by first | exact .pure rfl | exact .pure (aG _) | exact .pure (ar _) | exact .pure (ah.pure _) | exact .pure (ak bB _ _) | exact .pure (ak ah _ _))
 ·have hd1:=jC (q:=q) (by omega)
  refine bv ?_
  rw [←hd1]
  exact aS rfl (by first | exact .pure rfl | exact .pure (aG _) | exact .pure (ar _) | exact .pure (ah.pure _) | exact .pure (ak bB _ _) | exact .pure (ak ah _ _))
namespace LJ
theorem bQ {p q:Prop} (k:q) (e:p=q:=by simp only [e1,e2,e3,e4,p1,p2,p3,q1,q2,q3,l1,t0,t1,r1,r2,r3,r4,Nat.zero_add,Nat.reduceMul,Nat.reduceAdd,b1,b2,b3,b4,b5,b6,i1,i2,i3,i4,i5,i6,Nat.reduceBEq,cS,ej];exact rfl):p:=e.mpr k
end LJ
open LJ in
theorem qy (a:List Nat) (h:di a) (hl:a.length≤2):ap Tryz.prog 202 [dj a] (ce (val a)):=by
 unfold dj
 refine bS Tryz.func202 ?_
 have ej:True:=trivial
 refine ib ?_
 refine ik (fun(k n:Nat) L=>((((St.mk L.slot (hp [])).put (some 0) (.list 1 (a.map bh))).put (some 3) (ce n)).put (some 4) (iL ((k:Int)-1)))) (fun k n=>k≤a.length∧n=val (a.drop k)) (fun k n=>k) a.length 0 ⟨Nat.le_refl _,by simp [val]⟩ ?_
 rintro k n L1 ⟨hk,hn⟩
 refine bV ?_
 refine an rfl (fun h9r h9=>?_) (fun h9r h9=>?_)
 ·obtain⟨j,rfl⟩:∃ j,k=j+1:=⟨k-1,by omega⟩
  have ej:(((j+1:Nat):Int)-1).toNat=j:=by omega
  have ek:(((j+1:Nat):Int)-1)=j:=by omega
  have hj:=bH h j
  have hnB:=lY h (k:=j+1) (j:=1) (by omega)
  rw [←hn] at hnB
  refine uv ?_
  exact gk j (n*4294967296+a.getD j 0) ⟨by omega,by rw [de (by omega),hn];omega⟩
 ·obtain rfl:k=0:=by omega
  rw [List.drop_zero] at hn
  refine bE ?_
  rw [←hn]
  exact aS rfl (by first | exact .pure rfl | exact .pure (aG _) | exact .pure (ar _) | exact .pure (ah.pure _) | exact .pure (ak bB _ _) | exact .pure (ak ah _ _))
open H0 in
theorem v9 (a b:Nat) (ha:a<18446744073709551616) (hb:b<18446744073709551616):ap Tryz.prog 203 [ce a,ce b] (ce (Nat.gcd a b)):=by
 refine bS Tryz.func203 ?_
 refine bV ?_
 refine ik (fun(m n:Nat) L=>(((St.mk L.slot (hp [])).put (some 0) (ce m)).put (some 1) (ce n))) (fun m n=>Nat.gcd m n=Nat.gcd a b∧m<18446744073709551616∧n<18446744073709551616) (fun m n=>n) a b ⟨rfl,ha,hb⟩ ?_
 rintro m n L1 ⟨hg3,hm,hn⟩
 refine bV ?_
 refine an rfl (fun h6r h6=>?_) (fun h6r h6=>?_)
 ·refine bx ?_
  refine au 6 (by decide +kernel) ?_
  refine cg ?_
  exact gk n (m % n) ⟨by rw [Nat.gcd_comm,←Nat.gcd_rec,Nat.gcd_comm];exact hg3,hn,by have:=Nat.mod_lt m (show n > 0 by omega);omega⟩ (hm:=Nat.mod_lt _ (by omega))
 ·obtain rfl:n=0:=by omega
  refine bE ?_
  rw [←hg3,Nat.gcd_zero_right]
  exact aS rfl (by first | exact .pure rfl | exact .pure (aG _) | exact .pure (ar _) | exact .pure (ah.pure _) | exact .pure (ak bB _ _) | exact .pure (ak ah _ _))
namespace Mk
theorem bQ {p q:Prop} (k:q) (e:p=q:=by simp only [e1,e2,e3,e4,p1,p2,p3,q1,q2,q3,l1,t0,t1,r1,r2,r3,r4,Nat.zero_add,Nat.reduceMul,Nat.reduceAdd,b1,b2,b3,b4,b5,b6,i1,i2,i3,i4,i5,i6,Nat.reduceBEq,cS,List.length_set,Nat.add_zero,eqm,eqz];exact rfl):p:=e.mpr k
end Mk
open Mk in
theorem uN (l:List Nat) (off len n:Nat) (hn:n<18446744073709551616) (h1:1≤len) (h2:4294967296≤n→2≤len) (hl:off+len≤l.length):dK Tryz.prog 204 ⟨1,l.map bh,true⟩ [.ref 0 1 off len,ce n] (ai (gq n)) ⟨1,(jl l off n).map bh,true⟩:=by
 refine BC Tryz.func204 ?_
 have eqm:True:=trivial
 have eqz:True:=trivial
 refine uj ?_
 refine an rfl (fun h11r h11=>?_) (fun h11r h11=>?_)
 ·have hn1:n<4294967296:=by omega
  have eqz:n % 4294967296=n:=Nat.mod_eq_of_lt hn1
  refine bV ?_
  simp only [jl,gq,if_pos hn1,eqz]
  exact i8 rfl (.imm (.pure rfl)) rfl rfl (al bB _)
 ·have hn1:¬ n<4294967296:=by omega
  have eqm:n/4294967296 % 4294967296=n/4294967296:=Nat.mod_eq_of_lt (by omega)
  refine je ?_
  simp only [jl,gq,if_neg hn1]
  exact i8 rfl (.imm (.pure rfl)) rfl rfl (al bB _)
theorem Aj:val []=0:=rfl
theorem xZ (n:Nat):decide (((cy n:Nat):Int)=0)=decide (n=0):=by
 rw [decide_eq_decide,←el];omega
theorem gr {n:Nat} (h:(aE n).length=1):(aE n).getD 0 0=n∧0<n:=by
 have h0:0<n:=Nat.pos_of_ne_zero (fun e=>by rw [e,eT] at h;cases h)
 rw [fx h0 (cK.1 (by omega))];exact⟨rfl,h0⟩
namespace Mn
theorem bQ {p q:Prop} (k:q) (e:p=q:=by simp only [e1,e2,e3,e4,p1,p2,p3,q1,q2,q3,l1,t0,t1,r1,r2,r3,r4,Nat.zero_add,Nat.reduceMul,Nat.reduceAdd,b1,b2,b3,b4,b5,b6,i1,i2,i3,i4,i5,i6,Nat.reduceBEq,ae ah,ax,cS,az];exact rfl):p:=e.mpr k
end Mn
open Mn in
theorem gX (q:Rat):ap Tryz.prog 134 [ratL q] (.tup [ce (pN q),ce (pD q),bL (Af q)]):=by
 have hdp:=q.den_pos
 have hden:=fi q
 refine bS Tryz.func134 ?_
 refine ie ?_
 refine bT 9 rfl (fun h9r h9=>?_) (fun h9r h9=>?_)
 ·have hs:Af q=false:=decide_eq_false (fun h=>by have:=cK.2 h.1;omega)
  have h14:True:=trivial
  refine iP ?_
  simp only [pN,pD,hs,Bool.false_eq_true,if_false]
  exact km [] rfl rfl (.pure rfl) rfl (.pure rfl) rfl (.pure rfl)
 ·have hn1:=cK.1 (show (aE q.num.natAbs).length≤1 by omega)
  refine bV ?_
  refine an rfl (fun h14r h14=>?_) (fun h14r h14=>?_)
  ·have hs:Af q=false:=by first | exact hs | exact decide_eq_false (fun h=>by have:=Ea h.2;omega)
   refine cg ?_
   simp only [pN,pD,hs,Bool.false_eq_true,if_false]
   exact km [] rfl rfl (.pure rfl) rfl (.pure rfl) rfl (.pure rfl)
  ·have hd1:q.den<4294967296:=by
    have:=cK.1 (show (aE (eP q)).length≤1 by omega)
    rw [hden] at this;split at this<;>omega
   have hs:Af q=true:=decide_eq_true ⟨hn1,hd1⟩
   refine ie ?_
   refine cr (fun L=>∃ (d:Nat) (L1:St),(d=q.den)∧L=(((St.mk L1.slot (hp [(1,⟨3,[ratL q],true⟩)])).put (some 1) (.eptr 1 3 0 0)).put (some 3) (ce d))) ?_ ?_
   ·refine an rfl (fun h18r h18=>?_) (fun h18r h18=>?_)
    ·have hdn:=jC (q:=q) (by omega)
     have hg0:(aE (eP q)).getD 0 0=q.den:=by rw [hdn,fx hdp hd1];rfl
     refine cg ?_
     exact⟨(aE (eP q)).getD 0 0,_,hg0,((aa (aa (aJ cl) cl) cl)).symm⟩
    ·have hdn:=jG (q:=q) (by omega)
     refine bG ?_
     exact⟨1,_,hdn.symm,((aa (aa (aJ cl) cl) cl)).symm⟩
   ·rintro _ ⟨d,LC18,rfl,rfl⟩
    refine ca ?_
    refine cp bK (qy _ (aB _) (by omega)) ?_
    refine cg ?_
    simp only [pN,pD,hs,if_true]
    have hb0:((q.den:Int) != 0)=true:=by simp;omega
    refine km [] rfl rfl (.pure rfl) rfl (.pure rfl) (x'':=.v (.bool ((q.den:Int) != 0))) rfl ?_
    rw [hb0]
    exact .pure rfl
namespace Mv
theorem bQ {p q:Prop} (k:q) (e:p=q:=by simp only [e1,e2,e3,e4,p1,p2,p3,q1,q2,q3,l1,t0,t1,r1,r2,r3,r4,Nat.zero_add,Nat.reduceMul,Nat.reduceAdd,b1,b2,b3,b4,b5,b6,i1,i2,i3,i4,i5,i6,Nat.reduceBEq,cS,Nat.sub_zero,Nat.zero_add,Nat.add_sub_cancel_left,Nat.add_zero];exact rfl):p:=e.mpr k
theorem kC {p q:Prop} (k:q) (e:p=q:=by simp only [e1,e2,e3,e4,p1,p2,p3,q1,q2,q3,l1,t0,t1,r1,r2,r3,r4,Nat.zero_add,Nat.reduceMul,Nat.reduceAdd,b1,b2,b3,b4,b5,b6,i1,i2,i3,i4,i5,i6,Nat.reduceBEq,cS,Nat.sub_zero,Nat.zero_add,Nat.add_sub_cancel_left,Nat.add_zero,←hN,←hD];exact rfl):p:=e.mpr k
theorem tL {p:Prop} (h:p:=by first | (refine kC ?_;exact rfl) | exact rfl):p:=h
end Mv
open Mv in
theorem jT (s:Bool) (n d:Nat) (hn:n<18446744073709551616) (hd0:0<d) (hd:d<18446744073709551616):ap Tryz.prog 135 [bL s,ce n,ce d] (ratL (qv s n d)):=by
 refine bS Tryz.func135 ?_
 refine bE ?_
 refine an rfl (fun h13r h13=>?_) (fun h13r h13=>?_)
 ·refine cx ?_
  obtain rfl:n=0:=by omega
  rw [kI,cL]
  exact b9 [] rfl rfl rfl rfl rfl bF (.pure rfl)
 ·have hn0:0<n:=by omega
  have hg:0<Nat.gcd n d:=Nat.gcd_pos_of_pos_left _ hn0
  have hn2:0<n/Nat.gcd n d:=Nat.div_pos (Nat.le_of_dvd hn0 (Nat.gcd_dvd_left n d)) hg
  have hd2:0<d/Nat.gcd n d:=Nat.div_pos (Nat.le_of_dvd hd0 (Nat.gcd_dvd_right n d)) hg
  have hn3:n/Nat.gcd n d<18446744073709551616:=Nat.lt_of_le_of_lt (Nat.div_le_self _ _) hn
  have hd3:d/Nat.gcd n d<18446744073709551616:=Nat.lt_of_le_of_lt (Nat.div_le_self _ _) hd
  have hE:=mF s hn0 hd0
  obtain⟨g,hgg⟩:∃ g,g=Nat.gcd n d:=⟨_,rfl⟩
  obtain⟨N,hN⟩:∃ N,N=n/Nat.gcd n d:=⟨_,rfl⟩
  obtain⟨D,hD⟩:∃ D,D=d/Nat.gcd n d:=⟨_,rfl⟩
  rw [←hN,←hD] at hE
  rw [←hN] at hn2 hn3
  rw [←hD] at hd2 hd3
  have hk1:=jx hn2 hn3
  have hk2:=jx hd2 hd3
  obtain⟨hs1,hs2⟩:=wi hn2 hn3 hd2 hd3
  have hs0:=wa hn2 hn3
  have hl1:(jl [0,0,0,0] 0 N).length=4:=nH _ _ _
  have hl2:(jl (jl [0,0,0,0] 0 N) (gq N) D).length=4:=by rw [nH,nH];rfl
  refine bJ ?_
  refine cp bf (v9 _ _ (by omega) (by omega)) ?_
  refine bw ?_
  refine au 8 (by decide +kernel) ?_
  refine bG ?_
  refine ab rfl (.bin rfl rfl (rG (by omega) (by omega))) ?_
  refine bG ?_
  refine ab rfl (.bin rfl rfl (rG (by omega) (by omega))) ?_
  refine bG ?_
  refine fk tL ?_
  refine bx ?_
  refine bM rfl rfl (.mkE (n:=4) (m:=4) ml ml om om om) ?_
  refine bV ?_
  refine f7 24 rfl rfl rfl (al bB _) (.cons .ref (.cons (.imm (.pure rfl)) .nil)) (.ref (by decide)) (uN [0,0,0,0] 0 4 N hn3 (by omega) (by omega) (by simp)) rfl (al bB _) ?_
  refine cg ?_
  refine ab rfl (.sliceR3 (a:=0) (h:=gq N) (mx:=gq N) rfl Tryz.underlying27 f8 (fun y hy=>by cases hy) (fun _=>rfl) rfl rfl (by omega) (by omega) (by omega) (by omega)) ?_
  refine bE ?_
  refine an rfl (fun h35r h35=>?_) (fun h35r h35=>?_)
  ·refine ca ?_
   refine ab rfl (.sliceR (a:=gq N) (h:=4) rfl Tryz.underlying27 f8 (fun y hy=>by cases hy;exact⟨_,rfl⟩) (fun h=>by cases h) (fun y hy=>by cases hy) (fun _=>rfl) (by omega) (by omega) (by omega)) ?_
   refine aL ?_
   refine f7 24 rfl rfl rfl (al bB _) (.cons .ref (.cons (.imm (.pure rfl)) .nil)) (.ref (by omega)) (uN (jl [0,0,0,0] 0 N) (0+gq N) (4-gq N) D hd3 (by omega) (by omega) (by omega)) rfl (al bB _) ?_
   refine cg ?_
   refine ab rfl (.sliceR3 (a:=gq N) (h:=gq N+gq D) (mx:=gq N+gq D) rfl Tryz.underlying27 f8 (fun y hy=>by cases hy;exact⟨_,rfl⟩) (fun h=>by cases h) rfl rfl (by omega) (by omega) (by omega) (by omega)) ?_
   refine bD ?_
   rw [hE,if_neg (by omega)]
   exact b9 [24] rfl rfl rfl rfl rfl bF (.agg (.cons (.pure rfl) (.cons (ot bB rfl rfl (by omega) hs1) (.cons (ot bB rfl rfl (by omega) hs2) .nil))))
  ·refine cg ?_
   rw [hE,if_pos (by omega)]
   exact b9 [24] rfl rfl rfl rfl rfl bF (.agg (.cons (.pure rfl) (.cons (ot bB rfl rfl (by omega) hs0) (.cons (.pure rfl) .nil))))
namespace Ms
theorem bQ {p q:Prop} (k:q) (e:p=q:=by simp only [e1,e2,e3,e4,p1,p2,p3,q1,q2,q3,l1,t0,t1,r1,r2,r3,r4,Nat.zero_add,Nat.reduceMul,Nat.reduceAdd,b1,b2,b3,b4,b5,b6,i1,i2,i3,i4,i5,i6,Nat.reduceBEq,cS,az,Aj,Nat.add_zero];exact rfl):p:=e.mpr k
end Ms
open Ms in
theorem gG (s:Bool) (a b:List Nat) (ha:di a) (hb:di b) (hla:a.length≤1099511627776) (hlb:b.length≤1099511627776):ap Tryz.prog 136 [bL s,dj a,dj b] (ratL (qv s (val a) (val b))):=by
 have hla2:=iS a ha hla
 have hlb2:=iS b hb hlb
 refine bS Tryz.func136 ?_
 refine bV ?_
 refine cr (fun L=>∃ (t:Bool) (L1:St),(t=decide (val a=0∨val b=0))∧L=((((((St.mk L1.slot (hp [(6,⟨3,[.agg [.v (.bool false),.list 1 [],.list 1 []]],true⟩)])).put (some 0) (bL s)).put (some 1) (dj a)).put (some 2) (dj b)).put (some 6) (.eptr 6 3 0 0)).put (some 15) (bL t))) ?_ ?_
 ·refine bG ?_
  refine cp bK (gU _ (by first | assumption | exact aB _) (by omega)) ?_
  refine bG ?_
  refine bT 11 rfl (fun h11r h11=>?_) (fun h11r h11=>?_)
  ·have hz:val a=0:=el.1 (by omega)
   refine bJ ?_
   exact⟨true,_,(decide_eq_true (.inl hz)).symm,((aa (aa (aa (aa (aa (aJ cl) cl) cl) cl) cl) cl)).symm⟩
  ·have hza:val a≠0:=fun h=>by rw [el.2 h] at h11;exact h11 rfl
   refine aL ?_
   refine cp bK (gU _ (by first | assumption | exact aB _) (by omega)) ?_
   refine bw ?_
   exact⟨decide (((cy (val b):Nat):Int)=0),_,by show decide _=_;rw [xZ];simp [hza],((aa (aa (aa (aa (aa (aJ cl) cl) cl) cl) cl) cl)).symm⟩
 ·rintro _ ⟨t,LR1,ht,rfl⟩
  refine aL ?_
  refine an rfl (fun h15r h15=>?_) (fun h15r h15=>?_)
  ·have hq:qv s (val a) (val b)=0:=by
    rw [ht,decide_eq_true_eq] at h15r
    rcases h15r with h | h
    ·rw [h];exact kI _ _
    ·rw [h];exact qz _ _
   refine cx ?_
   rw [hq,cL]
   exact b9 [] rfl rfl rfl rfl rfl bF (.pure rfl)
  ·rw [ht,decide_eq_false_iff_not,not_or] at h15r
   have ha0:0<val a:=Nat.pos_of_ne_zero h15r.1
   have hb0:0<val b:=Nat.pos_of_ne_zero h15r.2
   have hg:0<Nat.gcd (val a) (val b):=Nat.gcd_pos_of_pos_left _ ha0
   have hE:=mF s ha0 hb0
   have hgl:(aE (Nat.gcd (val a) (val b))).length≤1099511627776:=Nat.le_trans (bN (Nat.le_of_dvd ha0 (Nat.gcd_dvd_left _ _))) hla2
   have hqa:(aE (val a/Nat.gcd (val a) (val b))).length≤1099511627776:=Nat.le_trans (bN (Nat.div_le_self _ _)) hla2
   have hqb:(aE (val b/Nat.gcd (val a) (val b))).length≤1099511627776:=Nat.le_trans (bN (Nat.div_le_self _ _)) hlb2
   refine bw ?_
   refine cr (fun L=>∃ (t:Bool) (L1:St),(t=decide (a.length≤2∧b.length≤2))∧L=((((((St.mk L1.slot (hp [(6,⟨3,[.agg [.v (.bool false),.list 1 [],.list 1 []]],true⟩)])).put (some 0) (bL s)).put (some 1) (dj a)).put (some 2) (dj b)).put (some 6) (.eptr 6 3 0 0)).put (some 24) (bL t))) ?_ ?_
   ·refine ca ?_
    refine bT 20 rfl (fun h20r h20=>?_) (fun h20r h20=>?_)
    ·refine bJ ?_
     exact⟨decide (((b.length:Nat):Int)≤2),_,by rw [decide_eq_decide];omega,((aa (aa (aa (aa (aa (aJ cl) cl) cl) cl) cl) cl)).symm⟩
    ·refine bJ ?_
     exact⟨false,_,by symm;rw [decide_eq_false_iff_not];omega,((aa (aa (aa (aa (aa (aJ cl) cl) cl) cl) cl) cl)).symm⟩
   ·rintro _ ⟨t,LR3,ht2,rfl⟩
    refine aL ?_
    refine an rfl (fun h24r h24=>?_) (fun h24r h24=>?_)
    ·rw [ht2,decide_eq_true_eq] at h24r
     have hla24:=h24r.1
     have hlb24:=h24r.2
     refine bw ?_
     have hva:=df ha (k:=2) (by omega)
     have hvb:=df hb (k:=2) (by omega)
     refine cp bK (qy a ha (by omega)) ?_
     refine aL ?_
     refine cp bK (qy b hb (by omega)) ?_
     refine cp jt (jT _ _ _ hva hb0 hvb) ?_
     refine ca ?_
     exact b9 [] rfl rfl rfl (ah.csize _) (am _) bF (.pure (ah.pure _))
    ·refine bV ?_
     refine cp bf (tv _ _ (by first | assumption | exact aB _) (by first | assumption | exact aB _) (by omega) (by omega)) ?_
     refine bJ ?_
     refine cp bK (gU _ (by first | assumption | exact aB _) (by omega)) ?_
     refine bx ?_
     refine cr (fun L=>∃ (x:List Nat) (y:List Nat) (L1:St),(di x∧di y∧x.length≤1099511627776∧y.length≤1099511627776∧val x=val a/Nat.gcd (val a) (val b)∧val y=val b/Nat.gcd (val a) (val b))∧L=(((((St.mk L1.slot (hp [(6,⟨3,[.agg [.v (.bool false),.list 1 [],.list 1 []]],true⟩)])).put (some 0) (bL s)).put (some 1) (dj x)).put (some 2) (dj y)).put (some 6) (.eptr 6 3 0 0))) ?_ ?_
     ·refine an rfl (fun h36r h36=>?_) (fun h36r h36=>?_)
      ·refine bw ?_
       refine cp bf (pJ _ _ (by first | assumption | exact aB _) (by first | assumption | exact aB _) (by omega) (by omega) (by rw [az];exact hg)) ?_
       refine bv ?_
       refine cp bf (pJ _ _ (by first | assumption | exact aB _) (by first | assumption | exact aB _) (by omega) (by omega) (by rw [az];exact hg)) ?_
       refine bV ?_
       exact⟨aE (val a/Nat.gcd (val a) (val b)),aE (val b/Nat.gcd (val a) (val b)),_,⟨aB _,aB _,hqa,hqb,az _,az _⟩,((aa (aa (aa (aa (aJ cl) cl) cl) cl) cl)).symm⟩
      ·have hg1:Nat.gcd (val a) (val b)=1:=xm.1 (by have:=el (n:=Nat.gcd (val a) (val b));omega)
       refine bG ?_
       exact⟨a,b,_,⟨ha,hb,hla,hlb,by rw [hg1,Nat.div_one],by rw [hg1,Nat.div_one]⟩,((aa (aa (aa (aa (aJ cl) cl) cl) cl) cl)).symm⟩
     ·rintro _ ⟨x,y,LC36,⟨hx,hy,hlx,hly,hvx,hvy⟩,rfl⟩
      rw [←hvx,←hvy] at hE
      have hy0:0<val y:=by rw [hvy];exact Nat.div_pos (Nat.le_of_dvd hb0 (Nat.gcd_dvd_right _ _)) hg
      refine bw ?_
      refine cp bf (yb x [] hx (by intro y hy;cases hy) hlx (by simp)) ?_
      refine aL ?_
      refine cp bf (yb y [] hy (by intro y hy;cases hy) hly (by simp)) ?_
      refine bD ?_
      refine bT 58 rfl (fun h58r h58=>?_) (fun h58r h58=>?_)
      ·refine bV ?_
       refine an rfl (fun h63r h63=>?_) (fun h63r h63=>?_)
       ·have hy1:val y=1:=by have:=(gr (n:=val y) (by omega)).1;omega
        refine dI ?_
        rw [hE,if_pos hy1]
        exact b9 [] rfl rfl rfl rfl rfl bF (.agg (.cons (.pure rfl) (.cons (.pure (ar _)) (.cons (.nil 1) .nil))))
       ·have hy1:val y≠1:=by have:=(gr (n:=val y) (by omega)).1;omega
        refine bE ?_
        rw [hE,if_neg hy1]
        exact b9 [] rfl rfl rfl rfl rfl bF (.agg (.cons (.pure rfl) (.cons (.pure (ar _)) (.cons (.pure (ar _)) .nil))))
      ·have hy1:val y≠1:=fun e=>by rw [e,mo] at h58;exact h58 rfl
       refine ib ?_
       rw [hE,if_neg hy1]
       exact b9 [] rfl rfl rfl rfl rfl bF (.agg (.cons (.pure rfl) (.cons (.pure (ar _)) (.cons (.pure (ar _)) .nil))))
open H0 in
theorem te (n:Int) (h1:-9223372036854775808≤n) (h2:n≤9223372036854775807):ap Tryz.prog 139 [iL n] (ba n.natAbs):=by
 refine bS Tryz.func139 ?_
 refine bE ?_
 refine an rfl (fun h4r h4=>?_) (fun h4r h4=>?_)
 ·refine bG ?_
  refine cp bK (x7 9223372036854775808 (by omega)) ?_
  refine ca ?_
  rw [show n.natAbs=9223372036854775808 by omega]
  exact aS rfl (by first | exact .pure rfl | exact .pure (aG _) | exact .pure (ar _) | exact .pure (ah.pure _) | exact .pure (ak bB _ _) | exact .pure (ak ah _ _))
 ·refine bJ ?_
  refine ab rfl (.neg rfl) ?_
  refine aL ?_
  refine ab rfl (.cv64 (n:=n.natAbs) Tryz.underlying2 Tryz.underlying161 (by simp only [e1,p1,p2,Nat.reduceBEq];rw [Az (by omega) (by omega)]) (by omega)) ?_
  refine cp bK (x7 n.natAbs (by omega)) ?_
  refine bw ?_
  exact aS rfl (by first | exact .pure rfl | exact .pure (aG _) | exact .pure (ar _) | exact .pure (ah.pure _) | exact .pure (ak bB _ _) | exact .pure (ak ah _ _))
theorem fG {P:Program} {L:St} {a u:Nat} {T:TypeId} {b sz:Nat} {x y x' y':LV} {m:Bool} {n:Nat} {ag:Bool} (bs:List Nat) (h0:bs.contains 0=false) (h:L.slot a=.eptr b sz 0 0) (hb:L.heap b=some ⟨sz,[x],m⟩)
  (hx:x.csize=sz) (hat:x.at 0 n ag=some x) (hT:bj P T n ag) (hi:Imm (L.frz bs).heap x y) (h':L.slot u=x') (hi':Imm (L.frz bs).heap x' y'):jD P [.cell a T,.tmp u] L (.tup [y,y']) [] :=
 ⟨[x,x'],[y,y'],(L.frz bs).heap,[],.cons ⟨b,sz,0,0,_,x,n,ag,h,hb,rfl,rfl,hx,hat,hT⟩ (.cons h' .nil),fF bs h0,.cons (.imm hi) (.cons (.imm hi') .nil),List.nodup_nil,rfl,fun k b h=>by simp at h,rfl⟩
namespace LD
theorem bQ {p q:Prop} (k:q) (e:p=q:=by simp only [e1,e2,e3,e4,p1,p2,p3,q1,q2,q3,l1,t0,t1,r1,r2,r3,r4,Nat.zero_add,Nat.reduceMul,Nat.reduceAdd,b1,b2,b3,b4,b5,b6,i1,i2,i3,i4,i5,i6,Nat.reduceBEq,az];exact rfl):p:=e.mpr k
end LD
open LD in
theorem kr (n:Int) (h1:-9223372036854775808≤n) (h2:n≤9223372036854775807):ap Tryz.prog 69 [iL n] (ratL (n:Rat)):=by
 refine bS Tryz.func69 ?_
 refine bv ?_
 refine cp bK (te _ (by omega) (by omega)) ?_
 refine cp Gc (CG) ?_
 refine cp jt (gG (decide (n<0)) (aE n.natAbs) (aE 1) (aB _) (aB _) (Nat.le_trans (dQ.2 (by omega)) (by omega)) (by rw [mo];decide)) ?_
 refine bw ?_
 rw [←n5 n]
 exact b9 [] rfl rfl rfl (ah.csize _) (am _) bF (.pure (ah.pure _))
namespace LE
theorem bQ {p q:Prop} (k:q) (e:p=q:=by simp only [e1,e2,e3,e4,p1,p2,p3,q1,q2,q3,l1,t0,t1,r1,r2,r3,r4,Nat.zero_add,Nat.reduceMul,Nat.reduceAdd,b1,b2,b3,b4,b5,b6,i1,i2,i3,i4,i5,i6,Nat.reduceBEq,az];exact rfl):p:=e.mpr k
end LE
open LE in
theorem qc (n d:Int) (h1:-9223372036854775808≤n) (h2:n≤9223372036854775807) (h3:-9223372036854775808≤d) (h4:d≤9223372036854775807) (hd:d≠0):ap Tryz.prog 282 [iL n,iL d] (.tup [ratL ((n:Rat)/(d:Rat)),iL 0]):=by
 refine bS Tryz.func282 ?_
 refine ct ?_
 refine an rfl (fun h7r h7=>?_) (fun h7r h7=>?_)
 ·exact absurd h7 hd
 ·refine bv ?_
  refine cp bK (te _ (by omega) (by omega)) ?_
  refine aL ?_
  refine cp bK (te _ (by omega) (by omega)) ?_
  refine cp jt (gG (decide (n<0) != decide (d<0)) (aE n.natAbs) (aE d.natAbs) (aB _) (aB _) (Nat.le_trans (dQ.2 (by omega)) (by omega)) (Nat.le_trans (dQ.2 (by omega)) (by omega))) ?_
  refine ca ?_
  rw [←qE]
  exact fG [] rfl rfl rfl (ah.csize _) (am _) bF (.pure (ah.pure _)) rfl (.pure rfl)
theorem lZ {q:Rat} (h:Af q=true):pN q=q.num.natAbs∧pD q=q.den∧q.num.natAbs<4294967296∧q.den<4294967296:=by
 have h2:=of_decide_eq_true h
 exact⟨by simp [pN,h],by simp [pD,h],h2.1,h2.2⟩
theorem bl {x y k l:Nat} (hx:(aE x).length≤k) (hy:(aE y).length≤l):(aE (x*y)).length≤k+l :=
 cU (eR (bZ hx) (bZ hy))
theorem qX {x y k:Nat} (hx:(aE x).length≤k) (hy:(aE y).length≤k):(aE (x+y)).length≤k+1 :=
 cU (nX (bZ hx) (bZ hy))
def wA (x y:Nat):List Nat:=if x<y then [] else aE (x-y)
def uc (x y:Nat):Int:=if x<y then 7 else 0
theorem pj (x y:Nat) (hx:(aE x).length≤1099511627776) (hy:(aE y).length≤1099511627776):ap Tryz.prog 218 [ba x,ba y] (.tup [dj (wA x y),iL (uc x y)]):=by
 unfold wA uc
 by_cases h:x<y
 ·rw [if_pos h,if_pos h]
  exact yf _ _ (aB _) (aB _) hx hy (by rw [az,az];exact h)
 ·rw [if_neg h,if_neg h]
  have:=Dr _ _ (aB x) (aB y) hx hy (by rw [az,az];omega)
  rw [az,az] at this
  exact this
theorem tH {x y:Nat}:uc x y=0↔y≤x:=by unfold uc;split<;>omega
theorem kT {x y:Nat} (h:y≤x):wA x y=aE (x-y):=by unfold wA;rw [if_neg (by omega)]
section
variable {a b:Rat} {s:Bool} {x y d k:Nat}
theorem nZ (hk:0<k) (hx:x*k=a.num.natAbs*b.den) (hy:y*k=b.num.natAbs*a.den) (hd:d*k=a.den*b.den) (h:decide (a<0)=s):a+w9 s b=qv s (x+y) d:=by
 have:=lW s (n:=a.num.natAbs) (m:=b.num.natAbs) a.den_pos b.den_pos
 rw [←hx,←hy,←hd,←Nat.add_mul,oC s hk] at this
 rw [←this,w9]
 subst h
 rw [cO]
theorem ur (hk:0<k) (hx:x*k=a.num.natAbs*b.den) (hy:y*k=b.num.natAbs*a.den) (hd:d*k=a.den*b.den) (h:decide (a<0)≠s) (hle:y≤x):a+w9 s b=qv (decide (a<0)) (x-y) d:=by
 have:=pb (decide (a<0)) s (n:=a.num.natAbs) (m:=b.num.natAbs) a.den_pos b.den_pos h (by rw [←hx,←hy];exact Nat.mul_le_mul_right _ hle)
 rw [←hx,←hy,←hd,←Nat.sub_mul,oC _ hk] at this
 rw [←this,w9,cO]
theorem tB (hk:0<k) (hx:x*k=a.num.natAbs*b.den) (hy:y*k=b.num.natAbs*a.den) (hd:d*k=a.den*b.den) (h:decide (a<0)≠s) (hle:x≤y):a+w9 s b=qv s (y-x) d:=by
 have:=nc (decide (a<0)) s (n:=a.num.natAbs) (m:=b.num.natAbs) a.den_pos b.den_pos h (by rw [←hx,←hy];exact Nat.mul_le_mul_right _ hle)
 rw [←hx,←hy,←hd,←Nat.sub_mul,oC _ hk] at this
 rw [←this,w9,cO]
end
theorem nh {a b:Rat} (h:aE (eP a)=aE (eP b)):a.den=b.den:=by
 have h2:eP a=eP b:=by rw [←az (eP a),h,az]
 rw [fi,fi] at h2
 have:=a.den_pos
 have:=b.den_pos
 split at h2<;>split at h2<;>omega
theorem zn {x y k:Nat} (hk:0<k):fC (x*k) (y*k)=fC x y:=by
 simp only [fC,Nat.mul_lt_mul_right hk]
theorem tS {a b:Rat} (ha:¬ a<0) (hb:¬ b<0):a<b↔a.num.natAbs*b.den<b.num.natAbs*a.den:=by
 rw [mr] at ha hb
 rw [Rat.lt_iff]
 have h1:a.num=(a.num.natAbs:Int):=by omega
 have h2:b.num=(b.num.natAbs:Int):=by omega
 rw [h1,h2]
 simp only [Int.natAbs_natCast]
 exact_mod_cast Iff.rfl
theorem xq {a b:Rat} (ha:a<0) (hb:b<0):a<b↔b.num.natAbs*a.den<a.num.natAbs*b.den:=by
 have:=tS (a:=-b) (b:=-a) (by grind) (by grind)
 rw [Rat.neg_num,Rat.neg_num,Int.natAbs_neg,Int.natAbs_neg,Rat.neg_den,Rat.neg_den] at this
 rw [←this]
 grind
theorem lf {a b:Rat} (h:gM a=gM b):gJ a b=if a<0 then-fC (a.num.natAbs*b.den) (b.num.natAbs*a.den) else fC (a.num.natAbs*b.den) (b.num.natAbs*a.den):=by
 have hs:(a<0)↔(b<0):=by
  unfold gM at h
  split at h<;>split at h<;>(try split at h)<;>(try split at h)<;>grind
 by_cases ha:a<0
 ·have hb:=hs.1 ha
  rw [if_pos ha]
  simp only [gJ,fC,xq ha hb,xq hb ha]
  split<;>split<;>omega
 ·have hb:=fun h=>ha (hs.2 h)
  rw [if_neg ha]
  simp only [gJ,fC,tS ha hb,tS hb ha]
theorem uV {a b:Rat} (h:gM a<gM b):gJ a b=-1:=by
 have:a<b:=by unfold gM at h;split at h<;>split at h<;>(try split at h)<;>(try split at h)<;>grind
 simp [gJ,this]
theorem vz {a b:Rat} (h:gM b<gM a):gJ a b=1:=by
 have h1:b<a:=by unfold gM at h;split at h<;>split at h<;>(try split at h)<;>(try split at h)<;>grind
 have h2:¬ a<b:=by grind
 simp [gJ,h1,h2]
theorem oO {q:Rat} (h:(aE q.num.natAbs).length=0):q=0:=by
 have:=cH.1 (List.eq_nil_of_length_eq_zero h)
 exact Rat.num_eq_zero.1 (by omega)
theorem pq {c:Int} {x y:Nat} (h:c=fC x y):IntKind.i64.wrap (0-c)=-c:=by
 have:c=-1∨c=0∨c=1:=by rw [h];unfold fC;split<;>(try split)<;>simp
 rw [IntWalk.i64_in _ (by omega)];omega
end Go.Proofs.YtfpdccbgngdhkaaGreat
namespace Go.Lg
open Go.Proofs.YtfpdccbgngdhkaaGreat in
theorem OpT.stR1 {P:Program} {L:St} {dst:Option Nat} {T:TypeId} {p x:Operand} {b:Nat} {q q0:Rat} (hp:L.ev p=.eptr b 3 0 0) (hb:L.heap b=some ⟨3,[ratL q0],true⟩) (hx:L.ev x=ratL q) (hT:bj P T 3 true) :
  OpT P L dst (.store T p x) ((L.setB b (some ⟨3,[ratL q],true⟩)).put dst .any):=by
 have h0:LV.put (ratL q0) 0 (L.ev x)=some (ratL q):=by
  rw [hx,fh q0]
  have e1:∀ n,(ba n).csize=1:=fun _=>rfl
  simp [LV.put,ah.csize,ah.isAgg,ay,LV.csize,e1]
 have h:=OpT.store (P:=P) (dst:=dst) (T:=T) (p:=p) (x:=x) (y:=ratL q0) (y':=ratL q) hp hb rfl rfl rfl (ah.csize _) h0 (by rw [hx,ah.csize,ah.isAgg];exact hT)
  (by rw [hx];exact⟨LV.pure_ne_any (ah.pure q),LV.pure_ne_tup (ah.pure q)⟩)
 exact h
end Go.Lg
namespace Go.Proofs.YtfpdccbgngdhkaaGreat
open Go.Lg
namespace LH
theorem bQ {p q:Prop} (k:q) (e:p=q:=by simp only [e1,e2,e3,e4,p1,p2,p3,q1,q2,q3,l1,t0,t1,r1,r2,r3,r4,Nat.zero_add,Nat.reduceMul,Nat.reduceAdd,b1,b2,b3,b4,b5,b6,i1,i2,i3,i4,i5,i6,Nat.reduceBEq,az];exact rfl):p:=e.mpr k
end LH
open LH in
theorem mE (q:Rat) (h:rl q≤1099511627776):ap Tryz.prog 133 [ratL q] (iL (gM q)):=by
 have h1:=db q
 have hq:=uJ q
 refine bS Tryz.func133 ?_
 refine bE ?_
 refine cp bK (gU _ (by first | assumption | exact aB _) (by omega)) ?_
 refine bw ?_
 refine an rfl (fun h3r h3=>?_) (fun h3r h3=>?_)
 ·have hz:q.num.natAbs=0:=el.1 (by omega)
  refine cx ?_
  rw [hq,if_pos hz]
  exact aS rfl (by first | exact .pure rfl | exact .pure (aG _) | exact .pure (ar _) | exact .pure (ah.pure _) | exact .pure (ak bB _ _) | exact .pure (ak ah _ _))
 ·have hz:q.num.natAbs≠0:=fun e=>by rw [el.2 e] at h3;exact h3 rfl
  refine bV ?_
  refine an rfl (fun h8r h8=>?_) (fun h8r h8=>?_)
  ·refine cx ?_
   rw [hq,if_neg hz,if_pos h8]
   exact aS rfl (by first | exact .pure rfl | exact .pure (aG _) | exact .pure (ar _) | exact .pure (ah.pure _) | exact .pure (ak bB _ _) | exact .pure (ak ah _ _))
  ·refine cg ?_
   rw [hq,if_neg hz,if_neg h8]
   exact aS rfl (by first | exact .pure rfl | exact .pure (aG _) | exact .pure (ar _) | exact .pure (ah.pure _) | exact .pure (ak bB _ _) | exact .pure (ak ah _ _))
open H0 in
theorem rh (q:Rat) (h:rl q≤1099511627776):ap Tryz.prog 153 [ratL q] (ratL q):=by
 have h1:=db q
 have h2:=cF q
 refine bS Tryz.func153 ?_
 refine bV ?_
 refine au 9 (by decide +kernel) ?_
 refine bw ?_
 refine cp bK (lj _ (by omega)) ?_
 refine bG ?_
 refine cp bK (lj _ (by omega)) ?_
 refine ca ?_
 rw [fh]
 exact b9 [] rfl rfl rfl rfl rfl bF (.agg (.cons (.pure rfl) (.cons (.pure (ar _)) (.cons (.pure (ar _)) .nil))))
namespace LC
theorem bQ {p q:Prop} (k:q) (e:p=q:=by simp only [e1,e2,e3,e4,p1,p2,p3,q1,q2,q3,l1,t0,t1,r1,r2,r3,r4,Nat.zero_add,Nat.reduceMul,Nat.reduceAdd,b1,b2,b3,b4,b5,b6,i1,i2,i3,i4,i5,i6,Nat.reduceBEq,az];exact rfl):p:=e.mpr k
theorem kC {p q:Prop} (k:q) (e:p=q:=by simp only [e1,e2,e3,e4,p1,p2,p3,q1,q2,q3,l1,t0,t1,r1,r2,r3,r4,Nat.zero_add,Nat.reduceMul,Nat.reduceAdd,b1,b2,b3,b4,b5,b6,i1,i2,i3,i4,i5,i6,Nat.reduceBEq,az,ekA,ekB,ekC,ekD];exact rfl):p:=e.mpr k
theorem tL {p:Prop} (h:p:=by first | (refine kC ?_;exact rfl) | exact rfl):p:=h
end LC
open LC in
theorem nv (a b:Rat) (h:rl a+rl b≤1099511627776):ap Tryz.prog 152 [ratL a,ratL b] (iL (gJ a b)):=by
 have a1:=db a
 have a2:=dx a
 have a3:=cF a
 have c1:=db b
 have c2:=dx b
 have c3:=cF b
 have a0:=a.den_pos
 have c0:=b.den_pos
 have m1:=bl a1 c2
 have m2:=bl c1 a2
 have m3:=bl a2 c2
 have m4:=bl a1 c1
 have m5:=bl a2 c1
 have m6:=bl c2 a2
 refine bS Tryz.func152 ?_
 refine cg ?_
 refine au 6 (by decide +kernel) ?_
 refine aL ?_
 refine cp bK (mE _ (by omega)) ?_
 refine aL ?_
 refine cp bK (mE _ (by omega)) ?_
 refine bD ?_
 refine an rfl (fun h20r h20=>?_) (fun h20r h20=>?_)
 ·refine cx ?_
  refine an rfl (fun h23r h23=>?_) (fun h23r h23=>?_)
  ·refine cx ?_
   rw [uV h23]
   exact aS rfl (by first | exact .pure rfl | exact .pure (aG _) | exact .pure (ar _) | exact .pure (ah.pure _) | exact .pure (ak bB _ _) | exact .pure (ak ah _ _))
  ·refine cg ?_
   rw [vz (by omega)]
   exact aS rfl (by first | exact .pure rfl | exact .pure (aG _) | exact .pure (ar _) | exact .pure (ah.pure _) | exact .pure (ak bB _ _) | exact .pure (ak ah _ _))
 ·have hss:gM a=gM b:=by omega
  refine bD ?_
  refine cp bK (gX _) ?_
  refine en ?_
  refine cp bf (ms _ _ (by omega) (by omega)) ?_
  refine bG ?_
  refine cr (fun L=>∃ (c:Int) (L1:St),(c=fC (a.num.natAbs*b.den) (b.num.natAbs*a.den))∧L=(((St.mk L1.slot (hp [(2,⟨3,[ratL a],true⟩),(3,⟨3,[ratL b],true⟩)])).put (some 2) (.eptr 2 3 0 0)).put (some 7) (iL c))) ?_ ?_
  ·refine an rfl (fun h34r h34=>?_) (fun h34r h34=>?_)
   ·refine ca ?_
    refine cp bf (nq _ _ (aB _) (aB _) (by first | omega | (simp only [az];omega)) (by first | omega | (simp only [az];omega))) ?_
    refine bx ?_
    exact⟨fC a.num.natAbs b.num.natAbs,_,by rw [nh h34];exact(zn b.den_pos).symm,((aa (aa (aJ cl) cl) cl)).symm⟩
   ·refine bx ?_
    refine cp bK (gX _) ?_
    refine bv ?_
    refine cr (fun L=>∃ (t:Bool) (L1:St),(t=(Af a && Af b))∧L=(((((((((St.mk L1.slot (hp [(2,⟨3,[ratL a],true⟩),(3,⟨3,[ratL b],true⟩)])).put (some 2) (.eptr 2 3 0 0)).put (some 3) (.eptr 3 3 0 0)).put (some 7) (iL 0)).put (some 8) (ce (pN a))).put (some 9) (ce (pD a))).put (some 11) (ce (pN b))).put (some 12) (ce (pD b))).put (some 49) (bL t))) ?_ ?_
    ·refine bx ?_
     refine bT 47 rfl (fun h47r h47=>?_) (fun h47r h47=>?_)
     ·refine bw ?_
      exact⟨Af b,_,by rw [h47r];rfl,((aa (aa (aa (aa (aa (aa (aa (aa (aJ cl) cl) cl) cl) cl) cl) cl) cl) cl)).symm⟩
     ·refine bw ?_
      exact⟨false,_,by rw [h47r];rfl,((aa (aa (aa (aa (aa (aa (aa (aa (aJ cl) cl) cl) cl) cl) cl) cl) cl) cl)).symm⟩
    ·rintro _ ⟨t,LR11,ht,rfl⟩
     refine aL ?_
     refine an rfl (fun h49r h49=>?_) (fun h49r h49=>?_)
     ·rw [ht,Bool.and_eq_true] at h49r
      obtain⟨ekA,ekB,k3,k4⟩:=lZ h49r.1
      obtain⟨ekC,ekD,k7,k8⟩:=lZ h49r.2
      have n1:=i9 k3 k8
      have n2:=i9 k7 k4
      have n3:=n1
      have n4:=n2
      rw [←ekA,←ekD] at n1
      rw [←ekC,←ekB] at n2
      refine bw ?_
      refine ab rfl (.bin rfl rfl (od (by omega))) ?_
      refine bG ?_
      refine ab rfl (.bin rfl rfl (od (by omega))) ?_
      refine aL ?_
      refine fk tL ?_
      refine aL ?_
      refine an rfl (fun h56r h56=>?_) (fun h56r h56=>?_)
      ·refine bw ?_
       exact⟨-1,_,(dY (by omega)).symm,((aa (aa (aJ cl) cl) cl)).symm⟩
      ·refine bw ?_
       refine ab rfl (.bin rfl rfl (od (by omega))) ?_
       refine bG ?_
       refine ab rfl (.bin rfl rfl (od (by omega))) ?_
       refine aL ?_
       refine fk tL ?_
       refine aL ?_
       refine an rfl (fun h63r h63=>?_) (fun h63r h63=>?_)
       ·refine bw ?_
        exact⟨1,_,(eF (by omega)).symm,((aa (aa (aJ cl) cl) cl)).symm⟩
       ·refine bG ?_
        exact⟨0,_,(fd (by omega)).symm,((aa (aa (aJ cl) cl) cl)).symm⟩
     ·refine au 12 (by decide +kernel) ?_
      refine bx ?_
      refine cp bK (jw _) ?_
      refine cp bf (iO _ _ (aB _) (aB _) (by omega) (by omega)) ?_
      refine bx ?_
      refine cp bK (jw _) ?_
      refine cp bf (iO _ _ (aB _) (aB _) (by omega) (by omega)) ?_
      refine cp bf (nq _ _ (aB _) (aB _) (by first | omega | (simp only [az];omega)) (by first | omega | (simp only [az];omega))) ?_
      refine bx ?_
      exact⟨fC (a.num.natAbs*b.den) (b.num.natAbs*a.den),_,rfl,((aa (aa (aJ cl) cl) cl)).symm⟩
  ·rintro _ ⟨c,LC34,hc,rfl⟩
   refine cx ?_
   refine an rfl (fun h76r h76=>?_) (fun h76r h76=>?_)
   ·refine cg ?_
    rw [lf hss,if_pos h76,←hc,←pq hc]
    exact aS rfl (by first | exact .pure rfl | exact .pure (aG _) | exact .pure (ar _) | exact .pure (ah.pure _) | exact .pure (ak bB _ _) | exact .pure (ak ah _ _))
   ·refine cg ?_
    rw [lf hss,if_neg h76,←hc]
    exact aS rfl (by first | exact .pure rfl | exact .pure (aG _) | exact .pure (ar _) | exact .pure (ah.pure _) | exact .pure (ak bB _ _) | exact .pure (ak ah _ _))
namespace LF
theorem bQ {p q:Prop} (k:q) (e:p=q:=by simp only [e1,e2,e3,e4,p1,p2,p3,q1,q2,q3,l1,t0,t1,r1,r2,r3,r4,Nat.zero_add,Nat.reduceMul,Nat.reduceAdd,b1,b2,b3,b4,b5,b6,i1,i2,i3,i4,i5,i6,Nat.reduceBEq,az,ekA,ekB,ekC,ekD];exact rfl):p:=e.mpr k
end LF
open LF in
theorem dc (a b:Rat) (h:rl a+rl b≤1099511627776):ap Tryz.prog 70 [ratL a,ratL b] (ratL (a*b)):=by
 have a1:=db a
 have a2:=dx a
 have a3:=cF a
 have c1:=db b
 have c2:=dx b
 have c3:=cF b
 have a0:=a.den_pos
 have c0:=b.den_pos
 have m1:=bl a1 c2
 have m2:=bl c1 a2
 have m3:=bl a2 c2
 have m4:=bl a1 c1
 have m5:=bl a2 c1
 have m6:=bl c2 a2
 have hE:=pM (decide (a<0)) (decide (b<0)) a.num.natAbs a.den b.num.natAbs b.den
 rw [cO,cO] at hE
 refine bS Tryz.func70 ?_
 have ekA:True:=trivial
 have ekB:True:=trivial
 have ekC:True:=trivial
 have ekD:True:=trivial
 refine en ?_
 refine bT 15 rfl (fun h15r h15=>?_) (fun h15r h15=>?_)
 ·have hz:a*b=0:=by rw [oO (q:=a) (by omega),Rat.zero_mul]
  refine ie ?_
  rw [hz,cL]
  exact b9 [] rfl rfl rfl rfl rfl bF (.pure rfl)
 ·refine bV ?_
  refine an rfl (fun h20r h20=>?_) (fun h20r h20=>?_)
  ·have hz:a*b=0:=by rw [oO (q:=b) (by omega),Rat.mul_zero]
   refine cx ?_
   rw [hz,cL]
   exact b9 [] rfl rfl rfl rfl rfl bF (.pure rfl)
  ·refine bJ ?_
   refine cp bK (gX _) ?_
   refine dI ?_
   refine cr (fun L=>∃  (L1:St),(True)∧L=((((St.mk L1.slot (hp [(2,⟨3,[ratL a],true⟩),(3,⟨3,[ratL b],true⟩),(4,⟨3,[.agg [.v (.bool false),.list 1 [],.list 1 []]],true⟩)])).put (some 2) (.eptr 2 3 0 0)).put (some 3) (.eptr 3 3 0 0)).put (some 4) (.eptr 4 3 0 0))) ?_ ?_
   ·refine an rfl (fun h28r h28=>?_) (fun h28r h28=>?_)
    ·obtain⟨ekA,ekB,k3,k4⟩:=lZ h28r
     refine bx ?_
     refine cp bK (gX _) ?_
     refine dI ?_
     refine an rfl (fun h35r h35=>?_) (fun h35r h35=>?_)
     ·obtain⟨ekC,ekD,k7,k8⟩:=lZ h35r
      have n1:=i9 k3 k7
      have n2:=i9 k4 k8
      have np:=Nat.mul_pos a0 c0
      refine cg ?_
      refine ab rfl (.bin rfl rfl (od (by first | omega | (simp only [ekA,ekB,ekC,ekD];omega)))) ?_
      refine bG ?_
      refine ab rfl (.bin rfl rfl (od (by first | omega | (simp only [ekA,ekB,ekC,ekD];omega)))) ?_
      refine cp jt (jT _ _ _ (by first | omega | (simp only [ekA,ekB,ekC,ekD];omega)) (by first | exact np | (simp only [ekA,ekB,ekC,ekD];exact np)) (by first | omega | (simp only [ekA,ekB,ekC,ekD];omega))) ?_
      refine bJ ?_
      rw [hE]
      exact b9 [] rfl rfl rfl (ah.csize _) (am _) bF (.pure (ah.pure _))
     ·refine bG ?_
      exact⟨_,trivial,((aa (aa (aa (aJ cl) cl) cl) cl)).symm⟩
    ·refine bG ?_
     exact⟨_,trivial,((aa (aa (aa (aJ cl) cl) cl) cl)).symm⟩
   ·rintro _ ⟨LC28,-,rfl⟩
    refine bG ?_
    refine au 16 (by decide +kernel) ?_
    refine cg ?_
    refine cp bf (iO _ _ (aB _) (aB _) (by omega) (by omega)) ?_
    refine aL ?_
    refine cp bK (jw _) ?_
    refine aL ?_
    refine cp bK (jw _) ?_
    refine cp bf (iO _ _ (aB _) (aB _) (by omega) (by omega)) ?_
    refine cp jt (gG _ _ _ (aB _) (aB _) (by first | omega | (simp only [az];omega)) (by first | omega | (simp only [az];omega))) ?_
    refine bw ?_
    rw [hE]
    exact b9 [] rfl rfl rfl (ah.csize _) (am _) bF (.pure (ah.pure _))
namespace LG
theorem bQ {p q:Prop} (k:q) (e:p=q:=by simp only [e1,e2,e3,e4,p1,p2,p3,q1,q2,q3,l1,t0,t1,r1,r2,r3,r4,Nat.zero_add,Nat.reduceMul,Nat.reduceAdd,b1,b2,b3,b4,b5,b6,i1,i2,i3,i4,i5,i6,Nat.reduceBEq,az,ekA,ekB,ekC,ekD];exact rfl):p:=e.mpr k
end LG
open LG in
theorem qC (a b:Rat) (h:rl a+rl b≤1099511627776):ap Tryz.prog 68 [ratL a,ratL b] (.tup [ratL (a/b),iL (if b=0 then 3 else 0)]):=by
 have a1:=db a
 have a2:=dx a
 have a3:=cF a
 have c1:=db b
 have c2:=dx b
 have c3:=cF b
 have a0:=a.den_pos
 have c0:=b.den_pos
 have m1:=bl a1 c2
 have m2:=bl c1 a2
 have m3:=bl a2 c2
 have m4:=bl a1 c1
 have m5:=bl a2 c1
 have m6:=bl c2 a2
 have hE:=qw (decide (a<0)) (decide (b<0)) a.num.natAbs a.den b.num.natAbs b.den
 rw [cO,cO] at hE
 refine bS Tryz.func68 ?_
 have ekA:True:=trivial
 have ekB:True:=trivial
 have ekC:True:=trivial
 have ekD:True:=trivial
 refine bE ?_
 refine cp bK (mE _ (by omega)) ?_
 refine bx ?_
 refine an rfl (fun h14r h14=>?_) (fun h14r h14=>?_)
 ·have hz:b=0:=by
   unfold gM at h14;split at h14
   ·assumption
   ·split at h14<;>omega
  refine cg ?_
  subst hz
  rw [show a/0=0 by rw [Rat.div_def];simp,cL]
  exact fG [] rfl rfl rfl rfl rfl bF (.pure rfl) rfl (.pure rfl)
 ·have hz:b≠0:=by rintro rfl;exact h14 rfl
  have hbn:0<b.num.natAbs:=Nat.pos_of_ne_zero (fun h=>hz (Rat.num_eq_zero.1 (by omega)))
  refine bJ ?_
  refine cp bK (gX _) ?_
  refine dI ?_
  refine cr (fun L=>∃  (L1:St),(True)∧L=(((((St.mk L1.slot (hp [(2,⟨3,[ratL a],true⟩),(3,⟨3,[ratL b],true⟩),(4,⟨3,[.agg [.v (.bool false),.list 1 [],.list 1 []]],true⟩)])).put (some 2) (.eptr 2 3 0 0)).put (some 3) (.eptr 3 3 0 0)).put (some 4) (.eptr 4 3 0 0)).put (some 5) (iL 0))) ?_ ?_
  ·refine an rfl (fun h22r h22=>?_) (fun h22r h22=>?_)
   ·obtain⟨ekA,ekB,k3,k4⟩:=lZ h22r
    refine bx ?_
    refine cp bK (gX _) ?_
    refine dI ?_
    refine an rfl (fun h29r h29=>?_) (fun h29r h29=>?_)
    ·obtain⟨ekC,ekD,k7,k8⟩:=lZ h29r
     have n1:=i9 k3 k8
     have n2:=i9 k4 k7
     have np:=Nat.mul_pos a0 hbn
     refine cg ?_
     refine ab rfl (.bin rfl rfl (od (by first | omega | (simp only [ekA,ekB,ekC,ekD];omega)))) ?_
     refine bG ?_
     refine ab rfl (.bin rfl rfl (od (by first | omega | (simp only [ekA,ekB,ekC,ekD];omega)))) ?_
     refine cp jt (jT _ _ _ (by first | omega | (simp only [ekA,ekB,ekC,ekD];omega)) (by first | exact np | (simp only [ekA,ekB,ekC,ekD];exact np)) (by first | omega | (simp only [ekA,ekB,ekC,ekD];omega))) ?_
     refine bV ?_
     rw [hE,if_neg hz]
     exact fG [] rfl rfl rfl (ah.csize _) (am _) bF (.pure (ah.pure _)) rfl (.pure rfl)
    ·refine bG ?_
     exact⟨_,trivial,((aa (aa (aa (aa (aJ cl) cl) cl) cl) cl)).symm⟩
   ·refine bG ?_
    exact⟨_,trivial,((aa (aa (aa (aa (aJ cl) cl) cl) cl) cl)).symm⟩
  ·rintro _ ⟨LC22,-,rfl⟩
   refine bG ?_
   refine au 16 (by decide +kernel) ?_
   refine cx ?_
   refine cp bK (jw _) ?_
   refine cp bf (iO _ _ (aB _) (aB _) (by omega) (by omega)) ?_
   refine aL ?_
   refine cp bK (jw _) ?_
   refine bG ?_
   refine cp bf (iO _ _ (aB _) (aB _) (by omega) (by omega)) ?_
   refine cp jt (gG _ _ _ (aB _) (aB _) (by first | omega | (simp only [az];omega)) (by first | omega | (simp only [az];omega))) ?_
   refine ca ?_
   rw [hE,if_neg hz]
   exact fG [] rfl rfl rfl (ah.csize _) (am _) bF (.pure (ah.pure _)) rfl (.pure rfl)
theorem gw {p s:Bool} (h:(p==s)=false):p≠s:=by simpa using h
namespace Mq
theorem bQ {p q:Prop} (k:q) (e:p=q:=by simp only [e1,e2,e3,e4,p1,p2,p3,q1,q2,q3,l1,t0,t1,r1,r2,r3,r4,Nat.zero_add,Nat.reduceMul,Nat.reduceAdd,b1,b2,b3,b4,b5,b6,i1,i2,i3,i4,i5,i6,Nat.reduceBEq,az,Nat.one_mul,Nat.mul_one,eS,eK,eSb,eSc,ekA,ekB,ekC,ekD];exact rfl):p:=e.mpr k
end Mq
open Mq in
theorem xH (a b:Rat) (s:Bool) (h:rl a+rl b≤549755813888):ap Tryz.prog 151 [ratL a,ratL b,bL s] (ratL (a+w9 s b)):=by
 have a1:=db a
 have a2:=dx a
 have a3:=cF a
 have c1:=db b
 have c2:=dx b
 have c3:=cF b
 have a0:=a.den_pos
 have c0:=b.den_pos
 have m1:=bl a1 c2
 have m2:=bl c1 a2
 have m3:=bl a2 c2
 have m4:=bl a1 c1
 have m5:=bl a2 c1
 have m6:=bl c2 a2
 have mm:=qX (k:=rl a+rl b) m1 (by omega)
 refine bS Tryz.func151 ?_
 have eS:True:=trivial
 have eK:True:=trivial
 have eSb:True:=trivial
 have eSc:True:=trivial
 have ekA:True:=trivial
 have ekB:True:=trivial
 have ekC:True:=trivial
 have ekD:True:=trivial
 refine bD ?_
 refine cp bK (gX _) ?_
 refine dI ?_
 refine cr (fun L=>∃  (L1:St),(True)∧L=(((((St.mk L1.slot (hp [(3,⟨3,[ratL a],true⟩),(4,⟨3,[ratL b],true⟩),(6,⟨3,[.agg [.v (.bool false),.list 1 [],.list 1 []]],true⟩)])).put (some 2) (bL s)).put (some 3) (.eptr 3 3 0 0)).put (some 4) (.eptr 4 3 0 0)).put (some 6) (.eptr 6 3 0 0))) ?_ ?_
 ·refine an rfl (fun h28r h28=>?_) (fun h28r h28=>?_)
  ·obtain⟨ekA,ekB,k3,k4⟩:=lZ h28r
   refine bx ?_
   refine cp bK (gX _) ?_
   refine dI ?_
   refine an rfl (fun h35r h35=>?_) (fun h35r h35=>?_)
   ·obtain⟨ekC,ekD,k7,k8⟩:=lZ h35r
    have n1:=i9 k3 k8
    have n2:=i9 k7 k4
    have n3:=i9 k4 k8
    have np:=Nat.mul_pos a0 c0
    refine bw ?_
    refine ab rfl (.bin rfl rfl (od (by first | omega | (simp only [ekA,ekB,ekC,ekD];omega)))) ?_
    refine bG ?_
    refine ab rfl (.bin rfl rfl (od (by first | omega | (simp only [ekA,ekB,ekC,ekD];omega)))) ?_
    refine ca ?_
    have eS:(((a.num.natAbs*b.den:Nat):Int)+((b.num.natAbs*a.den:Nat):Int)+0) % 18446744073709551616=(((a.num.natAbs*b.den+b.num.natAbs*a.den) % 18446744073709551616:Nat):Int):=by omega
    have eK:(((a.num.natAbs*b.den:Nat):Int)+((b.num.natAbs*a.den:Nat):Int)+0)/18446744073709551616=(((a.num.natAbs*b.den+b.num.natAbs*a.den)/18446744073709551616:Nat):Int):=by omega
    refine bx ?_
    refine ab rfl (.ext2 Tryz.func216 rfl rfl rfl rfl (vs:=[.int .u64 ((a.num.natAbs*b.den:Nat):Int),.int .u64 ((b.num.natAbs*a.den:Nat):Int),.int .u64 0]) rfl (fun w=>run_add64 _ _ _ (by omega) (by omega) (by omega) (by omega) w) rfl rfl) ?_
    refine en ?_
    refine bT 53 rfl (fun h53r h53=>?_) (fun h53r h53=>?_)
    ·refine bJ ?_
     refine an rfl (fun h48r h48=>?_) (fun h48r h48=>?_)
     ·refine bV ?_
      refine cp jt (jT s ((a.num.natAbs*b.den+b.num.natAbs*a.den) % 18446744073709551616) (a.den*b.den) (by omega) np (by omega)) ?_
      refine bV ?_
      have hc0:a.num.natAbs*b.den+b.num.natAbs*a.den<18446744073709551616:=by omega
      rw [nZ (k:=1) (x:=a.num.natAbs*b.den) (y:=b.num.natAbs*a.den) (d:=a.den*b.den) (by omega) (Nat.mul_one _) (Nat.mul_one _) (Nat.mul_one _) (eq_of_beq h53r),show qv s (a.num.natAbs*b.den+b.num.natAbs*a.den) (a.den*b.den)=qv s ((a.num.natAbs*b.den+b.num.natAbs*a.den) % 18446744073709551616) (a.den*b.den) by rw [Nat.mod_eq_of_lt hc0]]
      exact b9 [] rfl rfl rfl (ah.csize _) (am _) bF (.pure (ah.pure _))
     ·refine bV ?_
      refine fY (ao (v:=false) rfl rfl ((by rw [h53r];rfl)) rfl) ?_
      refine fY (ao (v:=false) rfl rfl ((by rw [h53r];rfl)) rfl) ?_
      refine fY (ao (v:=false) rfl rfl ((by rw [h53r];rfl)) rfl) ?_
      refine ab rfl (.pickF rfl ((by rw [h53r];rfl))) ?_
      refine ct ?_
      refine bb (b:=_) rfl (by rw [h53r];rfl) ?_
      refine bx ?_
      exact⟨_,trivial,((aa (aa (aa (aa (aJ cl) cl) cl) cl) cl)).symm⟩
    ·refine dI ?_
     refine ab (ao (v:=true) rfl rfl ((by rw [h53r];rfl)) rfl) (.move _) ?_
     refine ab (ao (v:=true) rfl rfl ((by rw [h53r];rfl)) rfl) (.move _) ?_
     refine ab (ao (v:=true) rfl rfl ((by rw [h53r];rfl)) rfl) (.bin rfl rfl rfl) ?_
     refine ab rfl (.pickT rfl ((by rw [h53r];rfl))) ?_
     refine bx ?_
     refine an rfl (fun h63r h63=>?_) (fun h63r h63=>?_)
     ·refine bv ?_
      refine cp jt (jT _ _ _ (by first | omega | (simp only [ekA,ekB,ekC,ekD];omega)) (by first | exact np | (simp only [ekA,ekB,ekC,ekD];exact np)) (by first | omega | (simp only [ekA,ekB,ekC,ekD];omega))) ?_
      refine bV ?_
      rw [ur (k:=1) (x:=a.num.natAbs*b.den) (y:=b.num.natAbs*a.den) (d:=a.den*b.den) (by omega) (Nat.mul_one _) (Nat.mul_one _) (Nat.mul_one _) (gw h53r) (by omega)]
      exact b9 [] rfl rfl rfl (ah.csize _) (am _) bF (.pure (ah.pure _))
     ·refine cg ?_
      refine aR (b:=_) rfl (by rw [h53r];rfl) ?_
      refine cg ?_
      refine cp jt (jT _ _ _ (by first | omega | (simp only [ekA,ekB,ekC,ekD];omega)) (by first | exact np | (simp only [ekA,ekB,ekC,ekD];exact np)) (by first | omega | (simp only [ekA,ekB,ekC,ekD];omega))) ?_
      refine bV ?_
      rw [tB (k:=1) (x:=a.num.natAbs*b.den) (y:=b.num.natAbs*a.den) (d:=a.den*b.den) (by omega) (Nat.mul_one _) (Nat.mul_one _) (Nat.mul_one _) (gw h53r) (by omega)]
      exact b9 [] rfl rfl rfl (ah.csize _) (am _) bF (.pure (ah.pure _))
   ·refine bG ?_
    exact⟨_,trivial,((aa (aa (aa (aa (aJ cl) cl) cl) cl) cl)).symm⟩
  ·refine bG ?_
   exact⟨_,trivial,((aa (aa (aa (aa (aJ cl) cl) cl) cl) cl)).symm⟩
 ·rintro _ ⟨LC28,-,rfl⟩
  refine bG ?_
  refine au 9 (by decide +kernel) ?_
  refine ca ?_
  refine cp bK (jw _) ?_
  refine bE ?_
  refine cp bf (ms _ _ (by omega) (by omega)) ?_
  refine bx ?_
  refine cr (fun L=>∃ (x:Nat) (y:Nat) (d:Nat) (L1:St),(∃ k,0<k∧x*k=a.num.natAbs*b.den∧y*k=b.num.natAbs*a.den∧d*k=a.den*b.den∧0<d∧(aE x).length≤rl a+rl b∧(aE y).length≤rl a+rl b∧(aE d).length≤rl a+rl b)∧L=((((((((St.mk L1.slot (hp [(3,⟨3,[ratL a],true⟩),(4,⟨3,[ratL b],true⟩),(6,⟨3,[.agg [.v (.bool false),.list 1 [],.list 1 []]],true⟩)])).put (some 2) (bL s)).put (some 3) (.eptr 3 3 0 0)).put (some 4) (.eptr 4 3 0 0)).put (some 6) (.eptr 6 3 0 0)).put (some 15) (ba x)).put (some 16) (ba y)).put (some 17) (ba d))) ?_ ?_
  ·refine an rfl (fun h106r h106=>?_) (fun h106r h106=>?_)
   ·refine au 15 (by decide +kernel) ?_
    refine bG ?_
    refine cp bK (jw _) ?_
    refine cp bf (iO _ _ (aB _) (aB _) (by omega) (by omega)) ?_
    refine bG ?_
    refine cp bK (jw _) ?_
    refine cp bf (iO _ _ (aB _) (aB _) (by omega) (by omega)) ?_
    refine bG ?_
    refine cp bK (jw _) ?_
    refine cp bf (iO _ _ (aB _) (aB _) (by omega) (by omega)) ?_
    refine ca ?_
    exact⟨a.num.natAbs*b.den,b.num.natAbs*a.den,a.den*b.den,_,⟨1,by omega,Nat.mul_one _,Nat.mul_one _,Nat.mul_one _,Nat.mul_pos a0 c0,m1,by omega,m3⟩,((aa (aa (aa (aa (aa (aa (aa (aJ cl) cl) cl) cl) cl) cl) cl) cl)).symm⟩
   ·have hde:=nh h106
    refine bG ?_
    exact⟨a.num.natAbs,b.num.natAbs,a.den,_,⟨a.den,a0,by rw [hde],rfl,by rw [hde],a0,by omega,by omega,by omega⟩,((aa (aa (aa (aa (aa (aa (aa (aJ cl) cl) cl) cl) cl) cl) cl) cl)).symm⟩
  ·rintro _ ⟨x,y,d,LC106,⟨k,hk,hx,hy,hd,hd0,lx,ly,ld⟩,rfl⟩
   have lxy:=qX lx ly
   have lxs:(aE (x-y)).length≤rl a+rl b:=Nat.le_trans (bN (Nat.sub_le _ _)) lx
   have lys:(aE (y-x)).length≤rl a+rl b:=Nat.le_trans (bN (Nat.sub_le _ _)) ly
   refine bv ?_
   refine an rfl (fun h122r h122=>?_) (fun h122r h122=>?_)
   ·refine ca ?_
    refine cp bf (yb _ _ (aB _) (aB _) (by omega) (by omega)) ?_
    refine aL ?_
    refine cp jt (gG _ _ _ (aB _) (aB _) (by first | omega | (simp only [az];omega)) (by first | omega | (simp only [az];omega))) ?_
    refine ca ?_
    rw [nZ hk hx hy hd (eq_of_beq h122r)]
    exact b9 [] rfl rfl rfl (ah.csize _) (am _) bF (.pure (ah.pure _))
   ·refine bV ?_
    refine cp bf (pj _ _ (by omega) (by omega)) ?_
    refine ct ?_
    refine an rfl (fun h136r h136=>?_) (fun h136r h136=>?_)
    ·have hle:=tH.1 (show uc x y=0 by omega)
     have eSb:=kT hle
     refine bJ ?_
     refine cp jt (gG _ _ _ (by rw [eSb];exact aB _) (aB _) (by rw [eSb];omega) (by omega)) ?_
     refine ca ?_
     rw [ur hk hx hy hd (gw h122r) hle]
     exact b9 [] rfl rfl rfl (ah.csize _) (am _) bF (.pure (ah.pure _))
    ·have hle:x≤y:=by
      rcases Nat.le_total x y with h | h
      ·exact h
      ·have:=tH.2 h;omega
     have eSc:=kT hle
     refine bJ ?_
     refine cp bf (pj _ _ (by omega) (by omega)) ?_
     refine bE ?_
     refine cp jt (gG _ _ _ (aB _) (aB _) (by omega) (by omega)) ?_
     refine bw ?_
     rw [tB hk hx hy hd (gw h122r) hle]
     exact b9 [] rfl rfl rfl (ah.csize _) (am _) bF (.pure (ah.pure _))
theorem k5 {a b:Rat}:gJ b a<0↔b<a:=by unfold gJ;split<;>(try split)<;>grind
theorem lc {a b:Rat}:gJ b a > 0↔a<b:=by unfold gJ;split<;>(try split)<;>grind
open H0 in
theorem gh (a b:Rat) (h:rl a+rl b≤549755813888):ap Tryz.prog 147 [ratL a,ratL b] (ratL (a+b)):=by
 refine bS Tryz.func147 ?_
 refine ct ?_
 refine cp jt (xH _ _ _ (by omega)) ?_
 refine bw ?_
 exact b9 [] rfl rfl rfl (ah.csize _) (am _) bF (by rw [kH];exact .pure (ah.pure _))
open H0 in
theorem gg (a b:Rat) (h:rl a+rl b≤549755813888):ap Tryz.prog 82 [ratL a,ratL b] (ratL (a-b)):=by
 refine bS Tryz.func82 ?_
 refine dI ?_
 refine cp jt (xH _ _ _ (by omega)) ?_
 refine bw ?_
 rw [Rat.sub_eq_add_neg]
 exact b9 [] rfl rfl rfl (ah.csize _) (am _) bF (by rw [Bu];exact .pure (ah.pure _))
open H0 in
theorem xK (a b:Rat) (h:rl a+rl b≤549755813888):ap Tryz.prog 235 [ratL a,ratL b] (ratL (if b<a then b else a)):=by
 refine bS Tryz.func235 ?_
 refine bE ?_
 refine cp bf (nv _ _ (by omega)) ?_
 refine bx ?_
 refine cr (fun L=>∃ (q:Rat) (L1:St),(q=(if b<a then b else a)∧rl q≤549755813888)∧L=(((St.mk L1.slot (hp [(2,⟨3,[ratL q],true⟩),(3,⟨3,[ratL b],true⟩),(4,⟨3,[.agg [.v (.bool false),.list 1 [],.list 1 []]],true⟩)])).put (some 2) (.eptr 2 3 0 0)).put (some 4) (.eptr 4 3 0 0))) ?_ ?_
 ·refine an rfl (fun h8r h8=>?_) (fun h8r h8=>?_)
  ·refine ca ?_
   exact⟨b,_,⟨by rw [if_pos (k5.1 h8)],by omega⟩,((aa (aa (aJ cl) cl) cl)).symm⟩
  ·refine bG ?_
   exact⟨a,_,⟨by rw [if_neg (fun h=>h8 (k5.2 h))],by omega⟩,((aa (aa (aJ cl) cl) cl)).symm⟩
 ·rintro _ ⟨q,LC8,⟨hq,hql⟩,rfl⟩
  refine bw ?_
  refine cp bK (rh _ (by omega)) ?_
  refine bw ?_
  rw [←hq]
  exact b9 [] rfl rfl rfl (ah.csize _) (am _) bF (.pure (ah.pure _))
open H0 in
theorem tA (a b:Rat) (h:rl a+rl b≤549755813888):ap Tryz.prog 84 [ratL a,ratL b] (ratL (if a<b then b else a)):=by
 refine bS Tryz.func84 ?_
 refine bE ?_
 refine cp bf (nv _ _ (by omega)) ?_
 refine bx ?_
 refine cr (fun L=>∃ (q:Rat) (L1:St),(q=(if a<b then b else a)∧rl q≤549755813888)∧L=(((St.mk L1.slot (hp [(2,⟨3,[ratL q],true⟩),(3,⟨3,[ratL b],true⟩),(4,⟨3,[.agg [.v (.bool false),.list 1 [],.list 1 []]],true⟩)])).put (some 2) (.eptr 2 3 0 0)).put (some 4) (.eptr 4 3 0 0))) ?_ ?_
 ·refine an rfl (fun h8r h8=>?_) (fun h8r h8=>?_)
  ·refine ca ?_
   exact⟨b,_,⟨by rw [if_pos (lc.1 h8)],by omega⟩,((aa (aa (aJ cl) cl) cl)).symm⟩
  ·refine bG ?_
   exact⟨a,_,⟨by rw [if_neg (fun h=>h8 (lc.2 h))],by omega⟩,((aa (aa (aJ cl) cl) cl)).symm⟩
 ·rintro _ ⟨q,LC8,⟨hq,hql⟩,rfl⟩
  refine bw ?_
  refine cp bK (rh _ (by omega)) ?_
  refine bw ?_
  rw [←hq]
  exact b9 [] rfl rfl rfl (ah.csize _) (am _) bF (.pure (ah.pure _))
theorem xt {o:List Nat} {N:Nat} (hL:di o) (hv:val o=N) (h:o.length=0∨4294967296 ^ (o.length-1)≤N):o=aE N:=by
 have h1:(aE N).length≤o.length:=by rw [←hv];exact l8 hL
 have h2:o.length≤(aE N).length:=by
  rcases h with h | h
  ·omega
  ·rcases Nat.lt_or_ge (aE N).length o.length with hlt | hge
   ·have:=bZ (n:=N) (k:=o.length-1) (by omega)
    omega
   ·exact hge
 have e1:=mn hL rfl
 have e2:=mn (aB N) rfl
 rw [e1,e2,az,hv]
 congr 1;omega
theorem AI {m:Nat} (h:(aE m).length=2):m=(aE m).getD 1 0*4294967296+(aE m).getD 0 0:=by
 have e:=az m
 generalize aE m=l at h e
 match l,h with
 | [x,y],_=>rw [qB] at e;simp;omega
theorem IQ {a b:Nat} (hb:b<4294967296) (hx:a<4294967296):cj .or .u64 (b:Nat) ((a*4294967296:Nat):Int)=some (.int .u64 ((a*4294967296+b:Nat):Int)):=Ge (s:=32) hb (by omega)
theorem zD:(0:Int).toNat=0:=rfl
theorem F8:(1:Int).toNat=1:=rfl
theorem aQ {α β:Type} (f:α→β) (o:List α):(o.map f).take o.length=o.map f:=by rw [List.take_of_length_le (by simp)]
theorem bo {α β:Type} (f:α→β) (o:List α) (x:α):o.map f++[f x]=(o++[x]).map f:=by simp
theorem aW {α:Type} (o:List α) (x:α):(o++[x]).length=o.length+1:=by simp
theorem oh (o:List Nat) (x:Nat):val (o++[x])=val o+4294967296 ^ o.length*x:=by rw [gA];simp [val]
theorem ng {o:List Nat} (h:di o) {x:Nat} (hx:x<4294967296):di (o++[x]):=nn h (fun y hy=>by simp at hy;omega)
section
variable {m n c s:Nat} {o:List Nat}
theorem yL (hv:val o+4294967296 ^ o.length*c=val ((aE m).take o.length)+val ((aE n).take o.length)) (hs:s=c+(aE m).getD o.length 0+(aE n).getD o.length 0) :
  val (o++[s % 4294967296])+4294967296 ^ (o.length+1)*(s/4294967296)=val ((aE m).take (o.length+1))+val ((aE n).take (o.length+1)):=by
 rw [oh,bC,bC,Nat.pow_succ]
 have h1:=fl (4294967296 ^ o.length) s
 have h2:4294967296 ^ o.length*s=4294967296 ^ o.length*c+4294967296 ^ o.length*(aE m).getD o.length 0+4294967296 ^ o.length*(aE n).getD o.length 0:=by rw [hs,Nat.mul_add,Nat.mul_add]
 omega
theorem jB {m k:Nat} (h:(aE m).length≤k):val ((aE m).take k)=m:=by rw [List.take_of_length_le h,az]
theorem BG (hv:val o+4294967296 ^ o.length*c=val ((aE m).take o.length)+val ((aE n).take o.length)) (hol:o.length≤max (aE m).length (aE n).length∨(o.length=max (aE m).length (aE n).length+1∧c=0))
  (hg:o.length<max (aE m).length (aE n).length∨c≠0):o.length+1=max (aE m).length (aE n).length+1→4294967296 ^ (o.length+1-1)≤m+n:=by
 intro h
 rw [jB (by omega),jB (by omega)] at hv
 have:4294967296 ^ o.length*1≤4294967296 ^ o.length*c:=Nat.mul_le_mul_left _ (by omega)
 rw [Nat.add_sub_cancel];omega
theorem my {m:Nat} (h:0<(aE m).length):4294967296 ^ ((aE m).length-1)≤m:=by
 rcases Nat.lt_or_ge m (4294967296 ^ ((aE m).length-1)) with h1 | h1
 ·have:=cU h1;omega
 ·exact h1
theorem zl (hc:c≤1) (hol:o.length≤max (aE m).length (aE n).length∨(o.length=max (aE m).length (aE n).length+1∧c=0)) (hg:o.length<max (aE m).length (aE n).length∨c≠0)
  (hs:s=c+(aE m).getD o.length 0+(aE n).getD o.length 0):o.length+1≤max (aE m).length (aE n).length∨(o.length+1=max (aE m).length (aE n).length+1∧s/4294967296=0):=by
 by_cases h:o.length<max (aE m).length (aE n).length
 ·exact .inl h
 ·rw [eZ (aE m) _ (by omega),eZ (aE n) _ (by omega)] at hs
  exact .inr ⟨by omega,by omega⟩
theorem zB (hc:c≤1) (hlo:di o) (hol:o.length≤max (aE m).length (aE n).length∨(o.length=max (aE m).length (aE n).length+1∧c=0)) (hv:val o+4294967296 ^ o.length*c=val ((aE m).take o.length)+val ((aE n).take o.length))
  (hge:o.length=max (aE m).length (aE n).length+1→4294967296 ^ (o.length-1)≤m+n) (hg:¬ (o.length<max (aE m).length (aE n).length∨c≠0)):aE (m+n)=o:=by
 rw [jB (by omega),jB (by omega),show c=0 by omega] at hv
 refine(xt hlo (by omega) ?_).symm
 by_cases h0:o.length=0
 ·exact .inl h0
 refine .inr ?_
 rcases hol with h | h
 ·rcases Nat.le_total (aE m).length (aE n).length with hh | hh
  ·have:=my (m:=n) (by omega)
   rw [show o.length=(aE n).length by omega];omega
  ·have:=my (m:=m) (by omega)
   rw [show o.length=(aE m).length by omega];omega
 ·exact hge h.1
end
theorem zA {k br y2 br2 x:Nat} {a b o:List Nat} (hol:k<o.length) (hlo:di o) (hbr:br≤1) (hxl:a.getD k 0<4294967296) (hyl:b.getD k 0<4294967296) (hv:val (o.take k)+val (b.take k)=val (a.take k)+4294967296 ^ k*br) (hx:x=br+b.getD k 0)
  (h:(a.getD k 0<x∧y2=a.getD k 0+4294967296∧br2=1)∨(x≤a.getD k 0∧y2=a.getD k 0∧br2=0)) :
  x≤y2∧br2≤1∧di (o.set k ((y2-x) % 4294967296))∧val ((o.set k ((y2-x) % 4294967296)).take (k+1))+val (b.take (k+1))=val (a.take (k+1))+4294967296 ^ (k+1)*br2:=by
 rcases h with⟨h1,rfl,rfl⟩ | ⟨h1,rfl,rfl⟩
 ·refine⟨by omega,by omega,cM hlo _ _ (by omega),?_⟩
  rw [show (a.getD k 0+4294967296-x) % 4294967296=4294967296+a.getD k 0-x by omega]
  exact rj hol hv hx h1 (by omega)
 ·refine⟨by omega,by omega,cM hlo _ _ (by omega),?_⟩
  rw [Nat.mod_eq_of_lt (by omega:a.getD k 0-x<4294967296)]
  exact sg hol hv hx h1
namespace KI
theorem bQ {p q:Prop} (k:q) (e:p=q:=by simp only [e1,e2,e3,e4,p1,p2,p3,q1,q2,q3,l1,t0,t1,r1,r2,r3,r4,Nat.zero_add,Nat.reduceMul,Nat.reduceAdd,b1,b2,b3,b4,b5,b6,i1,i2,i3,i4,i5,i6,Nat.reduceBEq,ej,ek,cS,List.take_zero,List.take_nil,List.nil_append,ae bB,LV.kill];exact rfl):p:=e.mpr k
end KI
open KI in
theorem fg (l:List Nat) (h:di l) (hl:l.length≤4398046511104):ap Tryz.prog 192 [dj l] (ba (val l)):=by
 unfold dj ba
 rw [←dO h]
 unfold kd
 refine bS Tryz.func192 ?_
 have ej:True:=trivial
 have ek:True:=trivial
 refine dI ?_
 refine gE (fun(k:Nat) L=>(((St.mk L.slot (hp [])).put (some 0) (.list 1 (l.map bh))).put (some 3) (ai k))) (fun k=>k≤l.length∧dt l.length l=dt k l) (fun k=>k) l.length ⟨Nat.le_refl _,rfl⟩ ?_
 rintro k L1 ⟨hk,hkt⟩
 refine bJ ?_
 refine bT 8 rfl (fun h8r h8=>?_) (fun h8r h8=>?_)
 ·obtain⟨j,rfl⟩:∃ j,k=j+1:=⟨k-1,by omega⟩
  have ej:(((j+1:Nat):Int)-1).toNat=j:=by omega
  have ek:(((j+1:Nat):Int)-1)=j:=by omega
  refine cg ?_
  refine an rfl (fun h15r h15=>?_) (fun h15r h15=>?_)
  ·refine bv ?_
   exact fA j ⟨by omega,hkt.trans (by simp only [dt];rw [if_pos (by simpa using h15)])⟩
  ·refine bv ?_
   refine ab rfl (by first | exact .sliceLh (h:=_) bB rfl Tryz.underlying27 f8 rfl om | exact .sliceRh rfl Tryz.underlying27 f8 rfl om om) ?_
   refine aK rfl (.app rfl rfl rfl rfl rfl (Nat.zero_le _) (.inr rfl) (by decide) Tryz.underlying27 Tryz.underlying27 qF f8 rfl sc (.inr (.inl rfl)) (by first | (simp;done) | (simp;omega)) (by first | (simp;done) | (simp;omega)) (by decide)) ?_
   refine bw ?_
   rw [hkt,dt,if_neg (show ¬ l.getD j 0=0 by omega)]
   exact fM [22] rfl rfl (bg bB rfl rfl rfl)
 ·have hk0:k=0:=by omega
  subst hk0
  refine ib ?_
  refine ab rfl (by first | exact .sliceLh (h:=_) bB rfl Tryz.underlying27 f8 rfl om | exact .sliceRh rfl Tryz.underlying27 f8 rfl om om) ?_
  refine aK rfl (.app rfl rfl rfl rfl rfl (Nat.zero_le _) (.inr rfl) (by decide) Tryz.underlying27 Tryz.underlying27 qF f8 rfl sc (.inr (.inl rfl)) (by first | (simp;done) | (simp;omega)) (by first | (simp;done) | (simp;omega)) (by decide)) ?_
  refine bw ?_
  rw [hkt,show dt 0 l=0 from rfl]
  exact fM [22] rfl rfl (bg bB rfl rfl rfl)
open H0 in
theorem nN (n:Nat) (hn:n<18446744073709551616):ap Tryz.prog 197 [ce n] (ba n):=by
 have hL:di [n % 4294967296,n/4294967296 % 4294967296]:=by
  intro x hx;simp at hx;omega
 have hV:val [n % 4294967296,n/4294967296 % 4294967296]=n:=by rw [qB];omega
 refine bS Tryz.func197 ?_
 refine ct ?_
 refine s5 [8] s4 (fg _ (by first | assumption | exact aB _) (by first | omega | (simp;done) | (simp;omega))) ?_
 refine bw ?_
 exact aS rfl (by rw [hV];exact .pure (ar _))
namespace KW
theorem bQ {p q:Prop} (k:q) (e:p=q:=by simp only [e1,e2,e3,e4,p1,p2,p3,q1,q2,q3,l1,t0,t1,r1,r2,r3,r4,Nat.zero_add,Nat.reduceMul,Nat.reduceAdd,b1,b2,b3,b4,b5,b6,i1,i2,i3,i4,i5,i6,Nat.reduceBEq,cS,zD,F8];exact rfl):p:=e.mpr k
end KW
open KW in
theorem lh (m:Nat) (hl:(aE m).length≤1099511627776):ap Tryz.prog 251 [ba m] (.tup [ce (if m<18446744073709551616 then m else 0),bL (decide (m<18446744073709551616))]):=by
 have hd0:=aZ m 0
 have hd1:=aZ m 1
 refine bS Tryz.func251 ?_
 refine ib ?_
 refine an rfl (fun h6r h6=>?_) (fun h6r h6=>?_)
 ·have hm:m=0:=cH.1 (List.eq_nil_of_length_eq_zero (by omega))
  refine cg ?_
  subst hm
  exact lr rfl (.pure rfl) rfl (.pure rfl)
 ·refine bJ ?_
  refine an rfl (fun h8r h8=>?_) (fun h8r h8=>?_)
  ·have hm:=gr (n:=m) (by omega)
   have hm2:=cK.1 (show (aE m).length≤1 by omega)
   refine ct ?_
   rw [if_pos (by omega),decide_eq_true (by omega)]
   refine lr (x:=ce ((aE m).getD 0 0)) rfl ?_ rfl (.pure rfl)
   rw [hm.1]
   exact .pure rfl
  ·refine bJ ?_
   refine an rfl (fun h14r h14=>?_) (fun h14r h14=>?_)
   ·have h2v:m=(aE m).getD 1 0*4294967296+(aE m).getD 0 0:=AI (by omega)
    have hm2:=dQ.1 (show (aE m).length≤2 by omega)
    refine aL ?_
    refine au 12 (by decide +kernel) ?_
    refine cx ?_
    refine ab rfl (.sh rfl rfl (rJ (by simp only [cS,zD,F8];omega))) ?_
    refine ab rfl (.bin rfl rfl (IQ (by simp only [cS,zD,F8];omega) (by simp only [cS,zD,F8];omega))) ?_
    refine bV ?_
    rw [if_pos hm2,decide_eq_true hm2]
    refine lr (x:=ce ((aE m).getD 1 0*4294967296+(aE m).getD 0 0)) rfl ?_ rfl (.pure rfl)
    rw [←h2v]
    exact .pure rfl
   ·have hm2:¬ m<18446744073709551616:=fun h=>by have:=dQ.2 h;omega
    refine bv ?_
    rw [if_neg hm2,decide_eq_false hm2]
    exact lr rfl (.pure rfl) rfl (.pure rfl)
namespace Ki
theorem bQ {p q:Prop} (k:q) (e:p=q:=by simp only [e1,e2,e3,e4,p1,p2,p3,q1,q2,q3,l1,t0,t1,r1,r2,r3,r4,Nat.zero_add,Nat.reduceMul,Nat.reduceAdd,b1,b2,b3,b4,b5,b6,i1,i2,i3,i4,i5,i6,Nat.reduceBEq,cS,ej,ek];exact rfl):p:=e.mpr k
end Ki
open Ki in
theorem kq (m n:Nat) (hla:(aE m).length≤1099511627776) (hlb:(aE n).length≤1099511627776):ap Tryz.prog 90 [ba m,ba n] (iL (fC m n)):=by
 refine bS Tryz.func90 ?_
 have ej:True:=trivial
 have ek:True:=trivial
 refine en ?_
 refine an rfl (fun h10r h10=>?_) (fun h10r h10=>?_)
 ·refine bv ?_
  refine an rfl (fun h15r h15=>?_) (fun h15r h15=>?_)
  ·have hE:=jI (m:=m) (n:=n) (by omega)
   refine cx ?_
   first | (rw [dY hE];exact aS rfl (.pure rfl)) | (rw [eF hE];exact aS rfl (.pure rfl)) | (rw [fd hE];exact aS rfl (.pure rfl))
  ·have hE:=jI (m:=n) (n:=m) (by omega)
   refine cg ?_
   first | (rw [dY hE];exact aS rfl (.pure rfl)) | (rw [eF hE];exact aS rfl (.pure rfl)) | (rw [fd hE];exact aS rfl (.pure rfl))
 ·have hlen:(aE m).length=(aE n).length:=by omega
  clear h10 h10r
  refine bE ?_
  refine gE (fun(k:Nat) L=>((((St.mk L.slot (hp [])).put (some 0) (ba m)).put (some 1) (ba n)).put (some 5) (iL ((k:Int)-1)))) (fun k=>k≤(aE m).length∧(aE m).drop k=(aE n).drop k) (fun k=>k) ((aE m).length) ⟨Nat.le_refl _,by rw [List.drop_length,List.drop_of_length_le (by omega)]⟩ ?_
  rintro k L1 ⟨hk,hd⟩
  refine bV ?_
  refine an rfl (fun h20r h20=>?_) (fun h20r h20=>?_)
  ·obtain⟨j,rfl⟩:∃ j,k=j+1:=⟨k-1,by omega⟩
   have ej:(((j+1:Nat):Int)-1).toNat=j:=by omega
   have ek:(((j+1:Nat):Int)-1)=j:=by omega
   refine bJ ?_
   refine au 9 (by decide +kernel) ?_
   refine bD ?_
   refine an rfl (fun h31r h31=>?_) (fun h31r h31=>?_)
   ·have hE:=fD (aB m) (k:=j) (by omega) (by omega) hd (by omega)
    rw [az,az] at hE
    refine bE ?_
    first | (rw [dY hE];exact aS rfl (.pure rfl)) | (rw [eF hE];exact aS rfl (.pure rfl)) | (rw [fd hE];exact aS rfl (.pure rfl))
   ·refine bx ?_
    refine au 9 (by decide +kernel) ?_
    refine bD ?_
    refine an rfl (fun h40r h40=>?_) (fun h40r h40=>?_)
    ·have hE:=fD (aB n) (k:=j) (by omega) (by omega) hd.symm (by omega)
     rw [az,az] at hE
     refine bD ?_
     first | (rw [dY hE];exact aS rfl (.pure rfl)) | (rw [eF hE];exact aS rfl (.pure rfl)) | (rw [fd hE];exact aS rfl (.pure rfl))
    ·refine cg ?_
     exact fA j ⟨by omega,nG (by omega) (by omega) hd (by omega)⟩
  ·obtain rfl:k=0:=by omega
   rw [List.drop_zero,List.drop_zero] at hd
   have hE:m=n:=by have:=congrArg val hd;rwa [az,az] at this
   refine bD ?_
   first | (rw [dY hE];exact aS rfl (.pure rfl)) | (rw [eF hE];exact aS rfl (.pure rfl)) | (rw [fd hE];exact aS rfl (.pure rfl))
namespace Ke
theorem bQ {p q:Prop} (k:q) (e:p=q:=by simp only [e1,e2,e3,e4,p1,p2,p3,q1,q2,q3,l1,t0,t1,r1,r2,r3,r4,Nat.zero_add,Nat.reduceMul,Nat.reduceAdd,b1,b2,b3,b4,b5,b6,i1,i2,i3,i4,i5,i6,Nat.reduceBEq,cS,List.take_zero,List.take_nil,List.nil_append,ae bB,LV.kill,aQ,bo,aW,List.length_cons,List.length_nil];exact rfl):p:=e.mpr k
end Ke
open Ke in
theorem Dg (m n:Nat) (hla:(aE m).length≤1099511627776) (hlb:(aE n).length≤1099511627776):ap Tryz.prog 125 [ba m,ba n] (ba (m+n)):=by
 refine bS Tryz.func125 ?_
 refine uj ?_
 refine cN (aP.own (t:=5) 50 1 rfl rfl) ?_
 refine ik (fun(o:List Nat) (c:Nat) L=>((((((St.mk L.slot (hp [(50,⟨1,o.map bh,true⟩)])).put (some 0) (ba m)).put (some 1) (ba n)).put (some 5) (.ref 50 1 0 o.length)).put (some 6) (ce c)).put (some 7) (ai o.length))) (fun o c=>c≤1∧di o∧(o.length≤max (aE m).length (aE n).length∨(o.length=max (aE m).length (aE n).length+1∧c=0))∧val o+4294967296 ^ o.length*c=val ((aE m).take o.length)+val ((aE n).take o.length)∧(o.length=max (aE m).length (aE n).length+1→4294967296 ^ (o.length-1)≤m+n)) (fun o c=>max (aE m).length (aE n).length+2-o.length) ([]) 0 ⟨by omega,(by intro x hx;cases hx),.inl (Nat.zero_le _),by simp [val],by simp⟩ ?_
 rintro o c L1 ⟨hc,hlo,hol,hv,hge⟩
 have hxk:=aZ m o.length
 have hyk:=aZ n o.length
 refine bG ?_
 refine cr (fun L=>∃ (t:Bool) (L1:St),(t=decide (o.length<max (aE m).length (aE n).length∨c≠0))∧L=(((((((St.mk L1.slot (hp [(50,⟨1,o.map bh,true⟩)])).put (some 0) (ba m)).put (some 1) (ba n)).put (some 5) (.ref 50 1 0 o.length)).put (some 6) (ce c)).put (some 7) (ai o.length)).put (some 21) (bL t))) ?_ ?_
 ·refine bJ ?_
  refine bT 12 rfl (fun h12r h12=>?_) (fun h12r h12=>?_)
  ·refine bD ?_
   exact⟨true,_,by symm;rw [decide_eq_true_iff];omega,((aa (aa (aa (aa (aa (aa (aJ cl) cl) cl) cl) cl) cl) cl)).symm⟩
  ·refine bJ ?_
   refine bT 18 rfl (fun h18r h18=>?_) (fun h18r h18=>?_)
   ·refine ca ?_
    exact⟨true,_,by symm;rw [decide_eq_true_iff];omega,((aa (aa (aa (aa (aa (aa (aJ cl) cl) cl) cl) cl) cl) cl)).symm⟩
   ·refine ca ?_
    exact⟨((c:Int) != 0),_,by rw [Bool.eq_iff_iff,bne_iff_ne,decide_eq_true_iff];omega,((aa (aa (aa (aa (aa (aa (aJ cl) cl) cl) cl) cl) cl) cl)).symm⟩
 ·rintro _ ⟨t,LR4,ht,rfl⟩
  refine aL ?_
  refine an rfl (fun h21r h21=>?_) (fun h21r h21=>?_)
  ·rw [ht,decide_eq_true_iff] at h21r
   have hg:=h21r
   refine ct ?_
   refine cr (fun L=>∃ (s1:Nat) (L1:St),(s1=c+(aE m).getD o.length 0)∧L=((((((St.mk L1.slot (hp [(50,⟨1,o.map bh,true⟩)])).put (some 0) (ba m)).put (some 1) (ba n)).put (some 5) (.ref 50 1 0 o.length)).put (some 6) (ce s1)).put (some 7) (ai o.length))) ?_ ?_
   ·refine an rfl (fun h27r h27=>?_) (fun h27r h27=>?_)
    ·refine bD ?_
     exact⟨c+(aE m).getD o.length 0,_,rfl,((aa (aa (aa (aa (aa (aJ cl) cl) cl) cl) cl) cl)).symm⟩
    ·refine bG ?_
     exact⟨c,_,by rw [eZ (aE m) o.length (by omega)];rfl,((aa (aa (aa (aa (aa (aJ cl) cl) cl) cl) cl) cl)).symm⟩
   ·rintro _ ⟨s1,LC27,hs1,rfl⟩
    refine bv ?_
    refine cr (fun L=>∃ (s:Nat) (L1:St),(s=c+(aE m).getD o.length 0+(aE n).getD o.length 0)∧L=((((((St.mk L1.slot (hp [(50,⟨1,o.map bh,true⟩)])).put (some 0) (ba m)).put (some 1) (ba n)).put (some 5) (.ref 50 1 0 o.length)).put (some 6) (ce s)).put (some 7) (ai o.length))) ?_ ?_
    ·refine an rfl (fun h38r h38=>?_) (fun h38r h38=>?_)
     ·refine bD ?_
      exact⟨s1+(aE n).getD o.length 0,_,by rw [hs1],((aa (aa (aa (aa (aa (aJ cl) cl) cl) cl) cl) cl)).symm⟩
     ·refine bG ?_
      exact⟨s1,_,by rw [hs1,eZ (aE n) o.length (by omega)];rfl,((aa (aa (aa (aa (aa (aJ cl) cl) cl) cl) cl) cl)).symm⟩
    ·rintro _ ⟨s,LC38,hs,rfl⟩
     refine bV ?_
     refine aK rfl (.app (news:=[bh (s % 4294967296)]) rfl rfl rfl rfl rfl (by simp) (.inl rfl) (by decide) Tryz.underlying27 Tryz.underlying27 qF f8 rfl sc (.inl ⟨49,0,_,rfl,by decide,rfl,rfl,by simp,rfl,rfl⟩) (by simp;omega) (by simp;omega) (by decide)) ?_
     refine bx ?_
     refine aY (aP.kill _ 49) ?_
     refine bE ?_
     exact gk (o++[s % 4294967296]) (s/4294967296) ⟨by omega,ng hlo (by omega),by rw [aW];exact zl hc hol hg hs,by rw [aW];exact yL hv hs,by rw [aW];exact BG hv hol hg⟩ (hm:=by rw [aW];omega)
  ·rw [ht,decide_eq_false_iff_not] at h21r
   have hN:=zB hc hlo hol hv hge h21r
   refine bE ?_
   skip
   exact fM [50] rfl rfl (by rw [show ba (m+n)=.list 1 (o.map bh) by rw [←hN];rfl];exact bg bB rfl rfl rfl)
namespace KR
theorem bQ {p q:Prop} (k:q) (e:p=q:=by simp only [e1,e2,e3,e4,p1,p2,p3,q1,q2,q3,l1,t0,t1,r1,r2,r3,r4,Nat.zero_add,Nat.reduceMul,Nat.reduceAdd,b1,b2,b3,b4,b5,b6,i1,i2,i3,i4,i5,i6,Nat.reduceBEq,cS];exact rfl):p:=e.mpr k
end KR
open KR in
theorem ow (m n:Nat) (hla:(aE m).length≤1099511627776) (hlb:(aE n).length≤1099511627776) (hle:n≤m):ap Tryz.prog 196 [ba m,ba n] (ba (m-n)):=by
 have hbl:=bN hle
 refine bS Tryz.func196 ?_
 refine cg ?_
 refine bM rfl rfl (.mkE (n:=(aE m).length) (m:=(aE m).length) ml ml om om om) ?_
 refine en ?_
 refine tp (fun(k:Nat) (o:List Nat) (br:Nat) L=>((((((St.mk L.slot (hp [(12,⟨1,o.map bh,true⟩)])).put (some 0) (ba m)).put (some 1) (ba n)).put (some 5) (.ref 12 1 0 (aE m).length)).put (some 6) (ce br)).put (some 7) (ai k))) (fun k o br=>k≤(aE m).length∧o.length=(aE m).length∧br≤1∧di o∧val (o.take k)+val ((aE n).take k)=val ((aE m).take k)+4294967296 ^ k*br) (fun k o br=>(aE m).length-k) 0 (List.replicate (aE m).length 0) 0 ⟨Nat.zero_le _,by simp,by omega,dP _,by simp [val]⟩ ?_
 rintro k o br L1 ⟨hk,hol,hbr,hlo,hv⟩
 have hxk:=aZ m k
 have hyk:=aZ n k
 refine cg ?_
 refine an rfl (fun h16r h16=>?_) (fun h16r h16=>?_)
 ·refine ia ?_
  refine cr (fun L=>∃ (x:Nat) (L1:St),(x=br+(aE n).getD k 0)∧L=(((((((St.mk L1.slot (hp [(12,⟨1,o.map bh,true⟩)])).put (some 0) (ba m)).put (some 1) (ba n)).put (some 5) (.ref 12 1 0 (aE m).length)).put (some 6) (ce br)).put (some 7) (ai k)).put (some 8) (ce x))) ?_ ?_
  ·refine an rfl (fun h23r h23=>?_) (fun h23r h23=>?_)
   ·refine bD ?_
    exact⟨br+(aE n).getD k 0,_,rfl,((aa (aa (aa (aa (aa (aa (aJ cl) cl) cl) cl) cl) cl) cl)).symm⟩
   ·refine bG ?_
    exact⟨br,_,by rw [eZ _ k (by omega)];rfl,((aa (aa (aa (aa (aa (aa (aJ cl) cl) cl) cl) cl) cl) cl)).symm⟩
  ·rintro _ ⟨x,LC23,hx,rfl⟩
   refine tk ?_
   refine cr (fun L=>∃ (y2:Nat) (br2:Nat) (L1:St),(((aE m).getD k 0<x∧y2=(aE m).getD k 0+4294967296∧br2=1)∨(x≤(aE m).getD k 0∧y2=(aE m).getD k 0∧br2=0))∧L=((((((((St.mk L1.slot (hp [(12,⟨1,o.map bh,true⟩)])).put (some 0) (ba m)).put (some 1) (ba n)).put (some 5) (.ref 12 1 0 (aE m).length)).put (some 6) (ce br2)).put (some 7) (ai k)).put (some 8) (ce x)).put (some 9) (ce y2))) ?_ ?_
   ·refine an rfl (fun h38r h38=>?_) (fun h38r h38=>?_)
    ·refine bD ?_
     exact⟨(aE m).getD k 0+4294967296,1,_,.inl ⟨by omega,rfl,rfl⟩,((aa (aa (aa (aa (aa (aa (aa (aJ cl) cl) cl) cl) cl) cl) cl) cl)).symm⟩
    ·refine bG ?_
     exact⟨(aE m).getD k 0,0,_,.inr ⟨by omega,rfl,rfl⟩,((aa (aa (aa (aa (aa (aa (aa (aJ cl) cl) cl) cl) cl) cl) cl) cl)).symm⟩
   ·rintro _ ⟨y2,br2,LC38,hf,rfl⟩
    obtain⟨hf1,hf2,hf3,hf4⟩:=zA (by omega) hlo hbr hxk hyk hv hx hf
    refine ia ?_
    exact rb (k+1) (o.set k ((y2-x) % 4294967296)) br2 ⟨by omega,by simp [hol],hf2,hf3,hf4⟩
 ·obtain rfl:k=(aE m).length:=by omega
  refine cx ?_
  refine s5 [12] s4 (fg _ (by first | assumption | exact aB _) (by first | omega | (simp;done) | (simp;omega))) ?_
  refine bw ?_
  have e:=vo (aB m) hlo hol hbl (by rw [az,az];exact hle) hv
  rw [dO hlo,az,az] at e
  have e2:=congrArg val e
  rw [az,az] at e2
  rw [←e2]
  exact aS rfl (by first | exact .pure rfl | exact .pure (aG _) | exact .pure (ar _) | exact .pure (ah.pure _) | exact .pure (ak bB _ _) | exact .pure (ak ah _ _))
open H0 in
theorem z7 (m n:Nat) (hla:(aE m).length≤1099511627776) (hlb:(aE n).length≤1099511627776):ap Tryz.prog 126 [ba m,ba n] (.tup [dj (wA m n),iL (uc m n)]):=by
 refine bS Tryz.func126 ?_
 refine bD ?_
 refine cp bf (kq _ _ (by omega) (by omega)) ?_
 refine bx ?_
 refine an rfl (fun h9r h9=>?_) (fun h9r h9=>?_)
 ·have hlt:m<n:=by unfold fC at h9;split at h9;assumption;split at h9<;>omega
  refine cx ?_
  rw [wA,if_pos hlt,uc,if_pos hlt]
  exact lr rfl (.nil 1) rfl (.pure rfl)
 ·have hle:n≤m:=by
   rcases Nat.lt_or_ge m n with h | h
   ·rw [dY h] at h9;omega
   ·exact h
  refine bJ ?_
  refine cp bf (ow _ _ (by omega) (by omega) (by omega)) ?_
  refine ca ?_
  rw [kT hle,tH.2 hle]
  exact lr rfl (.pure (ar _)) rfl (.pure rfl)
theorem vV {x:Nat} (h:0<x):cy x=cy (x/2 ^ 1)+1:=by
 have:=kR (n:=x) (k:=1)
 rcases Nat.lt_or_ge x 2 with h1 | h1
 ·obtain rfl:x=1:=by omega
  rfl
 ·rw [this (by omega)];omega
namespace Kn
theorem bQ {p q:Prop} (k:q) (e:p=q:=by simp only [e1,e2,e3,e4,p1,p2,p3,q1,q2,q3,l1,t0,t1,r1,r2,r3,r4,Nat.zero_add,Nat.reduceMul,Nat.reduceAdd,b1,b2,b3,b4,b5,b6,i1,i2,i3,i4,i5,i6,Nat.reduceBEq,cS,eij];exact rfl):p:=e.mpr k
end Kn
open Kn in
theorem g9 (m n:Nat) (hla:(aE m).length≤1099511627776) (hlb:(aE n).length≤1099511627776):ap Tryz.prog 120 [ba m,ba n] (ba (m*n)):=by
 refine bS Tryz.func120 ?_
 have eij:True:=trivial
 refine bE ?_
 refine bM rfl rfl (.mkE (n:=(aE m).length+(aE n).length) (m:=(aE m).length+(aE n).length) ml ml om om om) ?_
 refine bv ?_
 refine ik (fun(i:Nat) (o:List Nat) L=>(((((St.mk L.slot (hp [(14,⟨1,o.map bh,true⟩)])).put (some 0) (ba m)).put (some 1) (ba n)).put (some 5) (.ref 14 1 0 ((aE m).length+(aE n).length))).put (some 6) (ai i))) (fun i o=>i≤(aE m).length∧o.length=(aE m).length+(aE n).length∧di o∧val o=val ((aE m).take i)*val (aE n)∧∀ p,i+(aE n).length≤p→o.getD p 0=0) (fun i o=>(aE m).length-i) 0 (List.replicate ((aE m).length+(aE n).length) 0) ⟨Nat.zero_le _,by simp,dP _,by simp [val,jM],fun p _=>nP _ _⟩ ?_
 rintro i o L1 ⟨hi,hol,hlo,hv,hz⟩
 have hxi:=aZ m i
 refine cg ?_
 refine an rfl (fun h18r h18=>?_) (fun h18r h18=>?_)
 ·refine ie ?_
  refine tp (fun(j:Nat) (o:List Nat) (c:Nat) L=>(((((((St.mk L.slot (hp [(14,⟨1,o.map bh,true⟩)])).put (some 0) (ba m)).put (some 1) (ba n)).put (some 5) (.ref 14 1 0 ((aE m).length+(aE n).length))).put (some 6) (ai i)).put (some 7) (ce c)).put (some 8) (ai j))) (fun j o c=>j≤(aE n).length∧o.length=(aE m).length+(aE n).length∧di o∧c<4294967296∧val o+4294967296 ^ (i+j)*c=val ((aE m).take i)*val (aE n)+4294967296 ^ i*((aE m).getD i 0*val ((aE n).take j))∧∀ p,i+(aE n).length≤p→o.getD p 0=0) (fun j o c=>(aE n).length-j) 0 o 0 ⟨Nat.zero_le _,hol,hlo,by omega,by rw [hv];simp [val],hz⟩ ?_
  rintro j o c L2 ⟨hj,hol,hlo,hc,hv,hz⟩
  have hyj:=aZ n j
  have hzj:=bH hlo (i+j)
  have hs:=rA hc hxi hyj hzj
  have eij:((i:Int)+(j:Int)).toNat=i+j:=by omega
  refine cg ?_
  refine an rfl (fun h24r h24=>?_) (fun h24r h24=>?_)
  ·refine ca ?_
   refine au 22 (by decide +kernel) ?_
   refine HQ ?_
   exact rb (j+1) (o.set (i+j) ((c+((aE m).getD i 0*(aE n).getD j 0+o.getD (i+j) 0)) % 4294967296)) ((c+((aE m).getD i 0*(aE n).getD j 0+o.getD (i+j) 0))/4294967296) ⟨by omega,by simp [hol],cM hlo _ _ (Nat.mod_lt _ (by omega)),by omega,uG (by omega) hv rfl,pp (by omega) hz⟩
  ·obtain rfl:j=(aE n).length:=by omega
   have eij2:((i:Int)+((aE n).length:Int)).toNat=i+(aE n).length:=by omega
   refine tk ?_
   exact gk (i+1) (o.set (i+(aE n).length) (c % 4294967296)) ⟨by omega,by simp [hol],cM hlo _ _ (Nat.mod_lt _ (by omega)),by rw [Nat.mod_eq_of_lt hc];exact vL (by omega) (by omega) (hz _ (Nat.le_refl _)) rfl rfl hv,px hz⟩
 ·obtain rfl:i=(aE m).length:=by omega
  refine cx ?_
  refine s5 [14] s4 (fg _ (by first | assumption | exact aB _) (by first | omega | (simp;done) | (simp;omega))) ?_
  refine bw ?_
  rw [List.take_length,az,az] at hv
  rw [←hv]
  exact aS rfl (by first | exact .pure rfl | exact .pure (aG _) | exact .pure (ar _) | exact .pure (ah.pure _) | exact .pure (ak bB _ _) | exact .pure (ak ah _ _))
open H0 in
theorem zy (m d:Nat) (hla:(aE m).length≤549755813888) (hd:d<4294967296):ap Tryz.prog 255 [ba m,iV d] (ba (m*d)):=by
 have hld:(aE d).length≤1:=cK.2 hd
 refine bS Tryz.func255 ?_
 refine bv ?_
 refine cp bK (nN _ (by omega)) ?_
 refine cp bf (g9 _ _ (by omega) (by omega)) ?_
 refine bw ?_
 exact aS rfl (by first | exact .pure rfl | exact .pure (aG _) | exact .pure (ar _) | exact .pure (ah.pure _) | exact .pure (ak bB _ _) | exact .pure (ak ah _ _))
namespace KP
theorem bQ {p q:Prop} (k:q) (e:p=q:=by simp only [e1,e2,e3,e4,p1,p2,p3,q1,q2,q3,l1,t0,t1,r1,r2,r3,r4,Nat.zero_add,Nat.reduceMul,Nat.reduceAdd,b1,b2,b3,b4,b5,b6,i1,i2,i3,i4,i5,i6,Nat.reduceBEq,cS,ej,ek];exact rfl):p:=e.mpr k
end KP
open KP in
theorem pk (m d:Nat) (hla:(aE m).length≤1099511627776) (hd0:0<d) (hd:d<4294967296):ap Tryz.prog 195 [ba m,iV d] (.tup [ba (m/d),iV (m % d)]):=by
 refine bS Tryz.func195 ?_
 have ej:True:=trivial
 have ek:True:=trivial
 refine bv ?_
 refine bM rfl rfl (.mkE (n:=(aE m).length) (m:=(aE m).length) ml ml om om om) ?_
 refine je ?_
 refine tp (fun(k:Nat) (q:List Nat) (r:Nat) L=>((((((St.mk L.slot (hp [(11,⟨1,q.map bh,true⟩)])).put (some 0) (ba m)).put (some 1) (iV d)).put (some 6) (.ref 11 1 0 (aE m).length)).put (some 7) (ce r)).put (some 8) (iL ((k:Int)-1)))) (fun k q r=>k≤(aE m).length∧q.length=(aE m).length∧di q∧r<d∧val (q.drop k)*d+r=val ((aE m).drop k)) (fun k q r=>k) ((aE m).length) (List.replicate (aE m).length 0) 0 ⟨Nat.le_refl _,by simp,dP _,hd0,by simp [val]⟩ ?_
 rintro k q r L1 ⟨hk,hql,hlq,hr,hv⟩
 refine bV ?_
 refine an rfl (fun h16r h16=>?_) (fun h16r h16=>?_)
 ·obtain⟨j,rfl⟩:∃ j,k=j+1:=⟨k-1,by omega⟩
  have ej:(((j+1:Nat):Int)-1).toNat=j:=by omega
  have ek:(((j+1:Nat):Int)-1)=j:=by omega
  have hxj:=aZ m j
  refine tk ?_
  refine ab rfl (.bin rfl rfl (rG (by omega) (by omega))) ?_
  refine ib ?_
  exact rb j (q.set j ((r*4294967296+(aE m).getD j 0)/d % 4294967296)) ((r*4294967296+(aE m).getD j 0) % d) ⟨by omega,by simp [hql],cM hlq _ _ (Nat.mod_lt _ (by omega)),Nat.mod_lt _ hd0,by rw [Nat.mod_eq_of_lt (rZ hr hxj)];exact pz (by omega) hql hv rfl⟩
 ·obtain rfl:k=0:=by omega
  refine cx ?_
  refine s5 [11] s4 (fg _ (by first | assumption | exact aB _) (by first | omega | (simp;done) | (simp;omega))) ?_
  refine bV ?_
  obtain⟨E1,E2⟩:=pB hd0 hr hlq hv
  rw [dO hlq] at E1
  have E3:=congrArg val E1
  rw [az,az,az] at E3
  rw [az] at E2
  rw [←E3,←E2]
  have E4:r % 4294967296=r:=Nat.mod_eq_of_lt (by omega)
  refine lr rfl (.pure (ar _)) rfl ?_
  show Imm _ (iV (r % 4294967296)) (iV r)
  rw [E4]
  exact .pure rfl
namespace KN
theorem bQ {p q:Prop} (k:q) (e:p=q:=by simp only [e1,e2,e3,e4,p1,p2,p3,q1,q2,q3,l1,t0,t1,r1,r2,r3,r4,Nat.zero_add,Nat.reduceMul,Nat.reduceAdd,b1,b2,b3,b4,b5,b6,i1,i2,i3,i4,i5,i6,Nat.reduceBEq,cS,ej];exact rfl):p:=e.mpr k
end KN
open KN in
theorem z9 (a:List Nat) (hl:a.length≤4611686018427387904):ap Tryz.prog 231 [dj a] (bL (decide (a.length=0∨a.getD (a.length-1) 0≠0))):=by
 unfold dj
 refine bS Tryz.func231 ?_
 have ej:True:=trivial
 refine bD ?_
 refine bT 6 rfl (fun h6r h6=>?_) (fun h6r h6=>?_)
 ·refine bE ?_
  refine aS ?_ (.pure rfl)
  simp only [e1,e2,e3,e4,p1,p2,p3,q1,q2,q3,Nat.reduceBEq]
  congr 2
  first | (symm;rw [decide_eq_true_iff];omega) | (rw [Bool.eq_iff_iff,bne_iff_ne,decide_eq_true_iff];omega)
 ·have ej:((a.length:Int)-1).toNat=a.length-1:=by omega
  refine bE ?_
  refine aS ?_ (.pure rfl)
  simp only [e1,e2,e3,e4,p1,p2,p3,q1,q2,q3,Nat.reduceBEq]
  congr 2
  first | (symm;rw [decide_eq_true_iff];omega) | (rw [Bool.eq_iff_iff,bne_iff_ne,decide_eq_true_iff];omega)
namespace Kf
theorem bQ {p q:Prop} (k:q) (e:p=q:=by simp only [e1,e2,e3,e4,p1,p2,p3,q1,q2,q3,l1,t0,t1,r1,r2,r3,r4,Nat.zero_add,Nat.reduceMul,Nat.reduceAdd,b1,b2,b3,b4,b5,b6,i1,i2,i3,i4,i5,i6,Nat.reduceBEq,cS,ej];exact rfl):p:=e.mpr k
end Kf
open Kf in
theorem qQ (m:Nat) (hla:(aE m).length≤1099511627776):ap Tryz.prog 252 [ba m] (iL (cy m)):=by
 refine bS Tryz.func252 ?_
 have ej:True:=trivial
 refine ct ?_
 refine an rfl (fun h7r h7=>?_) (fun h7r h7=>?_)
 ·have hz:m=0:=cH.1 (List.eq_nil_of_length_eq_zero (by omega))
  subst hz
  refine bV ?_
  exact aS rfl (by first | exact .pure rfl | exact .pure (aG _) | exact .pure (ar _) | exact .pure (ah.pure _) | exact .pure (ak bB _ _) | exact .pure (ak ah _ _))
 ·have hpos:0<(aE m).length:=by omega
  have ej:(((aE m).length:Int)-1).toNat=(aE m).length-1:=by omega
  have hz:=ro hpos
  have hlim:=aZ m ((aE m).length-1)
  have hb32:cy ((aE m).getD ((aE m).length-1) 0)≤32:=eI.2 hlim
  refine tk ?_
  refine ik (fun(x q:Nat) L=>(((St.mk L.slot (hp [])).put (some 3) (ai q)).put (some 4) (iV x))) (fun x q=>q+cy x=cy m∧x<4294967296∧cy m≤35184372088832) (fun x q=>x) ((aE m).getD ((aE m).length-1) 0) (32*((aE m).length-1)) ⟨hz,hlim,by omega⟩ ?_
  rintro x q L1 ⟨hq,hx,hbm⟩
  refine bV ?_
  refine an rfl (fun h19r h19=>?_) (fun h19r h19=>?_)
  ·have hx0:0<x:=by omega
   refine ct ?_
   refine ab rfl (.sh rfl rfl (wZ (m:=1) (by decide))) ?_
   refine bx ?_
   exact gk (x/2 ^ 1) (q+1) ⟨by have:=vV hx0;omega,by omega,hbm⟩
  ·obtain rfl:x=0:=by omega
   have hb0:cy 0=0:=rfl
   obtain rfl:q=cy m:=by omega
   refine bE ?_
   exact aS rfl (by first | exact .pure rfl | exact .pure (aG _) | exact .pure (ar _) | exact .pure (ah.pure _) | exact .pure (ak bB _ _) | exact .pure (ak ah _ _))
end Go.Proofs.YtfpdccbgngdhkaaGreat
namespace Go.Lg
open Go.Proofs.YtfpdccbgngdhkaaGreat in
theorem aP.mv {L:St} {t b sz off len:Nat} {blk:Blk} (d:Nat) (hb0:b≠0) (hd0:d≠0) (hbd:b≠d) (h:L.slot t=.ref b sz off len) (hb:L.heap b=some blk) (hd:L.heap d=none) :
  aP L (((L.kill b).setB d (some ⟨blk.sz,aH b blk.vals,blk.mt⟩)).put (some t) (.ref d sz off len)):=by
 rintro n W X Z0 a w ⟨hdf,hsz,μ,Z,hc,hr⟩
 have hμd:=eH hc hd
 have hk:=hc.kill b hb0
 have hkr:=ix b hr
 let μ':Nat→Option Nat:=fun c=>if c=d then μ b else ec μ b c
 have hm:∀ c id,ec μ b c=some id→μ' c=some id:=fun c id hh=>by
  have:c≠d:=by
   rintro rfl
   unfold ec at hh;split at hh
   ·cases hh
   ·rw [hμd] at hh;cases hh
  simp only [μ',if_neg this];exact hh
 have hinv:∀ c id,μ' c=some id→(c=d∧μ b=some id)∨(c≠d∧ec μ b c=some id):=fun c id hh=>by
  simp only [μ'] at hh;split at hh
  ·rename_i e;exact .inl ⟨e,hh⟩
  ·rename_i e;exact .inr ⟨e,hh⟩
 have hdr:∀ c id,ec μ b c=some id→c≠b∧μ c=some id:=fun c id h=>by
  unfold ec at h;split at h
  ·cases h
  ·exact⟨by assumption,h⟩
 have hbb:∀ id,ec μ b b=some id→False:=fun id hh=>(hdr b id hh).1 rfl
 have hmono:∀ {bk:Blk} {id:Nat},fH Z (ec μ b) w bk id→fH Z μ' w bk id:=fun hh=>fH.mono (fun _ h=>h) hm (Frame.refl _ _ _) rfl hh
 refine⟨hdf,hsz,μ',Z,?_,fun s=>?_⟩
 ·rw [cw]
  refine⟨hc.keep,hc.zone,hc.zsup,hc.zsub,?_,?_,?_,hc.xlt,?_,?_,?_,?_⟩
  ·intro c c' id h1 h2
   rcases hinv c id h1 with⟨e1,g1⟩ | ⟨e1,g1⟩<;>rcases hinv c' id h2 with⟨e2,g2⟩ | ⟨e2,g2⟩
   ·rw [e1,e2]
   ·have:=hdr c' id g2;exact absurd (hc.inj _ _ id this.2 g1) this.1
   ·have:=hdr c id g1;exact absurd (hc.inj _ _ id this.2 g2) this.1
   ·exact hc.inj c c' id (hdr c id g1).2 (hdr c' id g2).2
  ·intro c id h1
   rcases hinv c id h1 with⟨e1,g1⟩ | ⟨e1,g1⟩
   ·exact hc.own b id g1
   ·exact hc.own c id (hdr c id g1).2
  ·intro c id h1 hx
   rcases hinv c id h1 with⟨e1,g1⟩ | ⟨e1,g1⟩
   ·exact absurd (hc.x0 b id g1 hx) hb0
   ·exact hc.x0 c id (hdr c id g1).2 hx
  ·intro id hx
   have h0:=hk.x1 id hx
   exact hm 0 id h0
  ·intro c id bk h1 hbk hmt
   rcases hinv c id h1 with⟨e1,g1⟩ | ⟨e1,g1⟩
   ·subst e1
    simp only [St.setB,if_true,Option.some.injEq] at hbk
    subst hbk
    exact hc.mutz b id blk g1 hb hmt
   ·simp only [St.setB,if_neg e1] at hbk
    exact hk.mutz c id bk g1 hbk hmt
  ·intro c id bk h1 hbk hmt
   rcases hinv c id h1 with⟨e1,g1⟩ | ⟨e1,g1⟩
   ·subst e1
    simp only [St.setB,if_true,Option.some.injEq] at hbk
    subst hbk
    exact hc.frz b id blk g1 hb hmt
   ·simp only [St.setB,if_neg e1] at hbk
    exact hk.frz c id bk g1 hbk hmt
  ·intro c id h1
   rcases hinv c id h1 with⟨e1,g1⟩ | ⟨e1,g1⟩
   ·subst e1
    obtain⟨bk,q1,cc,T,part,rest,q2,q3,q4⟩:=hc.heap b id g1
    rw [hb] at q1;cases q1
    refine⟨⟨blk.sz,aH b blk.vals,blk.mt⟩,by simp [St.setB],hmono ⟨cc,T,part,rest,q2,q3,?_⟩⟩
    exact av.kill (fun _ h=>h) (fun k id hk h=>by simp [ec,hk,h]) (Frame.refl _ _ _) _ _ q4
   ·obtain⟨bk,q1,q2⟩:=hk.heap c id g1
    exact⟨bk,by simp only [St.setB,if_neg e1];exact q1,hmono q2⟩
 ·rw [bz]
  split
  ·rename_i hst
   subst hst
   have e:=hr s
   rw [h] at e
   refine⟨by simp [LV.isAgg],fun hh=>?_⟩
   have e2:=e.2 rfl
   simp only [bt] at e2 ⊢
   rcases e2 with e2 | ⟨id,cap,c,T,fz,q1,q2,q3⟩
   ·exact .inl e2
   ·exact .inr ⟨id,cap,c,T,fz,q1,by simp only [μ',if_true];exact q2,q3⟩
  ·exact be.mono (fun _ h=>h) hm (Frame.refl _ _ _) (hkr s)
end Go.Lg
namespace Go.Proofs.YtfpdccbgngdhkaaGreat
open Go.Lg
theorem zC {s:Nat} (h:s<32):cj .quo .i64 (s:Nat) 32=some (.int .i64 0):=by
 have:((s:Int)).tdiv 32=0:=by rw [Int.tdiv_eq_ediv_of_nonneg (by omega)];omega
 simp [cj,this,IntWalk.i64_in]
theorem Cd {s:Nat} (h:s<32):cj .rem .i64 (s:Nat) 32=some (.int .i64 (s:Nat)):=by
 have:((s:Int)).tmod 32=s:=by rw [Int.tmod_eq_emod_of_nonneg (by omega)];omega
 simp [cj,this]
theorem CQ {m s c x:Nat} {o:List Nat} (hv:val o+4294967296 ^ o.length*c=val ((aE m).take o.length)*2 ^ s) (hx:x=(aE m).getD o.length 0*2 ^ s+c) :
  val (o++[x % 4294967296])+4294967296 ^ (o.length+1)*(x/4294967296)=val ((aE m).take (o.length+1))*2 ^ s:=by
 rw [oh,bC,Nat.pow_succ,Nat.add_mul,Nat.mul_assoc (4294967296 ^ o.length) ((aE m).getD o.length 0)]
 have h1:=fl (4294967296 ^ o.length) x
 have h2:4294967296 ^ o.length*x=4294967296 ^ o.length*((aE m).getD o.length 0*2 ^ s)+4294967296 ^ o.length*c:=by rw [hx,Nat.mul_add]
 omega
theorem DG {m s c:Nat} {o:List Nat} (hv:val o+4294967296 ^ o.length*c=val ((aE m).take o.length)*2 ^ s) (ho:o.length=(aE m).length) (hc:c<4294967296):val (o++[c % 4294967296])=m*2 ^ s:=by
 rw [oh,Nat.mod_eq_of_lt hc,hv,jB (by omega)]
theorem FW {s x y:Nat} (hs:s<32) (hx:x<4294967296):(y*4294967296+x)/2 ^ s % 4294967296=x/2 ^ s+y % 2 ^ s*2 ^ (32-s):=by
 have hd:4294967296=2 ^ (32-s)*2 ^ s:=by rw [←Nat.pow_add,show 32-s+s=32 by omega]
 have hp:0<2 ^ s:=Nat.pow_pos (by omega)
 obtain⟨_,h2⟩:=qm (z:=y) (show s≤32 by omega) hx
 have e1:(y*4294967296+x)/2 ^ s=y*2 ^ (32-s)+x/2 ^ s:=by
  rw [show y*4294967296+x=x+(y*2 ^ (32-s))*2 ^ s by rw [Nat.mul_assoc,←hd];omega,Nat.add_mul_div_right _ _ hp];omega
 have e2:y*2 ^ (32-s)=y % 2 ^ s*2 ^ (32-s)+4294967296*(y/2 ^ s):=by
  have e3:y*2 ^ (32-s)=(2 ^ s*(y/2 ^ s)+y % 2 ^ s)*2 ^ (32-s):=by rw [Nat.div_add_mod]
  rw [e3,Nat.add_mul,hd,Nat.mul_right_comm,Nat.mul_comm (2 ^ s) (2 ^ (32-s))];omega
 rw [e1,e2,show y % 2 ^ s*2 ^ (32-s)+4294967296*(y/2 ^ s)+x/2 ^ s=(y % 2 ^ s*2 ^ (32-s)+x/2 ^ s)+4294967296*(y/2 ^ s) by omega,Nat.add_mul_mod_self_left,Nat.mod_eq_of_lt h2]
 omega
theorem DZ {i s:Nat} {w o:List Nat} (hi:i<w.length) (hs:s<32) (hv:2 ^ s*val (w.take i)=val (o.take i)+4294967296 ^ i*(o.getD i 0 % 2 ^ s)) :
  2 ^ s*val ((w.set i (o.getD i 0/2 ^ s+o.getD (i+1) 0 % 2 ^ s*2 ^ (32-s))).take (i+1))=val (o.take (i+1))+4294967296 ^ (i+1)*(o.getD (i+1) 0 % 2 ^ s):=by
 have hd:4294967296=2 ^ s*2 ^ (32-s):=by rw [←Nat.pow_add,show s+(32-s)=32 by omega]
 rw [dT _ _ _ hi,Nat.mul_add,hv,bC,Nat.pow_succ]
 have h1:=Nat.div_add_mod (o.getD i 0) (2 ^ s)
 generalize o.getD i 0/2 ^ s=q at *
 generalize o.getD i 0 % 2 ^ s=t at *
 generalize o.getD (i+1) 0 % 2 ^ s=u at *
 generalize 4294967296 ^ i=p at *
 rw [←h1]
 have e1:2 ^ s*(p*(q+u*2 ^ (32-s)))=p*(2 ^ s*q)+p*4294967296*u:=by
  rw [hd,Nat.mul_add,Nat.mul_add]
  simp only [Nat.mul_assoc,Nat.mul_left_comm,Nat.mul_comm]
 rw [e1,Nat.mul_add]
 omega
theorem C8 {r s:Nat} {o:List Nat} (hol:o.length=(aE (r*2 ^ s)).length) (hv:2 ^ s*val (o.take (aE (r*2 ^ s)).length)=val ((aE (r*2 ^ s)).take (aE (r*2 ^ s)).length)+4294967296 ^ (aE (r*2 ^ s)).length*((aE (r*2 ^ s)).getD (aE (r*2 ^ s)).length 0 % 2 ^ s)):val o=r:=by
 rw [eZ _ _ (Nat.le_refl _),Nat.zero_mod,Nat.mul_zero,Nat.add_zero,List.take_length,←hol,List.take_length,az,Nat.mul_comm r] at hv
 exact Nat.eq_of_mul_eq_mul_left (Nat.pow_pos (by omega)) hv
theorem yw (k:Nat):((List.replicate k 0).map bh).take k=(List.replicate k 0).map bh:=by rw [List.take_of_length_le (by simp)]
theorem wC {m:Nat} (k:Nat) (h:0<(aE m).length):aE (m*4294967296 ^ k)=List.replicate k 0++aE m:=by
 have hv:val (List.replicate k 0++aE m)=m*4294967296 ^ k:=by rw [gA,jM,az];simp [Nat.mul_comm]
 refine(xt (nn (dP k) (aB m)) hv (.inr ?_)).symm
 have:=my h
 simp only [List.length_append,List.length_replicate]
 rw [show k+(aE m).length-1=(aE m).length-1+k by omega,Nat.pow_add]
 exact Nat.mul_le_mul_right _ this
namespace KX
theorem bQ {p q:Prop} (k:q) (e:p=q:=by simp only [e1,e2,e3,e4,p1,p2,p3,q1,q2,q3,l1,t0,t1,r1,r2,r3,r4,Nat.zero_add,Nat.reduceMul,Nat.reduceAdd,b1,b2,b3,b4,b5,b6,i1,i2,i3,i4,i5,i6,Nat.reduceBEq,cS,List.take_zero,List.take_nil,List.nil_append,ae bB,LV.kill,aQ,bo,aW,List.length_cons,List.length_nil];exact rfl):p:=e.mpr k
end KX
open KX in
theorem CE (m s:Nat) (hla:(aE m).length≤549755813888) (hs:s<32):ap Tryz.prog 253 [ba m,ai s] (ba (m*2 ^ s)):=by
 obtain⟨hp1,hp2⟩:=rv hs
 refine bS Tryz.func253 ?_
 refine cx ?_
 refine ab rfl (.bin rfl rfl (zC hs)) ?_
 refine bM rfl rfl (.mkE (n:=0) (m:=0) ml ml om om om) ?_
 refine en ?_
 refine cN (aP.mv (t:=5) (b:=10) 31 (by decide) (by decide) (by decide) rfl rfl rfl) ?_
 refine ik (fun(o:List Nat) (c:Nat) L=>((((((St.mk L.slot (hp [(31,⟨1,o.map bh,true⟩)])).put (some 0) (ba m)).put (some 1) (ai s)).put (some 5) (.ref 31 1 0 o.length)).put (some 6) (ce c)).put (some 7) (ai o.length))) (fun o c=>o.length≤(aE m).length∧c<2 ^ s∧di o∧val o+4294967296 ^ o.length*c=val ((aE m).take o.length)*2 ^ s) (fun o c=>(aE m).length-o.length) ([]) 0 ⟨Nat.zero_le _,hp2,(by intro x hx;cases hx),by simp [val]⟩ ?_
 rintro o c L1 ⟨hol,hc,hlo,hv⟩
 have hxk:=aZ m o.length
 have hsx:=zG hxk hp1
 refine cg ?_
 refine an rfl (fun h14r h14=>?_) (fun h14r h14=>?_)
 ·refine ct ?_
  refine ab rfl (.bin rfl rfl (Cd hs)) ?_
  refine ab rfl (.sh rfl rfl (Fz (by omega) (by(try simp only [t1,cS]);omega))) ?_
  refine ab rfl (.bin rfl rfl (Ge hc (by(try simp only [t1,cS]);omega))) ?_
  refine cg ?_
  refine aK rfl (.app (news:=[bh (((aE m).getD o.length 0*2 ^ s+c) % 4294967296)]) rfl rfl rfl rfl rfl (by simp) (.inl rfl) (by decide) Tryz.underlying27 Tryz.underlying27 qF f8 rfl sc (.inl ⟨30,0,_,rfl,by decide,rfl,rfl,by simp,rfl,rfl⟩) (by simp;omega) (by simp;omega) (by decide)) ?_
  refine bx ?_
  refine aY (aP.kill _ 30) ?_
  refine bE ?_
  exact gk (o++[((aE m).getD o.length 0*2 ^ s+c) % 4294967296]) (((aE m).getD o.length 0*2 ^ s+c)/4294967296) ⟨by rw [aW];omega,rV hxk hc,ng hlo (by omega),by rw [aW];exact CQ hv rfl⟩ (hm:=by rw [aW];omega)
 ·have hoe:o.length=(aE m).length:=by omega
  have hV:=DG hv hoe (show c<4294967296 by omega)
  refine bD ?_
  refine aK rfl (.app (news:=[bh (c % 4294967296)]) rfl rfl rfl rfl rfl (by simp) (.inr rfl) (by decide) Tryz.underlying27 Tryz.underlying27 qF f8 rfl sc (.inl ⟨37,0,_,rfl,by decide,rfl,rfl,by simp,rfl,rfl⟩) (by simp;omega) (by simp;omega) (by decide)) ?_
  simp only [ae bB,aQ,bo,aW,List.length_cons,List.length_nil]
  refine s5 [38] s4 (fg (o++[c % 4294967296]) (ng hlo (by omega)) (by rw [aW];omega)) ?_
  refine bw ?_
  rw [←hV]
  exact aS rfl (by first | exact .pure rfl | exact .pure (aG _) | exact .pure (ar _) | exact .pure (ah.pure _) | exact .pure (ak bB _ _) | exact .pure (ak ah _ _))
namespace KQ
theorem bQ {p q:Prop} (k:q) (e:p=q:=by simp only [e1,e2,e3,e4,p1,p2,p3,q1,q2,q3,l1,t0,t1,r1,r2,r3,r4,Nat.zero_add,Nat.reduceMul,Nat.reduceAdd,b1,b2,b3,b4,b5,b6,i1,i2,i3,i4,i5,i6,Nat.reduceBEq,cS,List.drop_zero,ei1,eyy];exact rfl):p:=e.mpr k
end KQ
open KQ in
theorem AW (r s:Nat) (hla:(aE (r*2 ^ s)).length≤549755813888) (hs:s<32):ap Tryz.prog 256 [ba (r*2 ^ s),ai s] (ba r):=by
 obtain⟨hp1,hp2⟩:=rv hs
 have hlow:=rM (l:=aE (r*2 ^ s)) (r:=r) (show s≤32 by omega) (az _)
 refine bS Tryz.func256 ?_
 have ei1:True:=trivial
 have eyy:True:=trivial
 refine cg ?_
 refine ab rfl (.bin rfl rfl (zC hs)) ?_
 refine ca ?_
 refine an rfl (fun h12r h12=>?_) (fun h12r h12=>?_)
 ·have hm:r*2 ^ s=0:=cH.1 (List.eq_nil_of_length_eq_zero (by omega))
  have hr0:r=0:=by rcases Nat.mul_eq_zero.1 hm with h | h<;>omega
  subst hr0
  refine bV ?_
  exact aS rfl (.nil 1)
 ·refine bJ ?_
  refine ab rfl (.bin rfl rfl (zC hs)) ?_
  refine ab rfl (.sliceLl (a:=0) bB rfl Tryz.underlying27 f8 rfl om) ?_
  refine bV ?_
  refine bM rfl rfl (.mkE (n:=(aE (r*2 ^ s)).length) (m:=(aE (r*2 ^ s)).length) ml ml om om om) ?_
  refine bv ?_
  refine ik (fun(i:Nat) (o:List Nat) L=>(((((St.mk L.slot (hp [(19,⟨1,o.map bh,true⟩)])).put (some 0) (ba (r*2 ^ s))).put (some 1) (ai s)).put (some 5) (.ref 19 1 0 (aE (r*2 ^ s)).length)).put (some 6) (ai i))) (fun i o=>i≤(aE (r*2 ^ s)).length∧o.length=(aE (r*2 ^ s)).length∧di o∧2 ^ s*val (o.take i)=val ((aE (r*2 ^ s)).take i)+4294967296 ^ i*((aE (r*2 ^ s)).getD i 0 % 2 ^ s)) (fun i o=>(aE (r*2 ^ s)).length-i) 0 (List.replicate (aE (r*2 ^ s)).length 0) ⟨Nat.zero_le _,by simp,dP _,by rw [hlow];simp [val]⟩ ?_
  rintro i o L1 ⟨hi,hol,hlo,hv⟩
  have ei1:((i:Int)+1).toNat=i+1:=by omega
  have hxi:=aZ (r*2 ^ s) i
  have hyi:=aZ (r*2 ^ s) (i+1)
  obtain⟨hh1,hh2⟩:=qm (z:=(aE (r*2 ^ s)).getD (i+1) 0) (show s≤32 by omega) hxi
  refine cg ?_
  refine an rfl (fun h23r h23=>?_) (fun h23r h23=>?_)
  ·refine tk ?_
   refine cr (fun L=>∃ (y:Nat) (L1:St),(y=(aE (r*2 ^ s)).getD (i+1) 0*4294967296+(aE (r*2 ^ s)).getD i 0)∧L=((((((St.mk L1.slot (hp [(19,⟨1,o.map bh,true⟩)])).put (some 0) (ba (r*2 ^ s))).put (some 1) (ai s)).put (some 5) (.ref 19 1 0 (aE (r*2 ^ s)).length)).put (some 6) (ai i)).put (some 7) (ce y))) ?_ ?_
   ·refine an rfl (fun h35r h35=>?_) (fun h35r h35=>?_)
    ·refine cx ?_
     refine ab rfl (.sh rfl rfl (rJ (by(try simp only [t1,cS,ei1]);omega))) ?_
     refine ab rfl (.bin rfl rfl (IQ (by(try simp only [t1,cS]);omega) (by(try simp only [t1,cS,ei1]);omega))) ?_
     refine bx ?_
     exact⟨(aE (r*2 ^ s)).getD (i+1) 0*4294967296+(aE (r*2 ^ s)).getD i 0,_,rfl,((aa (aa (aa (aa (aa (aJ cl) cl) cl) cl) cl) cl)).symm⟩
    ·refine bG ?_
     exact⟨(aE (r*2 ^ s)).getD i 0,_,by rw [eZ _ (i+1) (by omega),Nat.zero_mul,Nat.zero_add],((aa (aa (aa (aa (aa (aJ cl) cl) cl) cl) cl) cl)).symm⟩
   ·rintro _ ⟨y,LC35,hy,rfl⟩
    have eyy:y/2 ^ s % 4294967296=((aE (r*2 ^ s)).getD i 0/2 ^ s+(aE (r*2 ^ s)).getD (i+1) 0 % 2 ^ s*2 ^ (32-s)):=by rw [hy];exact FW hs hxi
    refine bJ ?_
    refine ab rfl (.bin rfl rfl (Cd hs)) ?_
    refine ab rfl (.sh rfl rfl (wZ (m:=s) (by show s≤64;omega))) ?_
    refine bE ?_
    exact gk (i+1) (o.set i ((aE (r*2 ^ s)).getD i 0/2 ^ s+(aE (r*2 ^ s)).getD (i+1) 0 % 2 ^ s*2 ^ (32-s))) ⟨by omega,by simp [hol],cM hlo _ _ (by omega),DZ (by omega) hs hv⟩
  ·obtain rfl:i=(aE (r*2 ^ s)).length:=by omega
   refine cx ?_
   refine s5 [19] s4 (fg _ (by first | assumption | exact aB _) (by first | omega | (simp;done) | (simp;omega))) ?_
   refine bw ?_
   have hV:=C8 hol hv
   rw [←hV]
   exact aS rfl (by first | exact .pure rfl | exact .pure (aG _) | exact .pure (ar _) | exact .pure (ah.pure _) | exact .pure (ak bB _ _) | exact .pure (ak ah _ _))
namespace KV
theorem bQ {p q:Prop} (k:q) (e:p=q:=by simp only [e1,e2,e3,e4,p1,p2,p3,q1,q2,q3,l1,t0,t1,r1,r2,r3,r4,Nat.zero_add,Nat.reduceMul,Nat.reduceAdd,b1,b2,b3,b4,b5,b6,i1,i2,i3,i4,i5,i6,Nat.reduceBEq,List.take_zero,List.take_nil,List.nil_append,ae bB,LV.kill,aQ,bo,aW,List.length_cons,List.length_nil,yw,←List.map_append];exact rfl):p:=e.mpr k
end KV
open KV in
theorem n6 (m k:Nat) (hla:(aE m).length≤1099511627776) (hk:k≤1099511627776):ap Tryz.prog 254 [ba m,ai k] (ba (m*4294967296 ^ k)):=by
 refine bS Tryz.func254 ?_
 refine ct ?_
 refine an rfl (fun h7r h7=>?_) (fun h7r h7=>?_)
 ·have hm:m=0:=cH.1 (List.eq_nil_of_length_eq_zero (by omega))
  subst hm
  refine bV ?_
  rw [Nat.zero_mul]
  exact aS rfl (.nil 1)
 ·have hE:=wC k (show 0<(aE m).length by omega)
  refine ca ?_
  refine bM rfl rfl (.mkE (n:=k) (m:=k) ml ml om om om) ?_
  refine aL ?_
  refine aK rfl (.app (news:=(aE m).map bh) rfl rfl rfl rfl rfl (by simp) (.inr rfl) (by decide) Tryz.underlying27 Tryz.underlying27 qF f8 rfl sc (.inr (.inl rfl)) (by simp;omega) (by simp;omega) (by decide)) ?_
  refine bw ?_
  rw [show ba (m*4294967296 ^ k)=.list 1 ((List.replicate k 0++aE m).map bh) by rw [←hE];rfl]
  exact fM [11] rfl rfl (bg bB rfl rfl (by simp))
theorem oR (l:List Nat) (k:Nat):val l=val (l.take k)+4294967296 ^ k*val (l.drop k):=by
 rcases Nat.le_total k l.length with h | h
 ·exact dD l k h
 ·rw [List.take_of_length_le h,List.drop_of_length_le h];simp [val]
theorem kZ (l:List Nat) (k:Nat):val (l.drop k)=l.getD k 0+4294967296*val (l.drop (k+1)):=by
 rcases Nat.lt_or_ge k l.length with h | h
 ·exact de h
 ·rw [List.drop_of_length_le h,List.drop_of_length_le (by omega),eZ _ _ h];rfl
theorem ee {a:Nat} (h:1≤a) (h2:a≤9223372036854775807):cj .sub .i64 (a:Nat) 1=some (.int .i64 ((a-1:Nat):Int)):=by
 rw [eo (by omega) (by omega)];congr 2;omega
theorem wm {n:Nat} (h:0<(aE n).length):(aE n).drop ((aE n).length-1)=aE ((aE n).getD ((aE n).length-1) 0):=by
 have h1:=fw (jJ n) h
 have h2:=aZ n ((aE n).length-1)
 rw [fx (by omega) h2]
 rw [List.drop_eq_getElem_cons (by omega),List.drop_of_length_le (by omega),List.getD_eq_getElem?_getD,List.getElem?_eq_getElem (by omega)]
 rfl
theorem Da {R V n j:Nat} (hn:(aE V).length=n+1) (hlt:R<V*4294967296 ^ (j+1)) (hv:0<(aE V).getD n 0) :
  R/4294967296 ^ j/V≤min (((aE R).getD (j+(n+1)) 0*4294967296+(aE R).getD (j+n) 0)/(aE V).getD n 0) 4294967295:=by
 have hV0:0<V:=Nat.pos_of_ne_zero (fun h=>by rw [h,eT] at hn;cases hn)
 have hVn:V<4294967296 ^ (n+1):=bZ (by omega)
 have hz:=mG (ul:=aE R) (n:=n+1) (j:=j) hVn (by rw [az];exact hlt)
 have hq2:R/4294967296 ^ j/V<4294967296:=by
  rw [Nat.div_lt_iff_lt_mul hV0,Nat.div_lt_iff_lt_mul (fV j),Nat.mul_comm 4294967296,Nat.mul_assoc,←Nat.pow_succ']
  exact hlt
 refine Nat.le_min.2 ⟨?_,by omega⟩
 rw [Nat.le_div_iff_mul_le hv]
 have hVs:=dD (aE V) n (by omega)
 have hVd:val ((aE V).drop n)=(aE V).getD n 0:=by
  rw [de (by omega),List.drop_of_length_le (by omega)];simp [val]
 rw [hVd,az] at hVs
 have hR:R/4294967296 ^ (j+n)=(aE R).getD (j+(n+1)) 0*4294967296+(aE R).getD (j+n) 0:=by
  have e:=oR (aE R) (j+n)
  rw [az] at e
  have hl:val ((aE R).take (j+n))<4294967296 ^ (j+n):=df (eM (aB R) _) (by simp;omega)
  have hd:val ((aE R).drop (j+n))=(aE R).getD (j+(n+1)) 0*4294967296+(aE R).getD (j+n) 0:=by
   have z:val ((aE R).drop (j+n+2))=0:=fL (fun p=>by rw [iC];exact hz _ (by omega))
   rw [kZ,kZ,z,show j+n+1=j+(n+1) by omega];omega
  rw [←hd]
  conv=>lhs;rw [e]
  rw [Nat.add_mul_div_left _ _ (fV _),Nat.div_eq_of_lt hl,Nat.zero_add]
 rw [←hR,Nat.pow_add,←Nat.div_div_eq_div_mul,Nat.le_div_iff_mul_le (fV n),Nat.mul_assoc]
 refine Nat.le_trans (Nat.mul_le_mul_left _ ?_) (Nat.div_mul_le_self (R/4294967296 ^ j) V)
 rw [Nat.mul_comm]
 omega
theorem E5 {R V j d:Nat} (hV:0<V) (h:R<V*d*4294967296 ^ j):R/4294967296 ^ j/V<d:=by
 rw [Nat.div_lt_iff_lt_mul hV,Nat.div_lt_iff_lt_mul (fV j),Nat.mul_comm d V];exact h
theorem E6 {R V j d:Nat} (hV:0<V) (h:V*d*4294967296 ^ j≤R):d≤R/4294967296 ^ j/V:=by
 rw [Nat.le_div_iff_mul_le hV,Nat.le_div_iff_mul_le (fV j),Nat.mul_comm d V];exact h
theorem By {R V j d A:Nat} {ql:List Nat} (hV:0<V) (hd:d=R/4294967296 ^ j/V) (hp:V*d*4294967296 ^ j≤R) (hj:j<ql.length) (hv:R+V*4294967296 ^ (j+1)*val (ql.drop (j+1))=A) :
  R-V*d*4294967296 ^ j+V*4294967296 ^ j*val ((ql.set j d).drop j)=A∧R-V*d*4294967296 ^ j<V*4294967296 ^ j:=by
 have:=vd (ul:=aE (R-V*d*4294967296 ^ j)) (ul0:=aE R) (ql:=ql) (x:=d) (j:=j) (U0:=A) hV (by rw [az];exact hd) (by rw [az,az,Nat.mul_comm d V,Nat.mul_comm (4294967296 ^ j)];omega) hj (by rw [az];exact hv)
 rw [az] at this
 exact this
theorem yt {m n L K s:Nat} (hL:(aE (n*2 ^ s)).length=L) (h0:0<L) (hK:K+L=(aE (m*2 ^ s)).length+1):m*2 ^ s<n*2 ^ s*4294967296 ^ K:=by
 have h1:m*2 ^ s<4294967296 ^ (aE (m*2 ^ s)).length:=bZ (Nat.le_refl _)
 have h2:=my (m:=n*2 ^ s) (by omega)
 refine Nat.lt_of_lt_of_le h1 ?_
 rw [show (aE (m*2 ^ s)).length=(L-1)+K by omega,Nat.pow_add,←hL]
 exact Nat.mul_le_mul_right _ h2
theorem BE {m s k:Nat} (h:(aE m).length≤k) (hs:s<32):(aE (m*2 ^ s)).length≤k+1 :=
 bl h (cK.2 (by have:=rv hs;omega))
theorem sd (k:Nat):(aE (4294967296 ^ k)).length≤k+1:=cU (Nat.pow_lt_pow_right (by omega) (by omega))
theorem DC {V j d:Nat} (h:1≤d):V*d*4294967296 ^ j-V*4294967296 ^ j=V*(d-1)*4294967296 ^ j:=by
 obtain⟨e,rfl⟩:∃ e,d=e+1:=⟨d-1,by omega⟩
 rw [Nat.add_sub_cancel,Nat.mul_add,Nat.mul_one,Nat.add_mul];omega
theorem DL {V j d:Nat} (h:1≤d):V*4294967296 ^ j≤V*d*4294967296 ^ j:=by
 refine Nat.mul_le_mul_right _ ?_
 have:=Nat.mul_le_mul_left V h
 omega
namespace Kk
theorem bQ {p q:Prop} (k:q) (e:p=q:=by simp only [e1,e2,e3,e4,p1,p2,p3,q1,q2,q3,l1,t0,t1,r1,r2,r3,r4,Nat.zero_add,Nat.reduceMul,Nat.reduceAdd,b1,b2,b3,b4,b5,b6,i1,i2,i3,i4,i5,i6,Nat.reduceBEq,cS,az,eln,edz,esm,esn,eLn,edm,ek,ej1,ej2,eL1,ed,zD,edd,es];exact rfl):p:=e.mpr k
end Kk
open Kk in
theorem tn (m n:Nat) (hla:(aE m).length≤68719476736) (hlb:(aE n).length≤68719476736) (hn0:0<n):ap Tryz.prog 194 [ba m,ba n] (.tup [ba (m/n),ba (m % n),iL 0]):=by
 refine bS Tryz.func194 ?_
 have eln:True:=trivial
 have edz:True:=trivial
 have esm:True:=trivial
 have esn:True:=trivial
 have eLn:True:=trivial
 have edm:True:=trivial
 have ek:True:=trivial
 have ej1:True:=trivial
 have ej2:True:=trivial
 have eL1:True:=trivial
 have ed:True:=trivial
 have edd:True:=trivial
 have es:True:=trivial
 refine en ?_
 refine an rfl (fun h21r h21=>?_) (fun h21r h21=>?_)
 ·have hnz:=cH.1 (List.eq_nil_of_length_eq_zero (show (aE n).length=0 by omega))
  omega
 ·refine bV ?_
  refine cp bf (kq _ _ (by omega) (by omega)) ?_
  refine bx ?_
  refine an rfl (fun h25r h25=>?_) (fun h25r h25=>?_)
  ·have hlt:m<n:=by unfold fC at h25;split at h25;assumption;split at h25<;>omega
   refine bx ?_
   refine cp bK (fg _ (by first | assumption | exact aB _) (by omega)) ?_
   refine bV ?_
   rw [Nat.div_eq_of_lt hlt,Nat.mod_eq_of_lt hlt]
   exact km [] rfl rfl (.nil 1) rfl (.pure (ar _)) rfl (.pure rfl)
  ·have hge:n≤m:=by
    rcases Nat.lt_or_ge m n with h | h
    ·rw [dY h] at h25;omega
    ·exact h
   have hmono:=bN hge
   refine bJ ?_
   refine cp bK (lh _ (by omega)) ?_
   refine bE ?_
   refine an rfl (fun h33r h33=>?_) (fun h33r h33=>?_)
   ·have hm64:m<18446744073709551616:=by simpa using h33r
    have esm:(if m<18446744073709551616 then m else 0)=m:=if_pos hm64
    have esn:(if n<18446744073709551616 then n else 0)=n:=if_pos (by omega)
    have hq64:m/n≤m:=Nat.div_le_self _ _
    have hr64:=Nat.mod_lt m hn0
    refine bx ?_
    refine cp bK (lh _ (by omega)) ?_
    refine cx ?_
    refine au 11 (by decide +kernel) ?_
    refine bG ?_
    refine ab rfl (.bin rfl rfl (rG (by omega) (by omega))) ?_
    refine cp bK (nN _ (by omega)) ?_
    refine bG ?_
    refine ab rfl (.bin rfl rfl (Ed (by omega))) ?_
    refine cp bK (nN _ (by omega)) ?_
    refine bV ?_
    exact km [] rfl rfl (.pure (ar _)) rfl (.pure (ar _)) rfl (.pure rfl)
   ·refine bv ?_
    refine an rfl (fun h49r h49=>?_) (fun h49r h49=>?_)
    ·have hn1:=gr (n:=n) (by omega)
     have eLn:=hn1.1
     have hn2:=cK.1 (show (aE n).length≤1 by omega)
     have hr1:=Nat.mod_lt m hn0
     refine bJ ?_
     simp only [zD,cS,eLn]
     refine cp bf (pk m n (by omega) hn0 hn2) ?_
     refine bE ?_
     refine cp bK (nN _ (by omega)) ?_
     refine bV ?_
     exact km [] rfl rfl (.pure (ar _)) rfl (.pure (ar _)) rfl (.pure rfl)
    ·obtain⟨ln,hL⟩:∃ ln,(aE n).length=ln+1:=⟨(aE n).length-1,by omega⟩
     have eL1:(aE n).length-1=ln:=by omega
     have hdl:=wm (n:=n) (by omega)
     rw [eL1] at hdl
     have htop:=fw (jJ n) (show 0<(aE n).length by omega)
     rw [eL1] at htop
     have htl:=aZ n ln
     have htb:cy ((aE n).getD ln 0)≤32:=eI.2 htl
     have htbl:(aE ((aE n).getD ln 0)).length≤1:=cK.2 htl
     obtain⟨s,hs⟩:∃ s,s=32-cy ((aE n).getD ln 0):=⟨_,rfl⟩
     have es:(32:Int)-((cy ((aE n).getD ln 0):Nat):Int)=((s:Nat):Int):=by rw [Fh htb,hs]
     obtain⟨hs32,enV,hVge,hVlt⟩:=vK (n:=ln) hL hs
     have hV0:0<n*2 ^ s:=Nat.mul_pos hn0 (Nat.pow_pos (by omega))
     have hvt:0<(aE (n*2 ^ s)).getD ln 0:=by have:=Cs enV hVge;omega
     have hUl:=BE hla hs32
     have hUV:(aE (n*2 ^ s)).length≤(aE (m*2 ^ s)).length:=bN (Nat.mul_le_mul_right _ hge)
     obtain⟨K,hK⟩:∃ K,K+ln=(aE (m*2 ^ s)).length:=⟨(aE (m*2 ^ s)).length-ln,by omega⟩
     have hst:=yt (m:=m) (n:=n) (s:=s) (K:=K) enV (by omega) (by omega)
     refine bV ?_
     refine ab rfl (.bin rfl rfl (ee (by omega) (by omega))) ?_
     refine ab rfl (.sliceLl (a:=(aE n).length-1) bB rfl Tryz.underlying27 f8 rfl om) ?_
     rw [eL1,hdl]
     refine cp bK (qQ _ (by omega)) ?_
     refine cx ?_
     refine cp bf (CE _ _ (by omega) hs32) ?_
     refine bG ?_
     refine cp bf (CE _ _ (by omega) hs32) ?_
     refine je ?_
     refine bM rfl rfl (.mkE (n:=K) (m:=K) ml ml om om om) ?_
     refine dI ?_
     refine tp (fun(k R:Nat) (ql:List Nat) L=>(((((((St.mk L.slot (hp [(82,⟨1,ql.map bh,true⟩)])).put (some 1) (ba (n*2 ^ s))).put (some 4) (.ref 82 1 0 K)).put (some 13) (ai s)).put (some 14) (ai (ln+1))).put (some 5) (ba R)).put (some 15) (iL ((k:Int)-1)))) (fun k R ql=>k≤K∧ql.length=K∧di ql∧R≤m*2 ^ s∧R+(n*2 ^ s)*4294967296 ^ k*val (ql.drop k)=m*2 ^ s∧R<(n*2 ^ s)*4294967296 ^ k) (fun k R ql=>k) K (m*2 ^ s) (List.replicate K 0) ⟨Nat.le_refl _,by simp,dP _,Nat.le_refl _,by rw [List.drop_of_length_le (by simp)];simp [val],hst⟩ ?_
     rintro k R ql L1 ⟨hk,hql,hlq,hRU,hv,hlt⟩
     refine bV ?_
     refine an rfl (fun h88r h88=>?_) (fun h88r h88=>?_)
     ·obtain⟨j,rfl⟩:∃ j,k=j+1:=⟨k-1,by omega⟩
      have ek:(((j+1:Nat):Int)-1)=(j:Int):=by omega
      have ej1:((j:Int)+((ln+1:Nat):Int)).toNat=j+(ln+1):=by omega
      have ej2:((j:Int)+((ln+1:Nat):Int)-1).toNat=j+ln:=by omega
      have hRl:=bN hRU
      have eln:(((ln+1:Nat):Int)-1).toNat=ln:=by omega
      have hr1:=aZ R (j+(ln+1))
      have hr2:=aZ R (j+ln)
      have hest:=Da (R:=R) (n:=ln) (j:=j) enV hlt hvt
      have hvl:=aZ (n*2 ^ s) ln
      refine ib ?_
      refine cr (fun L=>∃ (hi:Nat) (L1:St),(hi=(aE R).getD (j+(ln+1)) 0)∧L=((((((((St.mk L1.slot (hp [(82,⟨1,ql.map bh,true⟩)])).put (some 1) (ba (n*2 ^ s))).put (some 4) (.ref 82 1 0 K)).put (some 13) (ai s)).put (some 14) (ai (ln+1))).put (some 5) (ba R)).put (some 15) (iL (((j+1:Nat):Int)-1))).put (some 16) (ce hi))) ?_ ?_
      ·refine an rfl (fun h96r h96=>?_) (fun h96r h96=>?_)
       ·refine bD ?_
        exact⟨(aE R).getD (j+(ln+1)) 0,_,rfl,((aa (aa (aa (aa (aa (aa (aa (aJ cl) cl) cl) cl) cl) cl) cl) cl)).symm⟩
       ·refine bG ?_
        exact⟨0,_,(eZ _ _ (by omega)).symm,((aa (aa (aa (aa (aa (aa (aa (aJ cl) cl) cl) cl) cl) cl) cl) cl)).symm⟩
      ·rintro _ ⟨hi,LC96,hhi,rfl⟩
       refine ct ?_
       refine cr (fun L=>∃ (top:Nat) (L1:St),(top=((aE R).getD (j+(ln+1)) 0*4294967296+(aE R).getD (j+ln) 0))∧L=((((((((St.mk L1.slot (hp [(82,⟨1,ql.map bh,true⟩)])).put (some 1) (ba (n*2 ^ s))).put (some 4) (.ref 82 1 0 K)).put (some 13) (ai s)).put (some 14) (ai (ln+1))).put (some 5) (ba R)).put (some 15) (iL (((j+1:Nat):Int)-1))).put (some 16) (ce top))) ?_ ?_
       ·refine an rfl (fun h110r h110=>?_) (fun h110r h110=>?_)
        ·refine bG ?_
         refine ab rfl (.sh rfl rfl (rJ (by omega))) ?_
         refine cx ?_
         refine ab rfl (.bin rfl rfl (II (by simp only [t1,cS,ej2];omega) (by omega))) ?_
         refine bx ?_
         exact⟨hi*4294967296+(aE R).getD (j+ln) 0,_,by rw [hhi],((aa (aa (aa (aa (aa (aa (aa (aJ cl) cl) cl) cl) cl) cl) cl) cl)).symm⟩
        ·refine bG ?_
         refine ab rfl (.sh rfl rfl (rJ (by omega))) ?_
         refine bx ?_
         exact⟨hi*4294967296,_,by rw [hhi,eZ (aE R) (j+ln) (by omega)];exact(Nat.add_zero _).symm,((aa (aa (aa (aa (aa (aa (aa (aJ cl) cl) cl) cl) cl) cl) cl) cl)).symm⟩
       ·rintro _ ⟨top,LC110,htp,rfl⟩
        have hdle:top/(aE (n*2 ^ s)).getD ln 0≤top:=Nat.div_le_self _ _
        have edm:(if (4294967295:Int)<((top/(aE (n*2 ^ s)).getD ln 0:Nat):Int) then(4294967295:Int) else((top/(aE (n*2 ^ s)).getD ln 0:Nat):Int))=((min (top/(aE (n*2 ^ s)).getD ln 0) 4294967295:Nat):Int):=by split<;>omega
        subst htp
        obtain⟨d0,hd0⟩:∃ d0,d0=min (((aE R).getD (j+(ln+1)) 0*4294967296+(aE R).getD (j+ln) 0)/(aE (n*2 ^ s)).getD ln 0) 4294967295:=⟨_,rfl⟩
        rw [←hd0] at hest edm
        have hdz:d0<4294967296:=by rw [hd0];exact Nat.lt_of_le_of_lt (Nat.min_le_right _ _) (by decide)
        clear hd0
        have edz:d0 % 4294967296=d0:=Nat.mod_eq_of_lt hdz
        have hlz:=bl (Nat.le_of_eq enV) (cK.2 hdz)
        refine bv ?_
        refine ab rfl (.bin rfl rfl (rG (by simp only [t1,cS,eln];omega) (by omega))) ?_
        refine cg ?_
        refine cp bf (zy _ _ (by omega) (by omega)) ?_
        refine aL ?_
        refine cp bf (n6 _ _ (by rw [edz];omega) (by omega)) ?_
        refine ca ?_
        refine gE (fun(d:Nat) L=>(((((((((St.mk L.slot (hp [(82,⟨1,ql.map bh,true⟩)])).put (some 1) (ba (n*2 ^ s))).put (some 4) (.ref 82 1 0 K)).put (some 13) (ai s)).put (some 14) (ai (ln+1))).put (some 5) (ba R)).put (some 15) (iL (((j+1:Nat):Int)-1))).put (some 17) (ce d)).put (some 18) (ba ((n*2 ^ s)*d*4294967296 ^ j)))) (fun d=>R/4294967296 ^ j/(n*2 ^ s)≤d∧d<4294967296) (fun d=>d) d0 ⟨hest,hdz⟩ ?_
        rintro d L2 ⟨hdq,hdB⟩
        have hl1:=bl (Nat.le_of_eq enV) (cK.2 hdB)
        have hl2:=bl hl1 (sd j)
        have hl3:=bl (Nat.le_of_eq enV) (sd j)
        refine ca ?_
        refine cp bf (kq _ _ (by omega) (by omega)) ?_
        refine bx ?_
        refine an rfl (fun h142r h142=>?_) (fun h142r h142=>?_)
        ·have hgt:R<n*2 ^ s*d*4294967296 ^ j:=by unfold fC at h142;split at h142;omega;split at h142;assumption;omega
         have hdq:=E5 hV0 hgt
         have hd0:1≤d:=Nat.lt_of_le_of_lt (Nat.zero_le _) hdq
         have hle3:=DL (V:=n*2 ^ s) (j:=j) hd0
         have edd:=DC (V:=n*2 ^ s) (j:=j) hd0
         refine dI ?_
         refine cp bf (n6 _ _ (by omega) (by omega)) ?_
         refine cp bf (ow _ _ (by omega) (by omega) hle3) ?_
         refine bw ?_
         exact fA (d-1) ⟨by omega,by omega⟩
        ·have hpl:n*2 ^ s*d*4294967296 ^ j≤R:=by
          rcases Nat.lt_or_ge R (n*2 ^ s*d*4294967296 ^ j) with h | h
          ·rw [eF h] at h142;omega
          ·exact h
         have hdE:=Nat.le_antisymm (E6 hV0 hpl) hdq
         obtain⟨hn1,hn2⟩:=By hV0 hdE hpl (show j<ql.length by omega) hv
         have ed:d % 4294967296=d:=Nat.mod_eq_of_lt hdB
         refine je ?_
         refine cp bf (ow _ _ (by omega) (by omega) hpl) ?_
         refine bv ?_
         exact rb j (R-(n*2 ^ s)*d*4294967296 ^ j) (ql.set j d) ⟨by omega,by simp [hql],cM hlq _ _ hdB,Nat.le_trans (Nat.sub_le _ _) hRU,hn1,hn2⟩
     ·obtain rfl:k=0:=by omega
      rw [List.drop_zero,Nat.pow_zero,Nat.mul_one] at hv
      rw [Nat.pow_zero,Nat.mul_one] at hlt
      have hRl:=bN hRU
      obtain⟨hqf,hRf⟩:=x8 (ul:=aE R) (ql:=ql) (A:=m) (s:=s) hn0 (by rw [az];exact hv) (by rw [az];exact hlt)
      rw [az] at hRf
      refine cx ?_
      refine s5 [82] s4 (fg _ (by first | assumption | exact aB _) (by omega)) ?_
      refine bG ?_
      rw [hRf]
      refine cp bf (AW (m % n) s (by rw [←hRf];omega) hs32) ?_
      refine bJ ?_
      rw [←hqf]
      exact km [] rfl rfl (.pure (ar _)) rfl (.pure (ar _)) rfl (.pure rfl)
namespace Kl
theorem bQ {p q:Prop} (k:q) (e:p=q:=by simp only [e1,e2,e3,e4,p1,p2,p3,q1,q2,q3,l1,t0,t1,r1,r2,r3,r4,Nat.zero_add,Nat.reduceMul,Nat.reduceAdd,b1,b2,b3,b4,b5,b6,i1,i2,i3,i4,i5,i6,Nat.reduceBEq,cS,az,esm,esn];exact rfl):p:=e.mpr k
end Kl
open Kl in
theorem xW (m n:Nat) (hla:(aE m).length≤68719476736) (hlb:(aE n).length≤68719476736):ap Tryz.prog 193 [ba m,ba n] (ba (Nat.gcd m n)):=by
 refine bS Tryz.func193 ?_
 have esm:True:=trivial
 have esn:True:=trivial
 refine cx ?_
 refine cp bK (fg _ (aB _) (by omega)) ?_
 refine aL ?_
 refine cp bK (fg _ (aB _) (by omega)) ?_
 refine bJ ?_
 refine ik (fun(x y:Nat) L=>(((St.mk L.slot (hp [])).put (some 0) (ba x)).put (some 1) (ba y))) (fun x y=>Nat.gcd x y=Nat.gcd m n∧(aE x).length≤68719476736∧(aE y).length≤68719476736) (fun x y=>y) m n ⟨rfl,hla,hlb⟩ ?_
 rintro x y L1 ⟨hg,hx,hy⟩
 refine cx ?_
 refine an rfl (fun h18r h18=>?_) (fun h18r h18=>?_)
 ·have hy0:0<y:=Nat.pos_of_ne_zero (fun h=>by rw [h,eT] at h18;simp at h18)
  refine bJ ?_
  refine cp bK (lh _ (by omega)) ?_
  refine bv ?_
  refine cp bK (lh _ (by omega)) ?_
  refine cg ?_
  refine cr (fun L=>∃ (t:Bool) (L1:St),(t=decide (x<18446744073709551616∧y<18446744073709551616))∧L=((((((St.mk L1.slot (hp [])).put (some 0) (ba x)).put (some 1) (ba y)).put (some 5) (ce (if x<18446744073709551616 then x else 0))).put (some 7) (ce (if y<18446744073709551616 then y else 0))).put (some 32) (bL t))) ?_ ?_
  ·refine bx ?_
   refine bT 30 rfl (fun h30r h30=>?_) (fun h30r h30=>?_)
   ·refine bw ?_
    exact⟨decide (y<18446744073709551616),_,by rw [decide_eq_decide];omega,((aa (aa (aa (aa (aa (aJ cl) cl) cl) cl) cl) cl)).symm⟩
   ·refine bw ?_
    exact⟨false,_,by symm;rw [decide_eq_false_iff_not];omega,((aa (aa (aa (aa (aa (aJ cl) cl) cl) cl) cl) cl)).symm⟩
  ·rintro _ ⟨t,LR5,ht,rfl⟩
   refine aL ?_
   refine an rfl (fun h32r h32=>?_) (fun h32r h32=>?_)
   ·rw [ht,decide_eq_true_iff] at h32r
    obtain⟨hx64,hy64⟩:=h32r
    have esm:(if x<18446744073709551616 then x else 0)=x:=if_pos hx64
    have esn:(if y<18446744073709551616 then y else 0)=y:=if_pos hy64
    refine bG ?_
    refine ik (fun(p q:Nat) L=>(((St.mk L.slot (hp [])).put (some 5) (ce p)).put (some 7) (ce q))) (fun p q=>Nat.gcd p q=Nat.gcd m n∧p<18446744073709551616∧q<18446744073709551616) (fun p q=>q) x y ⟨hg,hx64,hy64⟩ ?_
    rintro p q L2 ⟨hg3,hm,hn⟩
    refine bV ?_
    refine an rfl (fun h34r h34=>?_) (fun h34r h34=>?_)
    ·refine bx ?_
     refine au 6 (by decide +kernel) ?_
     refine cg ?_
     exact gk q (p % q) ⟨by rw [Nat.gcd_comm,←Nat.gcd_rec,Nat.gcd_comm];exact hg3,hn,by have:=Nat.mod_lt p (show q > 0 by omega);omega⟩ (hm:=Nat.mod_lt _ (by omega))
    ·obtain rfl:q=0:=by omega
     refine cx ?_
     refine cp bK (nN _ (by omega)) ?_
     refine cg ?_
     rw [←hg3,Nat.gcd_zero_right]
     exact aS rfl (by first | exact .pure rfl | exact .pure (aG _) | exact .pure (ar _) | exact .pure (ah.pure _) | exact .pure (ak bB _ _) | exact .pure (ak ah _ _))
   ·refine bJ ?_
    refine cp bf (tn _ _ (by omega) (by omega) (by first | assumption | omega)) ?_
    refine iP ?_
    exact gk y (x % y) ⟨by rw [Nat.gcd_comm,←Nat.gcd_rec,Nat.gcd_comm];exact hg,hy,Nat.le_trans (bN (Nat.le_of_lt (Nat.mod_lt x hy0))) hy⟩ (hm:=Nat.mod_lt _ hy0)
 ·have hy0:y=0:=cH.1 (List.eq_nil_of_length_eq_zero (by omega))
  refine bE ?_
  subst hy0
  rw [←hg,Nat.gcd_zero_right]
  exact aS rfl (by first | exact .pure rfl | exact .pure (aG _) | exact .pure (ar _) | exact .pure (ah.pure _) | exact .pure (ak bB _ _) | exact .pure (ak ah _ _))
end Go.Proofs.YtfpdccbgngdhkaaGreat
end
