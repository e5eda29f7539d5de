/- Texts LgTy, LgF, N1, N2, N3, N4, N5, N6, N7, N8, N9, N10, N11, R1, R2, R3, R4, R5 of this proof, joined. -/
import Derived.Test.YtckppbhafancnaaGreatQO3
import Derived.Test.YtckppbhafancnaaGreatChecked
set_option linter.unusedVariables false
set_option linter.unusedSimpArgs false
open Bool renaming eq_iff_iff->ad8,false_eq_true->adv
open Classical renaming byContradiction->o8
open Go.Proofs.Tryz renaming f236->afk,func149->auE,func249->awB,prog->al,t147->ath,t159->arL,t202->awJ,t28->ax2,t31->awN,t40->avn,t42->axE,t51->awG,t54->atW,underlying116->asw,underlying134->aji,underlying137->zt,underlying139->av0,underlying147->auK,underlying155->rR,underlying156->auC,underlying159->aqw,underlying165->v9,underlying169->aeI,underlying181->aws,underlying2->aia,underlying202->ave,underlying212->aue,underlying22->avO,underlying230->arX,underlying25->dE,underlying26->vX,underlying28->auG,underlying29->pG,underlying3->arw,underlying31->ao5,underlying35->auJ,underlying4->aqP,underlying40->ar8,underlying42->ax5,underlying43->oW,underlying49->od,underlying5->aoe,underlying51->aot,underlying54->auX,underlying66->atz,underlying68->ax4,underlying92->awL,underlying97->avd
open Int renaming natAbs_neg->aj4
open List renaming drop_length->ad7,drop_of_length_le->jQ,drop_zero->lQ,eq_nil_of_length_eq_zero->m8,getD_eq_getElem?_getD->bz,replicate->ay,take_length->nn,take_of_length_le->de
open Nat renaming add_comm->pM,add_mul->hY,add_sub_cancel->lP,add_zero->mf,div_add_mod->acO,div_eq_of_lt->aa7,div_le_self->vf,div_lt_iff_lt_mul->nP,div_mul_le_self->aqR,div_one->aeW,div_pos->ahu,gcd->fS,gcd_comm->qL,gcd_dvd_left->aa1,gcd_dvd_right->alH,gcd_pos_of_pos_left->amq,gcd_rec->ad3,gcd_zero_right->aeO,le_div_iff_mul_le->yW,le_of_dvd->acJ,le_of_eq->adG,le_of_lt->x9,le_refl->bp,le_total->alq,le_trans->a9,lt_of_le_of_lt->ug,lt_of_lt_of_le->yw,lt_or_eq_of_le->asX,lt_or_ge->gM,min_le_right->aoz,mod_eq_of_lt->iF,mod_lt->lZ,mul_add->ez,mul_assoc->fH,mul_comm->fy,mul_le_mul_left->jX,mul_le_mul_right->fP,mul_one->jF,mul_pos->nt,mul_zero->aaf,pos_of_ne_zero->vc,pow_add->lM,pow_le_pow_right->lO,pow_pos->lY,pow_succ->jg,pow_zero->acg,reduceAdd->aeY,reduceBEq->vZ,reduceMul->aow,sub_le->agt,sub_mul->awC,succ_mul->vH,zero_add->fw,zero_le->b8,zero_mod->asF,zero_mul->adN
open Option.some renaming injEq->fp
open Rat renaming div_def->jo,lt_iff->att,neg_den->akf,neg_num->anp,num_eq_zero->axX,sub_eq_add_neg->afK
section
set_option linter.unusedVariables false
set_option linter.unusedSimpArgs false
set_option maxHeartbeats 8000000
set_option maxRecDepth 100000
namespace Go.Proofs.YtckppbhafancnaaGreat
open Go.Lg
theorem fol:al.follows .mixedOrders=true:=by kernel_rfl
theorem T2:bC al 2 1 false:=⟨by kernel_rfl,_,aia,rfl⟩
theorem B2:mg al 2 8:=⟨Tryz.t2,by kernel_rfl,rfl⟩
theorem Z2:dj al 2 (.v (.int .i64 0)):=⟨Tryz.t2,_,by kernel_rfl,rfl,rfl,fun _ _ _=>gh rfl⟩
instance:TI al 2 1 false:=⟨T2⟩
theorem T3:bC al 3 1 false:=⟨by kernel_rfl,_,arw,rfl⟩
theorem B3:mg al 3 8:=⟨Tryz.t3,by kernel_rfl,rfl⟩
theorem Z3:dj al 3 (.v (.int .i64 0)):=⟨Tryz.t3,_,by kernel_rfl,rfl,rfl,fun _ _ _=>gh rfl⟩
instance:TI al 3 1 false:=⟨T3⟩
instance:ZI al 3 (.v (.int .i64 0)):=⟨Z3⟩
instance:UN al 4 .bool:=⟨aqP⟩
theorem T4:bC al 4 1 false:=⟨by kernel_rfl,_,aqP,rfl⟩
theorem B4:mg al 4 1:=⟨Tryz.t4,by kernel_rfl,rfl⟩
instance:TI al 4 1 false:=⟨T4⟩
instance:UN al 5 (.int .u8):=⟨aoe⟩
instance:UN al 22 (.slice 3):=⟨avO⟩
theorem T22:bC al 22 1 false:=⟨by kernel_rfl,_,avO,rfl⟩
instance:TI al 22 1 false:=⟨T22⟩
instance:UN al 25 (.slice 31):=⟨dE⟩
theorem T25:bC al 25 1 false:=⟨by kernel_rfl,_,dE,rfl⟩
instance:TI al 25 1 false:=⟨T25⟩
instance:UN al 26 (.slice 42):=⟨vX⟩
theorem T26:bC al 26 1 false:=⟨by kernel_rfl,_,vX,rfl⟩
instance:TI al 26 1 false:=⟨T26⟩
theorem kt:bC al 28 3 true:=⟨by kernel_rfl,_,auG,rfl⟩
theorem B28:mg al 28 56:=⟨ax2,by kernel_rfl,rfl⟩
theorem Z28:dj al 28 (.agg [.v (.int .i64 0),.v (.slice none 0 0),.v (.slice none 0 0)]):=⟨ax2,_,by kernel_rfl,rfl,rfl,fun _ _ _=>fa (bB (c1:=[.int .i64 0]) rfl (gh rfl) (bB (c1:=[.slice none 0 0]) rfl (gh rfl) (bB (c1:=[.slice none 0 0]) rfl (gh rfl) (eX))))⟩
instance:TI al 28 3 true:=⟨kt⟩
instance:ZI al 28 (.agg [.v (.int .i64 0),.v (.slice none 0 0),.v (.slice none 0 0)]):=⟨Z28⟩
theorem aGA:lS al 28 [(1,false),(1,false),(1,false)]:=⟨_,auG,⟨rfl,T3,⟨rfl,T25,⟨rfl,T26,trivial⟩⟩⟩,by decide⟩
instance:SI al 28 [(1,false),(1,false),(1,false)]:=⟨aGA⟩
instance:UN al 29 (.slice 202):=⟨pG⟩
theorem T29:bC al 29 1 false:=⟨by kernel_rfl,_,pG,rfl⟩
instance:TI al 29 1 false:=⟨T29⟩
theorem cZ:bC al 31 3 true:=⟨by kernel_rfl,_,ao5,rfl⟩
theorem mj:mg al 31 56:=⟨awN,by kernel_rfl,rfl⟩
theorem Z31:dj al 31 (ah 0):=⟨awN,_,by kernel_rfl,rfl,ar.pure 0,fun _ _ _=>dz⟩
theorem lU:dj al 31 (.agg [.v (.bool false),.list 1 [],.list 1 []]):=qi ▸ Z31
instance:TI al 31 3 true:=⟨cZ⟩
instance:BI al 31 56:=⟨mj⟩
instance:ZI al 31 (.agg [.v (.bool false),.list 1 [],.list 1 []]):=⟨lU⟩
theorem atT:lS al 31 [(1,false),(1,false),(1,false)]:=⟨_,ao5,⟨rfl,T4,⟨rfl,T29,⟨rfl,T29,trivial⟩⟩⟩,by decide⟩
instance:SI al 31 [(1,false),(1,false),(1,false)]:=⟨atT⟩
theorem T35:bC al 35 5 true:=⟨by kernel_rfl,_,auJ,rfl⟩
theorem Z35:dj al 35 (.agg [.v (.int .i64 0),.v (.int .i64 0),ah 0]):=⟨Tryz.t35,_,by kernel_rfl,rfl,by simp [LV.pure,aN,ar.pure],fun _ _ _=>fa (bB (c1:=[.int .i64 0]) rfl (gh rfl) (bB (c1:=[.int .i64 0]) rfl (gh rfl) (bB (c1:=[.bool false,.slice none 0 0,.slice none 0 0]) cI (dz) (eX))))⟩
instance:TI al 35 5 true:=⟨T35⟩
instance:ZI al 35 (.agg [.v (.int .i64 0),.v (.int .i64 0),ah 0]):=⟨Z35⟩
theorem ajj:lS al 35 [(1,false),(1,false),(3,true)]:=⟨_,auJ,⟨rfl,T3,⟨rfl,T3,⟨rfl,cZ,trivial⟩⟩⟩,by decide⟩
instance:SI al 35 [(1,false),(1,false),(3,true)]:=⟨ajj⟩
instance:UN al 40 (.array 3 31):=⟨ar8⟩
theorem ju:bC al 40 9 true:=⟨by kernel_rfl,_,ar8,rfl⟩
theorem B40:mg al 40 168:=⟨avn,by kernel_rfl,rfl⟩
theorem Z40:dj al 40 (.agg [ah 0,ah 0,ah 0]):=⟨avn,_,by kernel_rfl,rfl,by simp [LV.pure,aN,ar.pure],fun _ _ _=>fa (bB (c1:=[.bool false,.slice none 0 0,.slice none 0 0]) cI (dz) (bB (c1:=[.bool false,.slice none 0 0,.slice none 0 0]) cI (dz) (bB (c1:=[.bool false,.slice none 0 0,.slice none 0 0]) cI (dz) (eX))))⟩
instance:TI al 40 9 true:=⟨ju⟩
instance:ZI al 40 (.agg [ah 0,ah 0,ah 0]):=⟨Z40⟩
theorem tW:bC al 42 12 true:=⟨by kernel_rfl,_,ax5,rfl⟩
theorem B42:mg al 42 224:=⟨axE,by kernel_rfl,rfl⟩
theorem Z42:dj al 42 (.agg [.agg [ah 0,ah 0,ah 0],ah 0]):=⟨axE,_,by kernel_rfl,rfl,by simp [LV.pure,aN,ar.pure],fun _ _ _=>fa (bB (c1:=[.bool false,.slice none 0 0,.slice none 0 0,.bool false,.slice none 0 0,.slice none 0 0,.bool false,.slice none 0 0,.slice none 0 0]) cI (fa (bB (c1:=[.bool false,.slice none 0 0,.slice none 0 0]) cI (dz) (bB (c1:=[.bool false,.slice none 0 0,.slice none 0 0]) cI (dz) (bB (c1:=[.bool false,.slice none 0 0,.slice none 0 0]) cI (dz) (eX))))) (bB (c1:=[.bool false,.slice none 0 0,.slice none 0 0]) cI (dz) (eX)))⟩
instance:TI al 42 12 true:=⟨tW⟩
instance:ZI al 42 (.agg [.agg [ah 0,ah 0,ah 0],ah 0]):=⟨Z42⟩
theorem aGn:lS al 42 [(9,true),(3,true)]:=⟨_,ax5,⟨rfl,ju,⟨rfl,cZ,trivial⟩⟩,by decide⟩
instance:SI al 42 [(9,true),(3,true)]:=⟨aGn⟩
instance:UN al 43 (.slice 51):=⟨oW⟩
theorem T43:bC al 43 1 false:=⟨by kernel_rfl,_,oW,rfl⟩
instance:TI al 43 1 false:=⟨T43⟩
instance:UN al 49 (.slice 54):=⟨od⟩
theorem T49:bC al 49 1 false:=⟨by kernel_rfl,_,od,rfl⟩
instance:TI al 49 1 false:=⟨T49⟩
theorem qF:bC al 51 4 true:=⟨by kernel_rfl,_,aot,rfl⟩
theorem B51:mg al 51 64:=⟨awG,by kernel_rfl,rfl⟩
theorem Z51:dj al 51 (.agg [.v (.slice none 0 0),.v (.slice none 0 0),.v (.int .i64 0),.v (.int .i64 0)]):=⟨awG,_,by kernel_rfl,rfl,rfl,fun _ _ _=>fa (bB (c1:=[.slice none 0 0]) rfl (gh rfl) (bB (c1:=[.slice none 0 0]) rfl (gh rfl) (bB (c1:=[.int .i64 0]) rfl (gh rfl) (bB (c1:=[.int .i64 0]) rfl (gh rfl) (eX)))))⟩
instance:TI al 51 4 true:=⟨qF⟩
instance:ZI al 51 (.agg [.v (.slice none 0 0),.v (.slice none 0 0),.v (.int .i64 0),.v (.int .i64 0)]):=⟨Z51⟩
theorem azw:lS al 51 [(1,false),(1,false),(1,false),(1,false)]:=⟨_,aot,⟨rfl,T49,⟨rfl,T49,⟨rfl,T3,⟨rfl,T3,trivial⟩⟩⟩⟩,by decide⟩
instance:SI al 51 [(1,false),(1,false),(1,false),(1,false)]:=⟨azw⟩
theorem nm:bC al 54 6 true:=⟨by kernel_rfl,_,auX,rfl⟩
theorem B54:mg al 54 112:=⟨atW,by kernel_rfl,rfl⟩
theorem Z54:dj al 54 (.agg [ah 0,ah 0]):=⟨atW,_,by kernel_rfl,rfl,by simp [LV.pure,aN,ar.pure],fun _ _ _=>fa (bB (c1:=[.bool false,.slice none 0 0,.slice none 0 0]) cI (dz) (bB (c1:=[.bool false,.slice none 0 0,.slice none 0 0]) cI (dz) (eX)))⟩
instance:TI al 54 6 true:=⟨nm⟩
instance:ZI al 54 (.agg [ah 0,ah 0]):=⟨Z54⟩
theorem apm:lS al 54 [(3,true),(3,true)]:=⟨_,auX,⟨rfl,cZ,⟨rfl,cZ,trivial⟩⟩,by decide⟩
instance:SI al 54 [(3,true),(3,true)]:=⟨apm⟩
instance:UN al 66 (.array 3 40):=⟨atz⟩
theorem T66:bC al 66 27 true:=⟨by kernel_rfl,_,atz,rfl⟩
theorem Z66:dj al 66 (.agg [.agg [ah 0,ah 0,ah 0],.agg [ah 0,ah 0,ah 0],.agg [ah 0,ah 0,ah 0]]):=⟨Tryz.t66,_,by kernel_rfl,rfl,by simp [LV.pure,aN,ar.pure],fun _ _ _=>fa (bB (c1:=[.bool false,.slice none 0 0,.slice none 0 0,.bool false,.slice none 0 0,.slice none 0 0,.bool false,.slice none 0 0,.slice none 0 0]) cI (fa (bB (c1:=[.bool false,.slice none 0 0,.slice none 0 0]) cI (dz) (bB (c1:=[.bool false,.slice none 0 0,.slice none 0 0]) cI (dz) (bB (c1:=[.bool false,.slice none 0 0,.slice none 0 0]) cI (dz) (eX))))) (bB (c1:=[.bool false,.slice none 0 0,.slice none 0 0,.bool false,.slice none 0 0,.slice none 0 0,.bool false,.slice none 0 0,.slice none 0 0]) cI (fa (bB (c1:=[.bool false,.slice none 0 0,.slice none 0 0]) cI (dz) (bB (c1:=[.bool false,.slice none 0 0,.slice none 0 0]) cI (dz) (bB (c1:=[.bool false,.slice none 0 0,.slice none 0 0]) cI (dz) (eX))))) (bB (c1:=[.bool false,.slice none 0 0,.slice none 0 0,.bool false,.slice none 0 0,.slice none 0 0,.bool false,.slice none 0 0,.slice none 0 0]) cI (fa (bB (c1:=[.bool false,.slice none 0 0,.slice none 0 0]) cI (dz) (bB (c1:=[.bool false,.slice none 0 0,.slice none 0 0]) cI (dz) (bB (c1:=[.bool false,.slice none 0 0,.slice none 0 0]) cI (dz) (eX))))) (eX))))⟩
instance:TI al 66 27 true:=⟨T66⟩
theorem ym:bC al 68 36 true:=⟨by kernel_rfl,_,ax4,rfl⟩
theorem Z68:dj al 68 (.agg [.agg [.agg [ah 0,ah 0,ah 0],.agg [ah 0,ah 0,ah 0],.agg [ah 0,ah 0,ah 0]],.agg [ah 0,ah 0,ah 0]]):=⟨Tryz.t68,_,by kernel_rfl,rfl,by simp [LV.pure,aN,ar.pure],fun _ _ _=>fa (bB (c1:=[.bool false,.slice none 0 0,.slice none 0 0,.bool false,.slice none 0 0,.slice none 0 0,.bool false,.slice none 0 0,.slice none 0 0,.bool false,.slice none 0 0,.slice none 0 0,.bool false,.slice none 0 0,.slice none 0 0,.bool false,.slice none 0 0,.slice none 0 0,.bool false,.slice none 0 0,.slice none 0 0,.bool false,.slice none 0 0,.slice none 0 0,.bool false,.slice none 0 0,.slice none 0 0]) cI (fa (bB (c1:=[.bool false,.slice none 0 0,.slice none 0 0,.bool false,.slice none 0 0,.slice none 0 0,.bool false,.slice none 0 0,.slice none 0 0]) cI (fa (bB (c1:=[.bool false,.slice none 0 0,.slice none 0 0]) cI (dz) (bB (c1:=[.bool false,.slice none 0 0,.slice none 0 0]) cI (dz) (bB (c1:=[.bool false,.slice none 0 0,.slice none 0 0]) cI (dz) (eX))))) (bB (c1:=[.bool false,.slice none 0 0,.slice none 0 0,.bool false,.slice none 0 0,.slice none 0 0,.bool false,.slice none 0 0,.slice none 0 0]) cI (fa (bB (c1:=[.bool false,.slice none 0 0,.slice none 0 0]) cI (dz) (bB (c1:=[.bool false,.slice none 0 0,.slice none 0 0]) cI (dz) (bB (c1:=[.bool false,.slice none 0 0,.slice none 0 0]) cI (dz) (eX))))) (bB (c1:=[.bool false,.slice none 0 0,.slice none 0 0,.bool false,.slice none 0 0,.slice none 0 0,.bool false,.slice none 0 0,.slice none 0 0]) cI (fa (bB (c1:=[.bool false,.slice none 0 0,.slice none 0 0]) cI (dz) (bB (c1:=[.bool false,.slice none 0 0,.slice none 0 0]) cI (dz) (bB (c1:=[.bool false,.slice none 0 0,.slice none 0 0]) cI (dz) (eX))))) (eX))))) (bB (c1:=[.bool false,.slice none 0 0,.slice none 0 0,.bool false,.slice none 0 0,.slice none 0 0,.bool false,.slice none 0 0,.slice none 0 0]) cI (fa (bB (c1:=[.bool false,.slice none 0 0,.slice none 0 0]) cI (dz) (bB (c1:=[.bool false,.slice none 0 0,.slice none 0 0]) cI (dz) (bB (c1:=[.bool false,.slice none 0 0,.slice none 0 0]) cI (dz) (eX))))) (eX)))⟩
instance:TI al 68 36 true:=⟨ym⟩
theorem aDx:lS al 68 [(27,true),(9,true)]:=⟨_,ax4,⟨rfl,T66,⟨rfl,ju,trivial⟩⟩,by decide⟩
instance:SI al 68 [(27,true),(9,true)]:=⟨aDx⟩
theorem Z83:dj al 83 (.agg [.agg [.v (.int .i64 0),.v (.slice none 0 0),.v (.slice none 0 0)],.agg [.v (.int .i64 0),.v (.slice none 0 0),.v (.slice none 0 0)]]):=⟨Tryz.t83,_,by kernel_rfl,rfl,rfl,fun _ _ _=>fa (bB (c1:=[.int .i64 0,.slice none 0 0,.slice none 0 0]) rfl (fa (bB (c1:=[.int .i64 0]) rfl (gh rfl) (bB (c1:=[.slice none 0 0]) rfl (gh rfl) (bB (c1:=[.slice none 0 0]) rfl (gh rfl) (eX))))) (bB (c1:=[.int .i64 0,.slice none 0 0,.slice none 0 0]) rfl (fa (bB (c1:=[.int .i64 0]) rfl (gh rfl) (bB (c1:=[.slice none 0 0]) rfl (gh rfl) (bB (c1:=[.slice none 0 0]) rfl (gh rfl) (eX))))) (eX)))⟩
theorem Z87:dj al 87 (.agg [.agg [.v (.int .i64 0),.v (.int .i64 0),ah 0],.v (.slice none 0 0),.v (.int .i64 0)]):=⟨Tryz.t87,_,by kernel_rfl,rfl,by simp [LV.pure,aN,ar.pure],fun _ _ _=>fa (bB (c1:=[.int .i64 0,.int .i64 0,.bool false,.slice none 0 0,.slice none 0 0]) cI (fa (bB (c1:=[.int .i64 0]) rfl (gh rfl) (bB (c1:=[.int .i64 0]) rfl (gh rfl) (bB (c1:=[.bool false,.slice none 0 0,.slice none 0 0]) cI (dz) (eX))))) (bB (c1:=[.slice none 0 0]) rfl (gh rfl) (bB (c1:=[.int .i64 0]) rfl (gh rfl) (eX))))⟩
theorem atm:lS al 87 [(5,true),(1,false),(1,false)]:=⟨_,Tryz.underlying87,⟨rfl,T35,⟨rfl,T43,⟨rfl,T3,trivial⟩⟩⟩,by decide⟩
instance:SI al 87 [(5,true),(1,false),(1,false)]:=⟨atm⟩
instance:UN al 88 (.slice 28):=⟨Tryz.underlying88⟩
theorem T92:bC al 92 3 true:=⟨by kernel_rfl,_,awL,rfl⟩
theorem Z92:dj al 92 (.agg [.v (.bool false),.v (.int .i64 0),.v (.int .i64 0)]):=⟨Tryz.t92,_,by kernel_rfl,rfl,rfl,fun _ _ _=>fa (bB (c1:=[.bool false]) rfl (gh rfl) (bB (c1:=[.int .i64 0]) rfl (gh rfl) (bB (c1:=[.int .i64 0]) rfl (gh rfl) (eX))))⟩
instance:TI al 92 3 true:=⟨T92⟩
instance:ZI al 92 (.agg [.v (.bool false),.v (.int .i64 0),.v (.int .i64 0)]):=⟨Z92⟩
theorem aEP:lS al 92 [(1,false),(1,false),(1,false)]:=⟨_,awL,⟨rfl,T4,⟨rfl,T3,⟨rfl,T3,trivial⟩⟩⟩,by decide⟩
instance:SI al 92 [(1,false),(1,false),(1,false)]:=⟨aEP⟩
instance:UN al 97 (.array 3 54):=⟨avd⟩
theorem T97:bC al 97 18 true:=⟨by kernel_rfl,_,avd,rfl⟩
theorem Z97:dj al 97 (.agg [.agg [ah 0,ah 0],.agg [ah 0,ah 0],.agg [ah 0,ah 0]]):=⟨Tryz.t97,_,by kernel_rfl,rfl,by simp [LV.pure,aN,ar.pure],fun _ _ _=>fa (bB (c1:=[.bool false,.slice none 0 0,.slice none 0 0,.bool false,.slice none 0 0,.slice none 0 0]) cI (fa (bB (c1:=[.bool false,.slice none 0 0,.slice none 0 0]) cI (dz) (bB (c1:=[.bool false,.slice none 0 0,.slice none 0 0]) cI (dz) (eX)))) (bB (c1:=[.bool false,.slice none 0 0,.slice none 0 0,.bool false,.slice none 0 0,.slice none 0 0]) cI (fa (bB (c1:=[.bool false,.slice none 0 0,.slice none 0 0]) cI (dz) (bB (c1:=[.bool false,.slice none 0 0,.slice none 0 0]) cI (dz) (eX)))) (bB (c1:=[.bool false,.slice none 0 0,.slice none 0 0,.bool false,.slice none 0 0,.slice none 0 0]) cI (fa (bB (c1:=[.bool false,.slice none 0 0,.slice none 0 0]) cI (dz) (bB (c1:=[.bool false,.slice none 0 0,.slice none 0 0]) cI (dz) (eX)))) (eX))))⟩
instance:TI al 97 18 true:=⟨T97⟩
instance:ZI al 97 (.agg [.agg [ah 0,ah 0],.agg [ah 0,ah 0],.agg [ah 0,ah 0]]):=⟨Z97⟩
instance:UN al 116 (.array 4 31):=⟨asw⟩
theorem anX:bC al 116 12 true:=⟨by kernel_rfl,_,asw,rfl⟩
theorem aEK:dj al 116 (.agg [ah 0,ah 0,ah 0,ah 0]):=⟨Tryz.t116,_,by kernel_rfl,rfl,by simp [LV.pure,aN,ar.pure],fun _ _ _=>fa (bB (c1:=[.bool false,.slice none 0 0,.slice none 0 0]) cI (dz) (bB (c1:=[.bool false,.slice none 0 0,.slice none 0 0]) cI (dz) (bB (c1:=[.bool false,.slice none 0 0,.slice none 0 0]) cI (dz) (bB (c1:=[.bool false,.slice none 0 0,.slice none 0 0]) cI (dz) (eX)))))⟩
instance:TI al 116 12 true:=⟨anX⟩
instance:ZI al 116 (.agg [ah 0,ah 0,ah 0,ah 0]):=⟨aEK⟩
theorem aB2:dj al 120 (.agg [.v (.slice none 0 0),.v (.int .i64 0)]):=⟨Tryz.t120,_,by kernel_rfl,rfl,rfl,fun _ _ _=>fa (bB (c1:=[.slice none 0 0]) rfl (gh rfl) (bB (c1:=[.int .i64 0]) rfl (gh rfl) (eX)))⟩
theorem apz:lS al 120 [(1,false),(1,false)]:=⟨_,Tryz.underlying120,⟨rfl,T22,⟨rfl,T3,trivial⟩⟩,by decide⟩
instance:SI al 120 [(1,false),(1,false)]:=⟨apz⟩
instance:UN al 123 (.slice 2):=⟨Tryz.underlying123⟩
instance:UN al 134 (.int .u64):=⟨aji⟩
instance:UN al 137 (.slice 159):=⟨zt⟩
theorem avw:bC al 137 1 false:=⟨by kernel_rfl,_,zt,rfl⟩
instance:TI al 137 1 false:=⟨avw⟩
theorem agA:bC al 139 3 true:=⟨by kernel_rfl,_,av0,rfl⟩
theorem aF7:dj al 139 (.agg [.v (.int .i64 0),.v (.slice none 0 0),.v (.slice none 0 0)]):=⟨Tryz.t139,_,by kernel_rfl,rfl,rfl,fun _ _ _=>fa (bB (c1:=[.int .i64 0]) rfl (gh rfl) (bB (c1:=[.slice none 0 0]) rfl (gh rfl) (bB (c1:=[.slice none 0 0]) rfl (gh rfl) (eX))))⟩
instance:TI al 139 3 true:=⟨agA⟩
instance:ZI al 139 (.agg [.v (.int .i64 0),.v (.slice none 0 0),.v (.slice none 0 0)]):=⟨aF7⟩
theorem aFW:lS al 139 [(1,false),(1,false),(1,false)]:=⟨_,av0,⟨rfl,T3,⟨rfl,T25,⟨rfl,avw,trivial⟩⟩⟩,by decide⟩
instance:SI al 139 [(1,false),(1,false),(1,false)]:=⟨aFW⟩
theorem yJ:bC al 147 3 true:=⟨by kernel_rfl,_,auK,rfl⟩
theorem ayu:mg al 147 56:=⟨ath,by kernel_rfl,rfl⟩
theorem azz:dj al 147 (.agg [.v (.slice none 0 0),.v (.int .i64 0),.v (.slice none 0 0)]):=⟨ath,_,by kernel_rfl,rfl,rfl,fun _ _ _=>fa (bB (c1:=[.slice none 0 0]) rfl (gh rfl) (bB (c1:=[.int .i64 0]) rfl (gh rfl) (bB (c1:=[.slice none 0 0]) rfl (gh rfl) (eX))))⟩
instance:TI al 147 3 true:=⟨yJ⟩
instance:ZI al 147 (.agg [.v (.slice none 0 0),.v (.int .i64 0),.v (.slice none 0 0)]):=⟨azz⟩
theorem aGF:lS al 147 [(1,false),(1,false),(1,false)]:=⟨_,auK,⟨rfl,T49,⟨rfl,T3,⟨rfl,T22,trivial⟩⟩⟩,by decide⟩
instance:SI al 147 [(1,false),(1,false),(1,false)]:=⟨aGF⟩
instance:UN al 148 (.slice 147):=⟨Tryz.underlying148⟩
instance:UN al 155 (.slice 31):=⟨rR⟩
theorem aBn:bC al 155 1 false:=⟨by kernel_rfl,_,rR,rfl⟩
instance:TI al 155 1 false:=⟨aBn⟩
instance:UN al 156 (.array 4 155):=⟨auC⟩
theorem avS:bC al 156 4 true:=⟨by kernel_rfl,_,auC,rfl⟩
theorem aHj:dj al 156 (.agg [.v (.slice none 0 0),.v (.slice none 0 0),.v (.slice none 0 0),.v (.slice none 0 0)]):=⟨Tryz.t156,_,by kernel_rfl,rfl,rfl,fun _ _ _=>fa (bB (c1:=[.slice none 0 0]) rfl (gh rfl) (bB (c1:=[.slice none 0 0]) rfl (gh rfl) (bB (c1:=[.slice none 0 0]) rfl (gh rfl) (bB (c1:=[.slice none 0 0]) rfl (gh rfl) (eX)))))⟩
instance:TI al 156 4 true:=⟨avS⟩
instance:ZI al 156 (.agg [.v (.slice none 0 0),.v (.slice none 0 0),.v (.slice none 0 0),.v (.slice none 0 0)]):=⟨aHj⟩
instance:UN al 159 (.array 4 31):=⟨aqw⟩
theorem aa8:bC al 159 12 true:=⟨by kernel_rfl,_,aqw,rfl⟩
theorem aye:mg al 159 224:=⟨arL,by kernel_rfl,rfl⟩
theorem aiW:dj al 159 (.agg [ah 0,ah 0,ah 0,ah 0]):=⟨arL,_,by kernel_rfl,rfl,by simp [LV.pure,aN,ar.pure],fun _ _ _=>fa (bB (c1:=[.bool false,.slice none 0 0,.slice none 0 0]) cI (dz) (bB (c1:=[.bool false,.slice none 0 0,.slice none 0 0]) cI (dz) (bB (c1:=[.bool false,.slice none 0 0,.slice none 0 0]) cI (dz) (bB (c1:=[.bool false,.slice none 0 0,.slice none 0 0]) cI (dz) (eX)))))⟩
instance:TI al 159 12 true:=⟨aa8⟩
instance:ZI al 159 (.agg [ah 0,ah 0,ah 0,ah 0]):=⟨aiW⟩
instance:UN al 165 (.slice 40):=⟨v9⟩
theorem ama:bC al 165 1 false:=⟨by kernel_rfl,_,v9,rfl⟩
instance:TI al 165 1 false:=⟨ama⟩
instance:UN al 169 (.array 2 54):=⟨aeI⟩
theorem asG:bC al 169 12 true:=⟨by kernel_rfl,_,aeI,rfl⟩
theorem auA:dj al 169 (.agg [.agg [ah 0,ah 0],.agg [ah 0,ah 0]]):=⟨Tryz.t169,_,by kernel_rfl,rfl,by simp [LV.pure,aN,ar.pure],fun _ _ _=>fa (bB (c1:=[.bool false,.slice none 0 0,.slice none 0 0,.bool false,.slice none 0 0,.slice none 0 0]) cI (fa (bB (c1:=[.bool false,.slice none 0 0,.slice none 0 0]) cI (dz) (bB (c1:=[.bool false,.slice none 0 0,.slice none 0 0]) cI (dz) (eX)))) (bB (c1:=[.bool false,.slice none 0 0,.slice none 0 0,.bool false,.slice none 0 0,.slice none 0 0]) cI (fa (bB (c1:=[.bool false,.slice none 0 0,.slice none 0 0]) cI (dz) (bB (c1:=[.bool false,.slice none 0 0,.slice none 0 0]) cI (dz) (eX)))) (eX)))⟩
instance:TI al 169 12 true:=⟨asG⟩
instance:UN al 170 (.array 2 169):=⟨Tryz.underlying170⟩
theorem aBl:dj al 170 (.agg [.agg [.agg [ah 0,ah 0],.agg [ah 0,ah 0]],.agg [.agg [ah 0,ah 0],.agg [ah 0,ah 0]]]):=⟨Tryz.t170,_,by kernel_rfl,rfl,by simp [LV.pure,aN,ar.pure],fun _ _ _=>fa (bB (c1:=[.bool false,.slice none 0 0,.slice none 0 0,.bool false,.slice none 0 0,.slice none 0 0,.bool false,.slice none 0 0,.slice none 0 0,.bool false,.slice none 0 0,.slice none 0 0]) cI (fa (bB (c1:=[.bool false,.slice none 0 0,.slice none 0 0,.bool false,.slice none 0 0,.slice none 0 0]) cI (fa (bB (c1:=[.bool false,.slice none 0 0,.slice none 0 0]) cI (dz) (bB (c1:=[.bool false,.slice none 0 0,.slice none 0 0]) cI (dz) (eX)))) (bB (c1:=[.bool false,.slice none 0 0,.slice none 0 0,.bool false,.slice none 0 0,.slice none 0 0]) cI (fa (bB (c1:=[.bool false,.slice none 0 0,.slice none 0 0]) cI (dz) (bB (c1:=[.bool false,.slice none 0 0,.slice none 0 0]) cI (dz) (eX)))) (eX)))) (bB (c1:=[.bool false,.slice none 0 0,.slice none 0 0,.bool false,.slice none 0 0,.slice none 0 0,.bool false,.slice none 0 0,.slice none 0 0,.bool false,.slice none 0 0,.slice none 0 0]) cI (fa (bB (c1:=[.bool false,.slice none 0 0,.slice none 0 0,.bool false,.slice none 0 0,.slice none 0 0]) cI (fa (bB (c1:=[.bool false,.slice none 0 0,.slice none 0 0]) cI (dz) (bB (c1:=[.bool false,.slice none 0 0,.slice none 0 0]) cI (dz) (eX)))) (bB (c1:=[.bool false,.slice none 0 0,.slice none 0 0,.bool false,.slice none 0 0,.slice none 0 0]) cI (fa (bB (c1:=[.bool false,.slice none 0 0,.slice none 0 0]) cI (dz) (bB (c1:=[.bool false,.slice none 0 0,.slice none 0 0]) cI (dz) (eX)))) (eX)))) (eX)))⟩
theorem aAZ:bC al 181 2 true:=⟨by kernel_rfl,_,aws,rfl⟩
theorem aID:dj al 181 (.agg [.v (.slice none 0 0),.v (.slice none 0 0)]):=⟨Tryz.t181,_,by kernel_rfl,rfl,rfl,fun _ _ _=>fa (bB (c1:=[.slice none 0 0]) rfl (gh rfl) (bB (c1:=[.slice none 0 0]) rfl (gh rfl) (eX)))⟩
instance:TI al 181 2 true:=⟨aAZ⟩
instance:ZI al 181 (.agg [.v (.slice none 0 0),.v (.slice none 0 0)]):=⟨aID⟩
theorem aB5:lS al 181 [(1,false),(1,false)]:=⟨_,aws,⟨rfl,ama,⟨rfl,ama,trivial⟩⟩,by decide⟩
instance:SI al 181 [(1,false),(1,false)]:=⟨aB5⟩
instance:UN al 202 (.int .u32):=⟨ave⟩
theorem sa:bC al 202 1 false:=⟨by kernel_rfl,_,ave,rfl⟩
theorem acq:mg al 202 4:=⟨awJ,by kernel_rfl,rfl⟩
theorem abY:dj al 202 (.v (.int .u32 0)):=⟨awJ,_,by kernel_rfl,rfl,rfl,fun _ _ _=>gh rfl⟩
instance:TI al 202 1 false:=⟨sa⟩
instance:BI al 202 4:=⟨acq⟩
instance:UN al 212 (.array 2 31):=⟨aue⟩
theorem aGP:bC al 212 6 true:=⟨by kernel_rfl,_,aue,rfl⟩
theorem aGO:dj al 212 (.agg [ah 0,ah 0]):=⟨Tryz.t212,_,by kernel_rfl,rfl,by simp [LV.pure,aN,ar.pure],fun _ _ _=>fa (bB (c1:=[.bool false,.slice none 0 0,.slice none 0 0]) cI (dz) (bB (c1:=[.bool false,.slice none 0 0,.slice none 0 0]) cI (dz) (eX)))⟩
instance:TI al 212 6 true:=⟨aGP⟩
instance:ZI al 212 (.agg [ah 0,ah 0]):=⟨aGO⟩
instance:UN al 230 (.array 3 155):=⟨arX⟩
theorem aqq:bC al 230 3 true:=⟨by kernel_rfl,_,arX,rfl⟩
theorem az5:dj al 230 (.agg [.v (.slice none 0 0),.v (.slice none 0 0),.v (.slice none 0 0)]):=⟨Tryz.t230,_,by kernel_rfl,rfl,rfl,fun _ _ _=>fa (bB (c1:=[.slice none 0 0]) rfl (gh rfl) (bB (c1:=[.slice none 0 0]) rfl (gh rfl) (bB (c1:=[.slice none 0 0]) rfl (gh rfl) (eX))))⟩
instance:TI al 230 3 true:=⟨aqq⟩
instance:ZI al 230 (.agg [.v (.slice none 0 0),.v (.slice none 0 0),.v (.slice none 0 0)]):=⟨az5⟩
instance:UN al 261 (.array 3 212):=⟨Tryz.underlying261⟩
theorem aAq:dj al 261 (.agg [.agg [ah 0,ah 0],.agg [ah 0,ah 0],.agg [ah 0,ah 0]]):=⟨Tryz.t261,_,by kernel_rfl,rfl,by simp [LV.pure,aN,ar.pure],fun _ _ _=>fa (bB (c1:=[.bool false,.slice none 0 0,.slice none 0 0,.bool false,.slice none 0 0,.slice none 0 0]) cI (fa (bB (c1:=[.bool false,.slice none 0 0,.slice none 0 0]) cI (dz) (bB (c1:=[.bool false,.slice none 0 0,.slice none 0 0]) cI (dz) (eX)))) (bB (c1:=[.bool false,.slice none 0 0,.slice none 0 0,.bool false,.slice none 0 0,.slice none 0 0]) cI (fa (bB (c1:=[.bool false,.slice none 0 0,.slice none 0 0]) cI (dz) (bB (c1:=[.bool false,.slice none 0 0,.slice none 0 0]) cI (dz) (eX)))) (bB (c1:=[.bool false,.slice none 0 0,.slice none 0 0,.bool false,.slice none 0 0,.slice none 0 0]) cI (fa (bB (c1:=[.bool false,.slice none 0 0,.slice none 0 0]) cI (dz) (bB (c1:=[.bool false,.slice none 0 0,.slice none 0 0]) cI (dz) (eX)))) (eX))))⟩
instance:ZI al 261 (.agg [.agg [ah 0,ah 0],.agg [ah 0,ah 0],.agg [ah 0,ah 0]]):=⟨aAq⟩
theorem abr:dj al 54 (aH (0,0)):=by rw [yn];exact Z54
instance:EC al 2 fR 1 false 0:=⟨oS,Z2,T2⟩
instance:EC al 3 fR 1 false 0:=⟨oS,Z3,T3⟩
instance:EC al 31 ah 3 true 0:=⟨ar,Z31,cZ⟩
instance:EC al 40 a6 9 true ⟨0,0,0⟩:=⟨bo,Z40,ju⟩
instance:EC al 42 aW 12 true ⟨⟨0,0,0⟩,0⟩:=⟨bH,Z42,tW⟩
instance:EC al 54 aH 6 true (0,0):=⟨cg,abr,nm⟩
instance:AE al 54 aH 6 true (0,0):=⟨cg,abr⟩
instance:EC al 202 bu 1 false 0:=⟨fZ,abY,sa⟩
section
variable {f:FuncId} {fn:Func} {c:Code} {args:List LV} {r:LV}
theorem aS (hf:al.funcs[f]?=some fn)
  (h:cP al c (fun e L=>match e with | .exit _=>False | _=>pn al fn.results.toList L r []) (St.mk (fun t=>args.getD t .any) (hp [])))
  (hb:fn.body=some c:=by exact rfl) (hn:(fn.name== "runtime.NumGoroutine")=false:=by decide +kernel) (hd:lf fn.ntmps c=true:=by decide +kernel) (hlen:args.length<=fn.ntmps:=by exact Nat.le_of_ble_eq_true rfl) (ht:∀ g,r.bV g=r:=by exact tm0):ax al f args r:=aH9 fol hf hb hn hd hlen ht h
theorem fnO {bs:List bh} (hf:al.funcs[f]?=some fn)
  (h:cP al c (fun e L=>match e with | .exit _=>False | _=>pn al fn.results.toList L r bs) (St.mk (fun t=>args.getD t .any) (hp [])))
  (hb:fn.body=some c:=by exact rfl) (hn:(fn.name== "runtime.NumGoroutine")=false:=by decide +kernel) (hd:lf fn.ntmps c=true:=by decide +kernel) (hlen:args.length<=fn.ntmps:=by exact Nat.le_of_ble_eq_true rfl):o6 al f args r bs:=aCm fol hf hb hn hd hlen h
theorem xn {blk blk':bh} (hf:al.funcs[f]?=some fn)
  (h:cP al c (fun e L=>match e with | .exit _=>False | _=>yQ al fn.results.toList L r blk') (St.mk (fun t=>args.getD t .any) (hp [(0,blk)])))
  (hb:fn.body=some c:=by exact rfl) (hn:(fn.name== "runtime.NumGoroutine")=false:=by decide +kernel) (hd:lf fn.ntmps c=true:=by decide +kernel) (hlen:args.length<=fn.ntmps:=by exact Nat.le_of_ble_eq_true rfl) (fj:blk.mt=true:=by exact rfl):nc al f blk args r blk':=aBf fol hf hb hn hd hlen fj h
end
end Go.Proofs.YtckppbhafancnaaGreat
end
section
set_option linter.unusedVariables false
set_option linter.unusedSimpArgs false
namespace Go.Proofs.YtckppbhafancnaaGreat
open Go.Lg
section
variable {f:FuncId} {fn:Func} {c:Code} {args:List LV} {r:LV}
theorem fnC {blk c1 blk':bh} {bs:List bh} (hf:al.funcs[f]?=some fn)
  (h:cP al c (fun e L=>match e with | .exit _=>False | _=>al0 al fn.results.toList L r blk' bs) (St.mk (fun t=>args.getD t .any) (hp [(0,blk),(1,c1)])))
  (hb:fn.body=some c:=by exact rfl) (hn:(fn.name== "runtime.NumGoroutine")=false:=by decide +kernel) (hd:lf fn.ntmps c=true:=by decide +kernel) (hlen:args.length<=fn.ntmps:=by exact Nat.le_of_ble_eq_true rfl) (fj:blk.mt=true:=by exact rfl) (adl:c1.mt=true:=by exact rfl):aaE al f blk c1 args r blk' bs:=aFO fol hf hb hn hd hlen fj adl h
end
end Go.Proofs.YtckppbhafancnaaGreat
end
section
set_option linter.unusedVariables false
set_option linter.unusedSimpArgs false
set_option maxHeartbeats 8000000
set_option maxRecDepth 100000
attribute [local irreducible] Go.Lg.opsL Go.Lg.cP Go.Lg.px Go.Lg.ss
namespace Go.Proofs.YtckppbhafancnaaGreat
open Go.Lg
namespace auh
theorem wo {p q:Prop} (k:q) (e:p=q:=by simp only [e1,e2,e3,e4,p1,p2,p3,q1,q2,q3,l1,t0,t1,r1,r2,r3,r4,Nat.zero_add,Nat.reduceMul,Nat.reduceAdd,b1,b2,b3,b4,b5,b6,i1,i2,i3,i4,i5,i6,Nat.reduceBEq,ej,ek];exact rfl):p:=e.mpr k
theorem tN {p:Prop} (h:p:=by first | (refine wo ?_;exact rfl) | exact rfl):p:=h
theorem ame {p q:Prop} (k:q) (e:p=q:=by simp only [e1,e2,e3,e4,p1,p2,p3,q1,q2,q3,l1,t0,t1,r1,r2,r3,r4,Nat.zero_add,Nat.reduceMul,Nat.reduceAdd,b1,b2,b3,b4,b5,b6,i1,i2,i3,i4,i5,i6,Nat.reduceBEq,ek];exact rfl):p:=e.mpr k
theorem nf2 {p:Prop} (h:p:=by first | (refine ame ?_;exact rfl) | exact rfl):p:=h
end auh
open auh H0 in
theorem as3 (l:List Nat) (hl:l.length<=4611686018427387904):ax al 149 [eZ l] (eZ (xS l)):=by
 unfold eZ xS
 refine aS auE ?_
 refine dH ?_
 refine dU (fun(k:Nat) L=>(((St.mk L.slot (hp [])).put (some 0) (.list 1 (l.map bu))).put (some 3) (ai k))) (fun k=>k<=l.length/\jt l.length l=jt k l) (fun k=>k) l.length ⟨bp _,rfl⟩ ?_
 rintro k L1 ⟨hk,wX⟩
 refine aD ?_
 refine dg 8 rfl ?_ ?_<;>intro pa h8
 ·obtain⟨j,rfl⟩:∃ j,k=j+1:=⟨k-1,ae⟩
  have ej:(((j+1:Nat):Int)-1).toNat=j:=by omega
  have ek:(((j+1:Nat):Int)-1)=j:=by omega
  refine aY ?_
  refine tx tN ?_
  refine av ?_
  refine aF rfl ?_ ?_<;>intro pR mT
  ·refine aY ?_
   refine tx nf2 ?_
   refine aP ?_
   exact iD j ⟨ae,wX.trans (by simp only [jt];rw [if_pos (by simpa using mT)])⟩
  ·refine bE ?_
   refine ao rfl ady ?_
   refine aA ?_
   rw [wX,jt,if_neg (by simpa using mT)]
   exact dT rfl (.pure (fh fZ _ _))
 ·have kZ:k=0:=by omega
  subst kZ
  have ej:True:=trivial
  have ek:True:=trivial
  refine aY ?_
  refine tx tN ?_
  refine bD ?_
  refine ao rfl ady ?_
  refine aA ?_
  rw [wX]
  exact dT rfl (.pure (fh fZ _ _))
namespace acM
theorem aM {p q:Prop} (k:q) (e:p=q:=by simp only [e1,e2,e3,e4,p1,p2,p3,q1,q2,q3,l1,t0,t1,r1,r2,r3,r4,Nat.zero_add,Nat.reduceMul,Nat.reduceAdd,b1,b2,b3,b4,b5,b6,i1,i2,i3,i4,i5,i6,Nat.reduceBEq,fW];exact rfl):p:=e.mpr k
end acM
open acM in
theorem akT (a b:List Nat) (ha:bX a) (hb:bX b) (fQ:a.length<=1099511627776) (l7:b.length<=1099511627776):ax al 248 [eZ a,eZ b] (bl (val a+val b)):=by
 unfold eZ bl
 refine aS Tryz.func248 ?_
 refine iI ?_
 refine gY (fun L=>∃ (x:List Nat) (y:List Nat) (L1:St),(bX x/\bX y/\x.length<=1099511627776/\y.length<=x.length/\val a+val b=val x+val y)/\L=(((St.mk L1.slot (hp [])).put (some 0) (.list 1 (x.map bu))).put (some 1) (.list 1 (y.map bu)))) ?_ ?_
 ·refine aF rfl ?_ ?_<;>intro ahp h13
  ·refine aY ?_
   exact⟨b,a,_,⟨hb,ha,l7,ae,pM _ _⟩,((aj (aj (bG cl) cl) cl)).symm⟩
  ·refine aP ?_
   exact⟨a,b,_,⟨ha,hb,fQ,ae,rfl⟩,((aj (aj (bG cl) cl) cl)).symm⟩
 ·rintro _ ⟨x,y,aJW,⟨hx,hy,hlx,hyx,wh⟩,rfl⟩
  rw [wh]
  refine aD ?_
  refine fG rfl rfl (.mw (n:=x.length+1) (m:=x.length+1) ml ml om om om) ?_
  refine jw ?_
  refine tV (fun(k:Nat) (o:List Nat) (c:Nat) L=>((((((((St.mk L.slot (hp [(19,⟨1,o.map bu,true⟩)])).put (some 0) (.list 1 (x.map bu))).put (some 1) (.list 1 (y.map bu))).put (some 5) (.ref 19 1 0 (x.length+1))).put (some 6) (cQ c)).put (some 20) (.list 1 (x.map bu))).put (some 21) (ai x.length)).put (some 22) (ai k))) (fun k o c=>k<=x.length/\o.length=x.length+1/\c<=1/\bX o/\val (o.take k)+4294967296 ^ k*c=val (x.take k)+val (y.take k)) (fun k o c=>x.length-k) 0 (ay (x.length+1) 0) 0 ⟨b8 _,by simp,ae,vN _,by simp [val]⟩ ?_
  rintro k o c L1 ⟨hk,c9,hc,cd,hv⟩
  have ue:=jc hx k
  have hyk:=jc hy k
  refine aD ?_
  refine aF rfl ?_ ?_<;>intro td rD
  ·refine au6 ?_
   refine aF rfl ?_ ?_<;>intro aif h34
   ·refine ayr ?_
    exact tD (k+1) (o.set k ((c+x.getD k 0+y.getD k 0) % 4294967296)) ((c+x.getD k 0+y.getD k 0)/4294967296) ⟨ae,by simp [c9],ae,mO cd _ _ (lZ _ ae),aqc ae hv rfl⟩
   ·refine aaw ?_
    exact tD (k+1) (o.set k ((c+x.getD k 0) % 4294967296)) ((c+x.getD k 0)/4294967296) ⟨ae,by simp [c9],ae,mO cd _ _ (lZ _ ae),aqc ae hv (by rw [uR y k ae];rfl)⟩
  ·obtain rfl:k=x.length:=by omega
   refine o4 ?_
   refine sP [19] sR (as3 _ tE) ?_
   refine aA ?_
   rw [<-azp (c:=c % 4294967296) hyx c9 cd ae (by rw [iF ae];exact hv)]
   exact dT rfl (.pure (zf _))
theorem rK (l:List Nat) (h:bX l) (hl:l.length<=4611686018427387904):ax al 149 [eZ l] (bl (val l)):=by
 have:=as3 l hl
 rwa [vC h] at this
namespace af1
theorem aM {p q:Prop} (k:q) (e:p=q:=by simp only [e1,e2,e3,e4,p1,p2,p3,q1,q2,q3,l1,t0,t1,r1,r2,r3,r4,Nat.zero_add,Nat.reduceMul,Nat.reduceAdd,b1,b2,b3,b4,b5,b6,i1,i2,i3,i4,i5,i6,Nat.reduceBEq,fW,ej];exact rfl):p:=e.mpr k
end af1
open af1 in
theorem ayA (a:List Nat) (hl:a.length<=4611686018427387904):ax al 147 [eZ a] (bL (decide (a.length=0\/a.getD (a.length-1) 0≠0))):=by
 unfold eZ
 refine aS Tryz.func147 ?_
 have ej:True:=trivial
 refine bD ?_
 refine dg 6 rfl ?_ ?_<;>intro xr h6
 ·have ej:True:=trivial
  refine bF ?_
  refine dT ?_ (.pure rfl)
  simp only [e1,e2,e3,e4,p1,p2,p3,q1,q2,q3,vZ]
  congr 2
  first | (symm;rw [decide_eq_true_iff];omega) | (rw [ad8,bne_iff_ne,decide_eq_true_iff];omega)
 ·have ej:((a.length:Int)-1).toNat=a.length-1:=by omega
  refine bF ?_
  refine dT ?_ (.pure rfl)
  simp only [e1,e2,e3,e4,p1,p2,p3,q1,q2,q3,vZ]
  congr 2
  first | (symm;rw [decide_eq_true_iff];omega) | (rw [ad8,bne_iff_ne,decide_eq_true_iff];omega)
namespace adL
theorem aM {p q:Prop} (k:q) (e:p=q:=by simp only [e1,e2,e3,e4,p1,p2,p3,q1,q2,q3,l1,t0,t1,r1,r2,r3,r4,Nat.zero_add,Nat.reduceMul,Nat.reduceAdd,b1,b2,b3,b4,b5,b6,i1,i2,i3,i4,i5,i6,Nat.reduceBEq,fW,ej,ek];exact rfl):p:=e.mpr k
end adL
open adL in
theorem aq9 (a:List Nat) (h:bX a) (hl:a.length<=2):ax al 237 [eZ a] (cQ (val a)):=by
 unfold eZ
 refine aS Tryz.func237 ?_
 have ej:True:=trivial
 have ek:True:=trivial
 refine oz ?_
 refine lG (fun(k n:Nat) L=>((((St.mk L.slot (hp [])).put (some 0) (.list 1 (a.map bu))).put (some 3) (cQ n)).put (some 4) (iL ((k:Int)-1)))) (fun k n=>k<=a.length/\n=val (a.drop k)) (fun k n=>k) a.length 0 ⟨bp _,by simp [val]⟩ ?_
 rintro k n L1 ⟨hk,hn⟩
 refine aY ?_
 refine aF rfl ?_ ?_<;>intro wi h9
 ·obtain⟨j,rfl⟩:∃ j,k=j+1:=⟨k-1,ae⟩
  have ej:(((j+1:Nat):Int)-1).toNat=j:=by omega
  have ek:(((j+1:Nat):Int)-1)=j:=by omega
  have hb:=jc h j
  have mZ:n<4294967296:=by have:=aoW h (k:=j+1) (j:=1) ae;rw [hn];simpa using this
  refine aa2 ?_
  exact iW j (n*4294967296+a.getD j 0) ⟨ae,by rw [pj ae,hn];omega⟩
 ·obtain rfl:k=0:=by omega
  have ej:True:=trivial
  have ek:True:=trivial
  rw [lQ] at hn
  rw [<-hn]
  refine bF ?_
  exact dW
open adL in
theorem af9 (a b:List Nat) (ha:bX a) (hb:bX b) (fQ:a.length<=1099511627776) (l7:b.length<=1099511627776):ax al 173 [eZ a,eZ b] (iL (jU (val a) (val b))):=by
 refine aS Tryz.func173 ?_
 have ej:True:=trivial
 have ek:True:=trivial
 refine bn ?_
 refine cp aQ (rK _ iT ae) ?_
 refine av ?_
 refine cp aQ (rK _ iT ae) ?_
 refine dH ?_
 refine aF rfl ?_ ?_<;>intro rA lW
 ·have abI:(aq (val a)).length<=1099511627776:=by rw [<-vC ha];unfold xS;simp;omega
  refine bI ?_
  refine aF rfl ?_ ?_<;>intro agD h19
  ·have hE:=agZ (m:=val a) (n:=val b) ae
   refine bn ?_
   first | (rw [qP hE];exact dT rfl (.pure rfl)) | (rw [tu hE];exact dT rfl (.pure rfl)) | (rw [uq hE];exact dT rfl (.pure rfl))
  ·have hE:=agZ (m:=val b) (n:=val a) ae
   refine bE ?_
   first | (rw [qP hE];exact dT rfl (.pure rfl)) | (rw [tu hE];exact dT rfl (.pure rfl)) | (rw [uq hE];exact dT rfl (.pure rfl))
 ·have hlen:(aq (val a)).length=(aq (val b)).length:=by omega
  have abI:(aq (val a)).length<=1099511627776:=by rw [<-vC ha];unfold xS;simp;omega
  clear lW rA
  refine bF ?_
  refine dU (fun(k:Nat) L=>((((St.mk L.slot (hp [])).put (some 0) (bl (val a))).put (some 1) (bl (val b))).put (some 5) (iL ((k:Int)-1)))) (fun k=>k<=(aq (val a)).length/\(aq (val a)).drop k=(aq (val b)).drop k) (fun k=>k) ((aq (val a)).length) ⟨bp _,by rw [ad7,jQ ae]⟩ ?_
  rintro k L1 ⟨hk,hd⟩
  refine aY ?_
  refine aF rfl ?_ ?_<;>intro tc wN
  ·obtain⟨j,rfl⟩:∃ j,k=j+1:=⟨k-1,ae⟩
   have ej:(((j+1:Nat):Int)-1).toNat=j:=by omega
   have ek:(((j+1:Nat):Int)-1)=j:=by omega
   refine ba ?_
   refine a8 9 an ?_
   refine bD ?_
   refine aF rfl ?_ ?_<;>intro zE h35
   ·refine aP ?_
    refine a8 9 an ?_
    refine bD ?_
    refine aF rfl ?_ ?_<;>intro aFR h44
    ·have hE:=aiT (cS (val a)) (k:=j) ae ae hd ae
     rw [ck,ck] at hE
     refine bF ?_
     first | (rw [qP hE];exact dT rfl (.pure rfl)) | (rw [tu hE];exact dT rfl (.pure rfl)) | (rw [uq hE];exact dT rfl (.pure rfl))
    ·have hE:=aiT (cS (val b)) (k:=j) ae ae hd.symm ae
     rw [ck,ck] at hE
     refine dG ?_
     first | (rw [qP hE];exact dT rfl (.pure rfl)) | (rw [tu hE];exact dT rfl (.pure rfl)) | (rw [uq hE];exact dT rfl (.pure rfl))
   ·refine bE ?_
    exact iD j ⟨ae,aqS ae ae hd ae⟩
  ·obtain rfl:k=0:=by omega
   have ej:True:=trivial
   have ek:True:=trivial
   rw [lQ,lQ] at hd
   have hE:val a=val b:=by have:=congrArg val hd;rwa [ck,ck] at this
   refine bD ?_
   first | (rw [qP hE];exact dT rfl (.pure rfl)) | (rw [tu hE];exact dT rfl (.pure rfl)) | (rw [uq hE];exact dT rfl (.pure rfl))
theorem axj {b:List Nat} (h:bX b):(aq (val b)).length<=b.length:=by
 rw [<-vC h];unfold xS;simp;exact aoz _ _
open H0 in
theorem aB6 (a b:List Nat) (ha:bX a) (hb:bX b) (fQ:a.length<=1099511627776) (l7:b.length<=1099511627776) (bM:val a<val b):ax al 249 [eZ a,eZ b] (.bf [eZ [],iL 7]):=by
 refine aS awB ?_
 refine bD ?_
 refine cp au (af9 _ _ iT iT ae ae) ?_
 refine aL ?_
 refine aF rfl ?_ ?_<;>intro pR mT
 ·refine bn ?_
  exact wL rfl (.nil 1) rfl (.pure rfl)
 ·exfalso;rw [qP bM] at mT;omega
theorem ay0 {k br:Nat} {a b o:List Nat} (c9:k<o.length) (nW:br<=1) (hx:a.getD k 0<4294967296) (hyb:b.getD k 0<4294967296) (cd:bX o) (hv:val (o.take k)+val (b.take k)=val (a.take k)+4294967296 ^ k*br) {y d:Nat}
  (hy:y=br+b.getD k 0) (hd:d=(18446744073709551616+a.getD k 0-y) % 18446744073709551616) :
  d/9223372036854775808<=1/\bX (o.set k (d % 4294967296))/\val ((o.set k (d % 4294967296)).take (k+1))+val (b.take (k+1))=val (a.take (k+1))+4294967296 ^ (k+1)*(d/9223372036854775808):=by
 refine⟨ae,mO cd _ _ ae,?_⟩
 rcases gM (a.getD k 0) y with h | h
 ·have h1:d % 4294967296=4294967296+a.getD k 0-y:=by omega
  have h2:d/9223372036854775808=1:=by omega
  rw [h1,h2]
  exact atx c9 hv hy h ae
 ·have h1:d % 4294967296=a.getD k 0-y:=by omega
  have h2:d/9223372036854775808=0:=by omega
  rw [h1,h2]
  exact arZ c9 hv hy h
open acM in
theorem aDs (a b:List Nat) (ha:bX a) (hb:bX b) (fQ:a.length<=1099511627776) (l7:b.length<=1099511627776) (hle:val b<=val a):ax al 249 [eZ a,eZ b] (.bf [bl (val a-val b),iL 0]):=by
 have sJ:(aq (val b)).length<=a.length:=by
  apply xw;exact ug hle (acu ha)
 refine aS awB ?_
 refine bD ?_
 refine cp au (af9 _ _ iT iT ae ae) ?_
 refine aL ?_
 refine aF rfl ?_ ?_<;>intro pR mT
 ·exfalso
  rcases asX hle with h | h
  ·rw [tu h] at mT;omega
  ·rw [uq h.symm] at mT;omega
 ·refine ba ?_
  refine cp aQ (rK _ iT ae) ?_
  refine aY ?_
  refine fG rfl rfl (.mw (n:=a.length) (m:=a.length) ml ml om om om) ?_
  refine jw ?_
  refine tV (fun(k:Nat) (o:List Nat) (br:Nat) L=>((((((((St.mk L.slot (hp [(20,⟨1,o.map bu,true⟩)])).put (some 0) (.list 1 (a.map bu))).put (some 1) (bl (val b))).put (some 6) (.ref 20 1 0 a.length)).put (some 7) (cQ br)).put (some 21) (.list 1 (a.map bu))).put (some 22) (ai a.length)).put (some 23) (ai k))) (fun k o br=>k<=a.length/\o.length=a.length/\br<=1/\bX o/\val (o.take k)+val ((aq (val b)).take k)=val (a.take k)+4294967296 ^ k*br) (fun k o br=>a.length-k) 0 (ay a.length 0) 0 ⟨b8 _,by simp,ae,vN _,by simp [val]⟩ ?_
  rintro k o br L1 ⟨hk,c9,nW,cd,hv⟩
  have ue:=jc ha k
  have hyk:=iQ (val b) k
  refine aD ?_
  refine aF rfl ?_ ?_<;>intro tc wN
  ·refine amp ?_
   refine gY (fun L=>∃ (y:Nat) (L1:St),(y=br+(aq (val b)).getD k 0)/\L=(((((((((((St.mk L1.slot (hp [(20,⟨1,o.map bu,true⟩)])).put (some 0) (.list 1 (a.map bu))).put (some 1) (bl (val b))).put (some 6) (.ref 20 1 0 a.length)).put (some 7) (cQ br)).put (some 21) (.list 1 (a.map bu))).put (some 22) (ai a.length)).put (some 23) (ai k)).put (some 9) (bu (a.getD k 0))).put (some 8) (ai k)).put (some 10) (cQ y))) ?_ ?_
   ·refine aF rfl ?_ ?_<;>intro aep h32
    ·refine bD ?_
     exact⟨br+(aq (val b)).getD k 0,_,rfl,((aj (aj (aj (aj (aj (aj (aj (aj (aj (aj (bG cl) cl) cl) cl) cl) cl) cl) cl) cl) cl) cl)).symm⟩
    ·refine aP ?_
     exact⟨br,_,by rw [uR _ k ae];rfl,((aj (aj (aj (aj (aj (aj (aj (aj (aj (aj (bG cl) cl) cl) cl) cl) cl) cl) cl) cl) cl) cl)).symm⟩
   ·rintro _ ⟨y,aKS,hy,rfl⟩
    refine aD ?_
    refine ao rfl (.bin rfl rfl (aeL ae)) ?_
    refine we ?_
    exact tD (k+1) (o.set k ((18446744073709551616+a.getD k 0-y) % 18446744073709551616 % 4294967296)) ((18446744073709551616+a.getD k 0-y) % 18446744073709551616/9223372036854775808) ⟨ae,by simp [c9],ay0 ae nW ue hyk cd hv hy rfl⟩
  ·obtain rfl:k=a.length:=by omega
   refine bn ?_
   refine sP [20] sR (rK _ iT ae) ?_
   refine ba ?_
   have e:=asp ha cd c9 sJ (by rw [ck];exact hle) hv
   rw [vC cd,ck] at e
   have e2:=congrArg val e
   rw [ck,ck] at e2
   rw [<-e2]
   exact wL rfl (.pure (kf _)) rfl (.pure rfl)
theorem ayj {c x y z:Nat} (hc:c<4294967296) (hx:x<4294967296) (hy:y<4294967296) (hz:z<4294967296):c+(x*y+z)<18446744073709551616:=by
 have:=vi hx hy;omega
theorem mul_zero {i x:Nat} {a b o:List Nat} (hx:x=a.getD i 0) (h0:x=0) (hv:val o=val (a.take i)*val b):val o=val (a.take (i+1))*val b:=by
 rw [pJ,<-hx,h0];simpa using hv
theorem aoi {i m j x:Nat} {o:List Nat} (hj:j<m) (hz:∀ p,i+m<=p->o.getD p 0=0):∀ p,i+m<=p->(o.set (i+j) x).getD p 0=0:=fun p hp=>by
 rw [Go.Lg.getD_set_ne _ _ _ _ ae];exact hz p hp
theorem ar2 {i m x:Nat} {o:List Nat} (hz:∀ p,i+m<=p->o.getD p 0=0):∀ p,i+1+m<=p->(o.set (i+m) x).getD p 0=0:=fun p hp=>by
 rw [Go.Lg.getD_set_ne _ _ _ _ ae];exact hz p ae
theorem api (n p:Nat):(ay n 0).getD p 0=0:=by
 rw [bz,List.getElem?_replicate];split<;>rfl
namespace amR
theorem aM {p q:Prop} (k:q) (e:p=q:=by simp only [e1,e2,e3,e4,p1,p2,p3,q1,q2,q3,l1,t0,t1,r1,r2,r3,r4,Nat.zero_add,Nat.reduceMul,Nat.reduceAdd,b1,b2,b3,b4,b5,b6,i1,i2,i3,i4,i5,i6,Nat.reduceBEq,fW,kg];exact rfl):p:=e.mpr k
end amR
open amR in
theorem zO (a b:List Nat) (ha:bX a) (hb:bX b) (fQ:a.length<=1099511627776) (l7:b.length<=1099511627776):ax al 174 [eZ a,eZ b] (bl (val a*val b)):=by
 unfold eZ
 refine aS Tryz.func174 ?_
 have kg:True:=trivial
 refine bF ?_
 refine fG rfl rfl (.mw (n:=a.length+b.length) (m:=a.length+b.length) ml ml om om om) ?_
 refine bF ?_
 refine lG (fun(i:Nat) (o:List Nat) L=>(((((((St.mk L.slot (hp [(16,⟨1,o.map bu,true⟩)])).put (some 0) (.list 1 (a.map bu))).put (some 1) (.list 1 (b.map bu))).put (some 5) (.ref 16 1 0 (a.length+b.length))).put (some 17) (.list 1 (a.map bu))).put (some 18) (ai a.length)).put (some 19) (ai i))) (fun i o=>i<=a.length/\o.length=a.length+b.length/\bX o/\val o=val (a.take i)*val b/\∀ p,i+b.length<=p->o.getD p 0=0) (fun i o=>a.length-i) 0 (ay (a.length+b.length) 0) ⟨b8 _,by simp,vN _,by simp [val,ajc],fun p _=>api _ _⟩ ?_
 rintro i o L1 ⟨hi,c9,cd,hv,hz⟩
 have hxi:=jc ha i
 have kg:True:=trivial
 refine aD ?_
 refine aF rfl ?_ ?_<;>intro aay h20
 ·refine oz ?_
  refine aF rfl ?_ ?_<;>intro aiA h25
  ·refine bE ?_
   exact iW (i+1) o ⟨ae,c9,cd,mul_zero rfl ae hv,fun p hp=>hz p ae⟩
  ·refine nZ ?_
   refine tV (fun(j:Nat) (o:List Nat) (c:Nat) L=>(((((((((((((St.mk L.slot (hp [(16,⟨1,o.map bu,true⟩)])).put (some 0) (.list 1 (a.map bu))).put (some 1) (.list 1 (b.map bu))).put (some 5) (.ref 16 1 0 (a.length+b.length))).put (some 17) (.list 1 (a.map bu))).put (some 18) (ai a.length)).put (some 19) (ai i)).put (some 6) (ai i)).put (some 7) (bu (a.getD i 0))).put (some 8) (cQ c)).put (some 26) (.list 1 (b.map bu))).put (some 27) (ai b.length)).put (some 28) (ai j))) (fun j o c=>j<=b.length/\o.length=a.length+b.length/\bX o/\c<4294967296/\val o+4294967296 ^ (i+j)*c=val (a.take i)*val b+4294967296 ^ i*(a.getD i 0*val (b.take j))/\∀ p,i+b.length<=p->o.getD p 0=0) (fun j o c=>b.length-j) 0 o 0 ⟨b8 _,c9,cd,ae,by rw [hv];simp [val],hz⟩ ?_
   rintro j o c L2 ⟨hj,c9,cd,hc,hv,hz⟩
   have hyj:=jc hb j
   have hzj:=jc cd (i+j)
   have hs:=ayj hc hxi hyj hzj
   have kg:((i:Int)+(j:Int)).toNat=i+j:=by omega
   refine aD ?_
   refine aF rfl ?_ ?_<;>intro abw h29
   ·refine aFf ?_
    exact tD (j+1) (o.set (i+j) ((c+(a.getD i 0*b.getD j 0+o.getD (i+j) 0)) % 4294967296)) ((c+(a.getD i 0*b.getD j 0+o.getD (i+j) 0))/4294967296) ⟨ae,by simp [c9],mO cd _ _ (lZ _ ae),ae,awg ae hv rfl,aoi ae hz⟩
   ·obtain rfl:j=b.length:=by omega
    have aB7:((i:Int)+(b.length:Int)).toNat=i+b.length:=by omega
    refine aa2 ?_
    exact iW (i+1) (o.set (i+b.length) (c % 4294967296)) ⟨ae,by simp [c9],mO cd _ _ (lZ _ ae),by rw [iF hc];exact aqv ae ae (hz _ (bp _)) rfl rfl hv,ar2 hz⟩
 ·obtain rfl:i=a.length:=by omega
  refine bn ?_
  refine sP [16] sR (rK _ iT tE) ?_
  refine aA ?_
  rw [nn] at hv
  rw [<-hv]
  exact dW
open adL in
theorem aIK (a:List Nat) (d:Nat) (ha:bX a) (fQ:a.length<=1099511627776) (jD:0<d) (hd:d<4294967296):ax al 275 [eZ a,qz d] (.bf [bl (val a/d),qz (val a % d)]):=by
 unfold eZ
 refine aS Tryz.func275 ?_
 have ej:True:=trivial
 have ek:True:=trivial
 refine bI ?_
 refine fG rfl rfl (.mw (n:=a.length) (m:=a.length) ml ml om om om) ?_
 refine oV ?_
 refine tV (fun(k:Nat) (q:List Nat) (r:Nat) L=>((((((St.mk L.slot (hp [(11,⟨1,q.map bu,true⟩)])).put (some 0) (.list 1 (a.map bu))).put (some 1) (qz d)).put (some 6) (.ref 11 1 0 a.length)).put (some 7) (cQ r)).put (some 8) (iL ((k:Int)-1)))) (fun k q r=>k<=a.length/\q.length=a.length/\bX q/\r<d/\val (q.drop k)*d+r=val (a.drop k)) (fun k q r=>k) a.length (ay a.length 0) 0 ⟨bp _,by simp,vN _,jD,by simp [val]⟩ ?_
 rintro k q r L1 ⟨hk,jK,mb,hr,hv⟩
 refine aY ?_
 refine aF rfl ?_ ?_<;>intro abi yL
 ·obtain⟨j,rfl⟩:∃ j,k=j+1:=⟨k-1,ae⟩
  have ej:(((j+1:Nat):Int)-1).toNat=j:=by omega
  have ek:(((j+1:Nat):Int)-1)=j:=by omega
  have hxj:=jc ha j
  refine aaw ?_
  refine ao rfl afM ?_
  refine oz ?_
  exact tD j (q.set j ((r*4294967296+a.getD j 0)/d % 4294967296)) ((r*4294967296+a.getD j 0) % d) ⟨ae,by simp [jK],mO mb _ _ (lZ _ ae),lZ _ jD,by rw [iF (aoR hr hxj)];exact apQ ae jK hv rfl⟩
 ·obtain rfl:k=0:=by omega
  have ej:True:=trivial
  have ek:True:=trivial
  refine bn ?_
  refine sP [11] sR (rK _ iT tE) ?_
  refine aY ?_
  obtain⟨E1,E2⟩:=arc jD hr mb hv
  rw [vC mb] at E1
  have E3:=congrArg val E1
  rw [ck,ck] at E3
  rw [<-E3,<-E2]
  have E4:r % 4294967296=r:=iF ae
  refine wL rfl (.pure (kf _)) rfl ?_
  show cV _ (qz (r % 4294967296)) (qz r)
  rw [E4]
  exact .pure rfl
theorem agh {s:Nat} (hs:s<32):2 ^ s<=2147483648/\0<2 ^ s:=⟨lO (n:=2) ae (show s<=31 by omega),lY ae⟩
theorem arY {m:Nat} (h:m<256):(0:Int)<=IntKind.u8.wrap (m:Int)/\(IntKind.u8.wrap (m:Int)).toNat=m:=by
 rw [IntKind.wrap_u8];omega
theorem aog {x p:Nat} (hx:x<4294967296) (hp:p<=2147483648):x*p<=9223372034707292160:=by
 have:=Nat.mul_le_mul (Nat.le_sub_one_of_lt hx) hp;simpa using this
theorem auc {x p c:Nat} (hx:x<4294967296) (hc:c<p):(x*p+c)/4294967296<p:=by
 rw [nP ae]
 have:(x+1)*p<=4294967296*p:=fP _ hx
 rw [hY] at this
 rw [fy p];omega
open acM in
theorem aIZ (a:List Nat) (s:Nat) (ha:bX a) (fQ:a.length<=1099511627776) (hs:s<32):o6 al 277 [eZ a,ai s] (.ref 1 1 0 (a.length+1)) [⟨1,(iS (a.length+1) (val a*2 ^ s)).map bu,true⟩]:=by
 unfold eZ
 refine fnO Tryz.func277 ?_
 refine bI ?_
 refine fG rfl rfl (.mw (n:=a.length+1) (m:=a.length+1) ml ml om om om) ?_
 refine jw ?_
 refine tV (fun(k:Nat) (o:List Nat) (c:Nat) L=>((((((((St.mk L.slot (hp [(12,⟨1,o.map bu,true⟩)])).put (some 0) (.list 1 (a.map bu))).put (some 1) (ai s)).put (some 5) (.ref 12 1 0 (a.length+1))).put (some 6) (cQ c)).put (some 13) (.list 1 (a.map bu))).put (some 14) (ai a.length)).put (some 15) (ai k))) (fun k o c=>k<=a.length/\o.length=a.length+1/\c<2 ^ s/\bX o/\val (o.take k)+4294967296 ^ k*c=val (a.take k)*2 ^ s) (fun k o c=>a.length-k) 0 (ay (a.length+1) 0) 0 ⟨b8 _,by simp,(agh hs).2,vN _,by simp [val]⟩ ?_
 rintro k o c L1 ⟨hk,c9,hc,cd,hv⟩
 have ue:=jc ha k
 obtain⟨ke,rS⟩:=agh hs
 have vm:=aog ue ke
 refine aD ?_
 refine aF rfl ?_ ?_<;>intro abi yL
 ·refine o4 ?_
  refine ao rfl (.sh rfl rfl (avx ae ae)) ?_
  refine ao rfl (.bin rfl rfl (orV hc ae)) ?_
  refine we ?_
  exact tD (k+1) (o.set k ((a.getD k 0*2 ^ s+c) % 4294967296)) ((a.getD k 0*2 ^ s+c)/4294967296) ⟨ae,by simp [c9],auc ue hc,mO cd _ _ (lZ _ ae),az1 ae hv rfl⟩
 ·obtain rfl:k=a.length:=by omega
  refine aa2 ?_
  have hc2:c % 4294967296=c:=iF ae
  have E:=aEM c9 hv
  have E2:=ajd (mO cd a.length c ae) (by simp only [List.length_set];exact c9)
  rw [E] at E2
  rw [<-E2]
  simp only [hc2]
  exact age rfl rfl (a7 fZ _)
open H0 in
theorem an5 (n:Nat) (hn:n<18446744073709551616):ax al 238 [cQ n] (bl n):=by
 have hL:bX [n % 4294967296,n/4294967296 % 4294967296]:=by
  intro x hx;simp at hx;omega
 have hV:val [n % 4294967296,n/4294967296 % 4294967296]=n:=by rw [val_two];omega
 refine aS Tryz.func238 ?_
 refine dG ?_
 refine sP [8] sR (rK _ iT tE) ?_
 refine aA ?_
 skip
 exact dT rfl (by rw [hV];exact .pure (kf _))
namespace apd
theorem wo {p q:Prop} (k:q) (e:p=q:=by simp only [e1,e2,e3,e4,p1,p2,p3,q1,q2,q3,l1,t0,t1,r1,r2,r3,r4,Nat.zero_add,Nat.reduceMul,Nat.reduceAdd,b1,b2,b3,b4,b5,b6,i1,i2,i3,i4,i5,i6,Nat.reduceBEq,hbn];exact rfl):p:=e.mpr k
theorem tN {p:Prop} (h:p:=by first | (refine wo ?_;exact rfl) | exact rfl):p:=h
end apd
open apd H0 in
theorem aoq (n:Nat) (hn:n<4294967296):ax al 150 [qz n] (iL (dI n)):=by
 refine aS Tryz.func150 ?_
 refine bF ?_
 refine gY (fun L=>∃ (m:Nat) (q:Nat) (L1:St),(dI n=q+dI m/\m<65536/\q<=16)/\L=(((St.mk L1.slot (hp [])).put (some 0) (qz m)).put (some 2) (iL q))) ?_ ?_
 ·refine aF rfl ?_ ?_<;>intro h4r h4
  ·refine aL ?_
   refine ao rfl (.sh rfl rfl (aeu (m:=16) ak)) ?_
   refine aY ?_
   exact⟨n/2 ^ 16,16,_,⟨aiZ ae,ae,ae⟩,((aj (aj (bG cl) cl) cl)).symm⟩
  ·refine aP ?_
   exact⟨n,0,_,⟨ae,ae,ae⟩,((aj (aj (bG cl) cl) cl)).symm⟩
 ·rintro _ ⟨m,q,LC4,⟨hb1,hm,hq⟩,rfl⟩
  refine bn ?_
  refine gY (fun L=>∃ (m2:Nat) (q2:Nat) (L1:St),(dI n=q2+dI m2/\m2<256/\q2<=24)/\L=(((St.mk L1.slot (hp [])).put (some 0) (qz m2)).put (some 2) (iL q2))) ?_ ?_
  ·refine aF rfl ?_ ?_<;>intro pa h8
   ·refine aL ?_
    refine ao rfl (.sh rfl rfl (aeu (m:=8) ak)) ?_
    refine bE ?_
    exact⟨m/2 ^ 8,q+8,_,⟨by rw [hb1,aiZ (n:=m) (k:=8) ae];omega,ae,ae⟩,((aj (aj (bG cl) cl) cl)).symm⟩
   ·refine aP ?_
    exact⟨m,q,_,⟨hb1,ae,ae⟩,((aj (aj (bG cl) cl) cl)).symm⟩
  ·rintro _ ⟨m2,q2,LC8,⟨xa,eO,hq2⟩,rfl⟩
   have hb8:dI m2<=8:=vR.2 eO
   have hbn:(UInt8.ofNat (dI m2)).toNat=dI m2:=(by decide:∀ k,k<=8->(UInt8.ofNat k).toNat=k) _ hb8
   refine aD ?_
   refine ao rfl (.ahE (b:=UInt8.ofNat (dI m2)) rfl Tryz.underlying9 rfl (arY eO).1 (by rw [(arY eO).2];exact tbl an eO)) ?_
   refine ao rfl (.cvI aoe arw rfl ae ae) ?_
   refine ao rfl z8 ?_
   refine av ?_
   refine tx tN ?_
   refine aP ?_
   rw [xa]
   exact dT rfl (by first | exact .pure rfl | (rw [hbn];exact .pure rfl))
open H0 in
theorem aJq (n:Nat) (hn:n<4294967296):ax al 276 [qz n] (iL (32-dI n)):=by
 have hb:dI n<=32:=vR.2 hn
 refine aS Tryz.func276 ?_
 refine bn ?_
 refine cp aQ (aoq _ ae) ?_
 refine ba ?_
 exact dW
theorem acn (l:List Nat) (h:bX l) (hl:l.length<=1099511627776):(aq (val l)).length<=1099511627776:=a9 (axj h) hl
theorem aoQ {n:Nat} (h:0<(aq n).length):32*((aq n).length-1)+dI ((aq n).getD ((aq n).length-1) 0)=dI n:=by
 have:=aBJ (cS n) (afh n) h
 rw [ck] at this;omega
open af1 in
theorem adZ (a:List Nat) (ha:bX a) (fQ:a.length<=1099511627776):ax al 81 [eZ a] (iL (dI (val a))):=by
 have bM:=acn a ha fQ
 refine aS Tryz.func81 ?_
 have ej:True:=trivial
 refine bn ?_
 refine cp aQ (rK _ iT tE) ?_
 refine bD ?_
 refine aF rfl ?_ ?_<;>intro h7r h7
 ·have h0:val a=0:=sM.1 (m8 ae)
  have hz:dI (val a)=0:=xf.2 h0
  refine aY ?_
  rw [hz]
  exact dW
 ·have my:0<(aq (val a)).length:=by omega
  have ej:(((aq (val a)).length:Int)-1).toNat=(aq (val a)).length-1:=by omega
  have hz:=aoQ my
  have ab5:=iQ (val a) ((aq (val a)).length-1)
  have amT:dI ((aq (val a)).getD ((aq (val a)).length-1) 0)<=32:=vR.2 ab5
  refine dH ?_
  refine cp aQ (aoq _ (by rw [ej];exact ab5)) ?_
  refine ao rfl (.bin rfl rfl (sf (by simp only [ej,fW];omega) (by simp only [ej,fW];omega))) ?_
  refine aA ?_
  refine dT ?_ (.pure rfl)
  simp only [e1,e2,e3,e4,p1,p2,p3,q1,q2,q3,vZ]
  congr 2
  omega
namespace atD
theorem wo {p q:Prop} (k:q) (e:p=q:=by simp only [e1,e2,e3,e4,p1,p2,p3,q1,q2,q3,l1,t0,t1,r1,r2,r3,r4,Nat.zero_add,Nat.reduceMul,Nat.reduceAdd,b1,b2,b3,b4,b5,b6,i1,i2,i3,i4,i5,i6,Nat.reduceBEq,List.take_zero,List.take_nil,List.nil_append,aV fZ,LV.kill];exact rfl):p:=e.mpr k
theorem tN {p:Prop} (h:p:=by first | (refine wo ?_;exact rfl) | exact rfl):p:=h
end atD
open atD H0 in
theorem aeC (a:List Nat) (fQ:a.length<=1099511627776):ax al 235 [eZ a] (eZ a):=by
 unfold eZ
 refine aS Tryz.func235 ?_
 refine aY ?_
 refine aiB (aCP (sz:=1) (l:=a.map bu) rfl pG (fun b hb=>?_))
 refine av ?_
 refine aF rfl ?_ ?_<;>intro h4r h4
 ·have aga:a=[]:=by simpa using hb h4r
  subst aga
  refine aY ?_
  exact dT rfl (.nil 1)
 ·refine aD ?_
  refine bU rfl (.app rfl rfl rfl rfl rfl (b8 _) (.inr rfl) ak pG pG abY sa rfl acq (.inr (.inl rfl)) bw bw ak) ?_
  refine av ?_
  refine tx tN ?_
  refine aP ?_
  exact ow [7] rfl rfl (fC fZ rfl rfl aT)
open acM in
theorem ahg (a b:List Nat) (fQ:a.length<=1099511627776) (l7:b.length<=1099511627776):ax al 172 [eZ a,eZ b] (bL (decide (a=b))):=by
 unfold eZ
 refine aS Tryz.func172 ?_
 refine iI ?_
 refine aF rfl ?_ ?_<;>intro nE qN
 ·have hE:a≠b:=by rintro rfl;omega
  refine aY ?_
  first | (rw [decide_eq_true hE];exact dT rfl (.pure rfl)) | (rw [decide_eq_false hE];exact dT rfl (.pure rfl))
 ·have hl:a.length=b.length:=by omega
  clear qN nE
  refine bD ?_
  refine dU (fun(k:Nat) L=>((((((St.mk L.slot (hp [])).put (some 0) (.list 1 (a.map bu))).put (some 1) (.list 1 (b.map bu))).put (some 11) (.list 1 (a.map bu))).put (some 12) (ai a.length)).put (some 13) (ai k))) (fun k=>k<=a.length/\a.take k=b.take k) (fun k=>a.length-k) 0 ⟨b8 _,rfl⟩ ?_
  rintro k L1 ⟨hk,ht⟩
  refine aD ?_
  refine aF rfl ?_ ?_<;>intro rA lW
  ·refine bD ?_
   refine a8 9 an ?_
   refine bD ?_
   refine aF rfl ?_ ?_<;>intro tc wN
   ·have hE:a≠b:=by rintro rfl;omega
    refine bD ?_
    first | (rw [decide_eq_true hE];exact dT rfl (.pure rfl)) | (rw [decide_eq_false hE];exact dT rfl (.pure rfl))
   ·refine bn ?_
    exact iD (k+1) ⟨ae,azL ae ae ht ae⟩
  ·obtain rfl:k=a.length:=by omega
   have hE:a=b:=by rw [nn,hl,nn] at ht;exact ht
   refine bD ?_
   first | (rw [decide_eq_true hE];exact dT rfl (.pure rfl)) | (rw [decide_eq_false hE];exact dT rfl (.pure rfl))
namespace aoJ
theorem aM {p q:Prop} (k:q) (e:p=q:=by simp only [e1,e2,e3,e4,p1,p2,p3,q1,q2,q3,l1,t0,t1,r1,r2,r3,r4,Nat.zero_add,Nat.reduceMul,Nat.reduceAdd,b1,b2,b3,b4,b5,b6,i1,i2,i3,i4,i5,i6,Nat.reduceBEq,ej,ek,fW];exact rfl):p:=e.mpr k
end aoJ
open aoJ in
theorem aBE (l:List Nat) (hl:l.length<=4611686018427387904) (h0:0<l.length):nc al 149 ⟨1,l.map bu,true⟩ [.ref 0 1 0 l.length] (.ref 0 1 0 (jt l.length l)) ⟨1,l.map bu,true⟩:=by
 refine xn auE ?_
 have ej:True:=trivial
 have ek:True:=trivial
 refine dH ?_
 refine dU (fun(k:Nat) L=>(((St.mk L.slot (hp [(0,⟨1,l.map bu,true⟩)])).put (some 0) (.ref 0 1 0 l.length)).put (some 3) (ai k))) (fun k=>k<=l.length/\jt l.length l=jt k l) (fun k=>k) l.length ⟨bp _,rfl⟩ ?_
 rintro k L1 ⟨hk,wX⟩
 refine aD ?_
 refine dg 8 rfl ?_ ?_<;>intro pa h8
 ·obtain⟨j,rfl⟩:∃ j,k=j+1:=⟨k-1,ae⟩
  have ej:(((j+1:Nat):Int)-1).toNat=j:=by omega
  have ek:(((j+1:Nat):Int)-1)=j:=by omega
  refine bE ?_
  refine aF rfl ?_ ?_<;>intro pR mT
  ·refine bI ?_
   exact iD j ⟨ae,wX.trans (by simp only [jt];rw [if_pos (by simpa using mT)])⟩
  ·refine bE ?_
   refine ao rfl ady ?_
   refine aA ?_
   rw [wX,jt,if_neg (by simpa using mT)]
   exact vK rfl .ref rfl rfl (a7 fZ _)
 ·have kZ:k=0:=by omega
  subst kZ
  refine o4 ?_
  refine ao rfl ady ?_
  refine aA ?_
  rw [wX]
  exact vK rfl .ref rfl rfl (a7 fZ _)
theorem aD0 (l:List Nat) (n:Nat) (hn:n=l.length) (hl:n<=4611686018427387904) (h0:0<n):nc al 149 ⟨1,l.map bu,true⟩ [.ref 0 1 0 n] (.ref 0 1 0 (jt n l)) ⟨1,l.map bu,true⟩:=by
 subst hn;exact aBE l hl h0
theorem atS (x s:Nat) (fQ:(aq x).length<=1099511627776) (hs:s<32):o6 al 277 [bl x,ai s] (.ref 1 1 0 ((aq x).length+1)) [⟨1,(iS ((aq x).length+1) (x*2 ^ s)).map bu,true⟩]:=by
 have:=aIZ (aq x) s (cS x) fQ hs
 rw [ck] at this
 exact this
theorem val_one (x:Nat):val [x]=x:=by simp [val]
theorem aqs {x:Nat} (h:x<=32):(32:Int)-(x:Int)=((32-x:Nat):Int):=by omega
namespace acz
theorem aM {p q:Prop} (k:q) (e:p=q:=by simp only [e1,e2,e3,e4,p1,p2,p3,q1,q2,q3,l1,t0,t1,r1,r2,r3,r4,Nat.zero_add,Nat.reduceMul,Nat.reduceAdd,b1,b2,b3,b4,b5,b6,i1,i2,i3,i4,i5,i6,Nat.reduceBEq,fW,ck,ej,ek,es,eV,pb,ou,q7,sB,tp,oK,qk,kg,uz,uj,pE,rv,List.set_set,List.length_set,Nat.add_mod_mod,sr,sF,mL,jZ];exact rfl):p:=e.mpr k
theorem wo {p q:Prop} (k:q) (e:p=q:=by simp only [e1,e2,e3,e4,p1,p2,p3,q1,q2,q3,l1,t0,t1,r1,r2,r3,r4,Nat.zero_add,Nat.reduceMul,Nat.reduceAdd,b1,b2,b3,b4,b5,b6,i1,i2,i3,i4,i5,i6,Nat.reduceBEq,fW,ck,ej,ek,es,eV,pb,ou,q7,sB,tp,oK,qk,kg,uz,uj,pE,rv,List.set_set,List.length_set,Nat.add_mod_mod,sr,sF,mL,jZ,tp];exact rfl):p:=e.mpr k
theorem tN {p:Prop} (h:p:=by first | (refine wo ?_;exact rfl) | exact rfl):p:=h
theorem ame {p q:Prop} (k:q) (e:p=q:=by simp only [e1,e2,e3,e4,p1,p2,p3,q1,q2,q3,l1,t0,t1,r1,r2,r3,r4,Nat.zero_add,Nat.reduceMul,Nat.reduceAdd,b1,b2,b3,b4,b5,b6,i1,i2,i3,i4,i5,i6,Nat.reduceBEq,fW,ck,ej,ek,es,eV,pb,ou,q7,sB,tp,oK,qk,kg,uz,uj,pE,rv,List.set_set,List.length_set,Nat.add_mod_mod,sr,sF,mL,jZ,val_one];exact rfl):p:=e.mpr k
theorem nf2 {p:Prop} (h:p:=by first | (refine ame ?_;exact rfl) | exact rfl):p:=h
theorem az0 {p q:Prop} (k:q) (e:p=q:=by simp only [e1,e2,e3,e4,p1,p2,p3,q1,q2,q3,l1,t0,t1,r1,r2,r3,r4,Nat.zero_add,Nat.reduceMul,Nat.reduceAdd,b1,b2,b3,b4,b5,b6,i1,i2,i3,i4,i5,i6,Nat.reduceBEq,fW,ck,ej,ek,es,eV,pb,ou,q7,sB,tp,oK,qk,kg,uz,uj,pE,rv,List.set_set,List.length_set,Nat.add_mod_mod,sr,sF,mL,jZ,adg,sB];exact rfl):p:=e.mpr k
theorem nf3 {p:Prop} (h:p:=by first | (refine az0 ?_;exact rfl) | exact rfl):p:=h
theorem apu {p q:Prop} (k:q) (e:p=q:=by simp only [e1,e2,e3,e4,p1,p2,p3,q1,q2,q3,l1,t0,t1,r1,r2,r3,r4,Nat.zero_add,Nat.reduceMul,Nat.reduceAdd,b1,b2,b3,b4,b5,b6,i1,i2,i3,i4,i5,i6,Nat.reduceBEq,fW,ck,ej,ek,es,eV,pb,ou,q7,sB,tp,oK,qk,kg,uz,uj,pE,rv,List.set_set,List.length_set,Nat.add_mod_mod,sr,sF,mL,jZ,jZ];exact rfl):p:=e.mpr k
theorem nf4 {p:Prop} (h:p:=by first | (refine apu ?_;exact rfl) | exact rfl):p:=h
theorem ff {p:Prop} (h:p:=by first | rfl | (refine apu ?_;first | exact trivial | rfl | (congr 3<;>omega) | (congr 2<;>omega))):p:=h
theorem aAn {p q:Prop} (k:q) (e:p=q:=by simp only [e1,e2,e3,e4,p1,p2,p3,q1,q2,q3,l1,t0,t1,r1,r2,r3,r4,Nat.zero_add,Nat.reduceMul,Nat.reduceAdd,b1,b2,b3,b4,b5,b6,i1,i2,i3,i4,i5,i6,Nat.reduceBEq,fW,ck,ej,ek,es,eV,pb,ou,q7,sB,tp,oK,qk,kg,uz,uj,pE,rv,List.set_set,List.length_set,Nat.add_mod_mod,sr,sF,mL,jZ,jZ,sB];exact rfl):p:=e.mpr k
theorem te {p:Prop} (h:p:=by first | rfl | (refine aAn ?_;first | exact trivial | rfl | (congr 3<;>omega) | (congr 2<;>omega))):p:=h
theorem aCC {p q:Prop} (k:q) (e:p=q:=by simp only [e1,e2,e3,e4,p1,p2,p3,q1,q2,q3,l1,t0,t1,r1,r2,r3,r4,Nat.zero_add,Nat.reduceMul,Nat.reduceAdd,b1,b2,b3,b4,b5,b6,i1,i2,i3,i4,i5,i6,Nat.reduceBEq,fW,ck,ej,ek,es,eV,pb,ou,q7,sB,tp,oK,qk,kg,uz,uj,pE,rv,List.set_set,List.length_set,Nat.add_mod_mod,sr,sF,mL,jZ,<-hT];exact rfl):p:=e.mpr k
theorem nf6 {p:Prop} (h:p:=by first | (refine aCC ?_;exact rfl) | exact rfl):p:=h
end acz
open acz in
theorem aIV (b ul ql:List Nat) (n s m q0 j:Nat) (jZ:(aq (val b*2 ^ s)).length=n+2) (kh:n+2<=m) (n6:m<=1099511627776) (oI:q0=m+1-(n+2)) (hk:j+1<=q0) (mi:ul.length=m+1) (jK:ql.length=q0) (gE:bX ul) (mb:bX ql) (uk:2147483648<=(aq (val b*2 ^ s)).getD (n+1) 0) (lh:0<(val b*2 ^ s)) (vJ:(val b*2 ^ s)<4294967296 ^ (n+2)) (bM:val ul<(val b*2 ^ s)*4294967296 ^ (j+1)) {Q:jW->St->Prop} (L1:St)
  (hQ:∀ (x:Nat) (L2:St),(val ul/4294967296 ^ j/(val b*2 ^ s)<=x/\x<=val ul/4294967296 ^ j/(val b*2 ^ s)+1/\x<4294967296)->Q .normal ((((((((St.mk L2.slot (hp [(1001057,⟨1,ul.map bu,true⟩),(1001105,⟨1,(iS ((aq (val b)).length+1) (val b*2 ^ s)).map bu,false⟩),(77,⟨1,ql.map bu,true⟩)])).put (some 4) (.ref 77 1 0 q0)).put (some 9) (ai s)).put (some 10) (.ref 1001057 1 0 (m+1))).put (some 11) (bl (val b*2 ^ s))).put (some 12) (ai (n+2))).put (some 13) (iL (((j+1:Nat):Int)-1))).put (some 15) (cQ x))) :
  cP al ((abF afk [1,1,1,1,1,1,1,0,1,0,0,1,0,0,1,1,0]).getD .skip) Q (((((((((St.mk L1.slot (hp [(1001057,⟨1,ul.map bu,true⟩),(1001105,⟨1,(iS ((aq (val b)).length+1) (val b*2 ^ s)).map bu,false⟩),(77,⟨1,ql.map bu,true⟩)])).put (some 4) (.ref 77 1 0 q0)).put (some 9) (ai s)).put (some 10) (.ref 1001057 1 0 (m+1))).put (some 11) (bl (val b*2 ^ s))).put (some 12) (ai (n+2))).put (some 13) (iL (((j+1:Nat):Int)-1))).put (some 15) (cQ ((ul.getD (n+2+j) 0*4294967296+ul.getD (n+1+j) 0)/(aq (val b*2 ^ s)).getD (n+1) 0))).put (some 16) (cQ ((ul.getD (n+2+j) 0*4294967296+ul.getD (n+1+j) 0) % (aq (val b*2 ^ s)).getD (n+1) 0))):=by
 have ej:True:=trivial
 have ek:True:=trivial
 have es:True:=trivial
 have eV:True:=trivial
 have pb:True:=trivial
 have ou:True:=trivial
 have q7:True:=trivial
 have sB:True:=trivial
 have tp:True:=trivial
 have oK:True:=trivial
 have qk:True:=trivial
 have kg:True:=trivial
 have uz:True:=trivial
 have uj:True:=trivial
 have pE:True:=trivial
 have rv:True:=trivial
 have sr:True:=trivial
 have sF:True:=trivial
 have mL:True:=trivial
 have pb:((j:Int)+((n+2:Nat):Int)).toNat=n+2+j:=by omega
 have ou:((j:Int)+((n+2:Nat):Int)-1).toNat=n+1+j:=by omega
 have q7:((j:Int)+((n+2:Nat):Int)-2).toNat=n+j:=by omega
 have oK:(((n+2:Nat):Int)-1).toNat=n+1:=by omega
 have qk:(((n+2:Nat):Int)-2).toNat=n:=by omega
 have ek:(((j+1:Nat):Int)-1)=(j:Int):=by omega
 have agq:=iQ ((val b*2 ^ s)) (n+1)
 have aav:=iQ ((val b*2 ^ s)) n
 have hu0:=jc gE (n+2+j)
 have zA:=jc gE (n+1+j)
 have vq:=jc gE (n+j)
 obtain⟨vl,rl,r7,mR,hVe,hRe,hRV⟩:=amt (j:=j) jZ ae gE bM
 have hun:=aIY hVe hRe r7 aav hRV
 have amH:=aHu hVe hRe mR vq ae
 have hqB:val ul/4294967296 ^ j/(val b*2 ^ s)<4294967296:=by rw [nP lh,fy];exact hRV
 refine aeH rfl ?_
 refine av ?_
 refine lG (fun(x rest:Nat) L=>(((((((((St.mk L.slot (hp [(1001057,⟨1,ul.map bu,true⟩),(1001105,⟨1,(iS ((aq (val b)).length+1) (val b*2 ^ s)).map bu,false⟩),(77,⟨1,ql.map bu,true⟩)])).put (some 4) (.ref 77 1 0 q0)).put (some 9) (ai s)).put (some 10) (.ref 1001057 1 0 (m+1))).put (some 11) (bl (val b*2 ^ s))).put (some 12) (ai (n+2))).put (some 13) (iL (((j+1:Nat):Int)-1))).put (some 15) (cQ x)).put (some 16) (cQ rest))) (fun x rest=>val ul/4294967296 ^ j/(val b*2 ^ s)<=x/\x*(aq (val b*2 ^ s)).getD (n+1) 0+rest=(ul.getD (n+2+j) 0*4294967296+ul.getD (n+1+j) 0)/\rest<4294967296) (fun x rest=>x) ((ul.getD (n+2+j) 0*4294967296+ul.getD (n+1+j) 0)/(aq (val b*2 ^ s)).getD (n+1) 0) ((ul.getD (n+2+j) 0*4294967296+ul.getD (n+1+j) 0) % (aq (val b*2 ^ s)).getD (n+1) 0) ⟨amH,by rw [fy];exact acO _ _,Nat.lt_trans (lZ _ ae) agq⟩ ?_
 rintro x rest L2 ⟨hx,wU,arl⟩
 have hxt:x<=x*(aq (val b*2 ^ s)).getD (n+1) 0:=Nat.le_mul_of_pos_right _ ae
 refine aP ?_
 refine a8 24 an ?_
 refine aL ?_
 refine dg 120 rfl ?_ ?_<;>intro aJJ aJK
 ·have hxd:val ul/4294967296 ^ j/(val b*2 ^ s)<=x-1:=by omega
  have iU:1<=x:=by omega
  refine amp ?_
  have adS:(x-1)*(aq (val b*2 ^ s)).getD (n+1) 0+(rest+(aq (val b*2 ^ s)).getD (n+1) 0)=(ul.getD (n+2+j) 0*4294967296+ul.getD (n+1+j) 0):=by
   have e:(x-1)*(aq (val b*2 ^ s)).getD (n+1) 0+(aq (val b*2 ^ s)).getD (n+1) 0=x*(aq (val b*2 ^ s)).getD (n+1) 0:=by rw [<-vH];congr 1;omega
   omega
  refine we ?_
  refine aF rfl ?_ ?_<;>intro aAR aE2
  ·have ll:=axt (u2:=ul.getD (n+j) 0) adS hun zA aav ae
   refine aA ?_
   exact avj
  ·refine aL ?_
   exact iW (x-1) (rest+(aq (val b*2 ^ s)).getD (n+1) 0) ⟨hxd,adS,ae⟩
 ·have hmul:=vi (show x<4294967296 by omega) aav
  refine aa2 ?_
  refine aF rfl ?_ ?_<;>intro aKy aHe
  ·have iU:1<=x:=by
    rcases Nat.eq_zero_or_pos x with e | e
    ·rw [e,adN] at aHe;omega
    ·exact e
   have hxd:val ul/4294967296 ^ j/(val b*2 ^ s)<=x-1:=by have:=azH hVe hRe mR lh wU ae;omega
   refine aA ?_
   have adS:(x-1)*(aq (val b*2 ^ s)).getD (n+1) 0+(rest+(aq (val b*2 ^ s)).getD (n+1) 0)=(ul.getD (n+2+j) 0*4294967296+ul.getD (n+1+j) 0):=by
    have e:(x-1)*(aq (val b*2 ^ s)).getD (n+1) 0+(aq (val b*2 ^ s)).getD (n+1) 0=x*(aq (val b*2 ^ s)).getD (n+1) 0:=by rw [<-vH];congr 1;omega
    omega
   refine we ?_
   refine aF rfl ?_ ?_<;>intro aAR aE2
   ·have ll:=axt (u2:=ul.getD (n+j) 0) adS hun zA aav ae
    refine aA ?_
    exact avj
   ·refine aL ?_
    exact iW (x-1) (rest+(aq (val b*2 ^ s)).getD (n+1) 0) ⟨hxd,adS,ae⟩
  ·refine aA ?_
   exact ab6 (hQ (x) _ ⟨hx,arK hVe hRe r7 ae lh wU ae ae,ae⟩) (aj (aj (aj (aj (aj (aj (aj (bG cl) cl) cl) cl) cl) cl) cl) cl)
open acz in
theorem aDP (b ul ql:List Nat) (n s m q0 j:Nat) (jZ:(aq (val b*2 ^ s)).length=n+2) (kh:n+2<=m) (n6:m<=1099511627776) (oI:q0=m+1-(n+2)) (hk:j+1<=q0) (mi:ul.length=m+1) (jK:ql.length=q0) (gE:bX ul) (mb:bX ql) (uk:2147483648<=(aq (val b*2 ^ s)).getD (n+1) 0) (lh:0<(val b*2 ^ s)) (vJ:(val b*2 ^ s)<4294967296 ^ (n+2)) (bM:val ul<(val b*2 ^ s)*4294967296 ^ (j+1)) (x:Nat) (fN:val ul/4294967296 ^ j/(val b*2 ^ s)<=x) (hxB:x<4294967296) {Q:jW->St->Prop} (L1:St)
  (hQ:∀ (wl:List Nat) (c:Nat) (br:Nat) (L2:St),(wl.length=m+1/\bX wl/\c<4294967296/\br<=1/\val wl+4294967296 ^ j*(x*(val b*2 ^ s))=val ul+4294967296 ^ (n+2+j)*(c+br)/\∀ p,n+2+j<=p->wl.getD p 0=ul.getD p 0)->Q .normal ((((((((((St.mk L2.slot (hp [(1001057,⟨1,wl.map bu,true⟩),(1001105,⟨1,(iS ((aq (val b)).length+1) (val b*2 ^ s)).map bu,false⟩),(77,⟨1,ql.map bu,true⟩)])).put (some 4) (.ref 77 1 0 q0)).put (some 9) (ai s)).put (some 10) (.ref 1001057 1 0 (m+1))).put (some 11) (bl (val b*2 ^ s))).put (some 12) (ai (n+2))).put (some 13) (iL (((j+1:Nat):Int)-1))).put (some 15) (cQ x)).put (some 17) (cQ br)).put (some 18) (cQ c))) :
  cP al ((abF afk [1,1,1,1,1,1,1,0,1,0,0,1,0,0,1,1,1,1,0,1]).getD .skip) Q (((((((((((((St.mk L1.slot (hp [(1001057,⟨1,ul.map bu,true⟩),(1001105,⟨1,(iS ((aq (val b)).length+1) (val b*2 ^ s)).map bu,false⟩),(77,⟨1,ql.map bu,true⟩)])).put (some 4) (.ref 77 1 0 q0)).put (some 9) (ai s)).put (some 10) (.ref 1001057 1 0 (m+1))).put (some 11) (bl (val b*2 ^ s))).put (some 12) (ai (n+2))).put (some 13) (iL (((j+1:Nat):Int)-1))).put (some 15) (cQ x)).put (some 17) (cQ 0)).put (some 18) (cQ 0)).put (some 154) (bl (val b*2 ^ s))).put (some 155) (ai (n+2))).put (some 156) (ai 0)):=by
 have ej:True:=trivial
 have ek:True:=trivial
 have es:True:=trivial
 have eV:True:=trivial
 have pb:True:=trivial
 have ou:True:=trivial
 have q7:True:=trivial
 have sB:True:=trivial
 have tp:True:=trivial
 have oK:True:=trivial
 have qk:True:=trivial
 have kg:True:=trivial
 have uz:True:=trivial
 have uj:True:=trivial
 have pE:True:=trivial
 have rv:True:=trivial
 have sr:True:=trivial
 have sF:True:=trivial
 have mL:True:=trivial
 have pb:((j:Int)+((n+2:Nat):Int)).toNat=n+2+j:=by omega
 have ou:((j:Int)+((n+2:Nat):Int)-1).toNat=n+1+j:=by omega
 have q7:((j:Int)+((n+2:Nat):Int)-2).toNat=n+j:=by omega
 have oK:(((n+2:Nat):Int)-1).toNat=n+1:=by omega
 have qk:(((n+2:Nat):Int)-2).toNat=n:=by omega
 have ek:(((j+1:Nat):Int)-1)=(j:Int):=by omega
 have agq:=iQ ((val b*2 ^ s)) (n+1)
 have aav:=iQ ((val b*2 ^ s)) n
 have hu0:=jc gE (n+2+j)
 have zA:=jc gE (n+1+j)
 have vq:=jc gE (n+j)
 refine aeH rfl ?_
 refine av ?_
 refine lp4 (fun(i:Nat) (wl:List Nat) (c br:Nat) L=>(((((((((((((St.mk L.slot (hp [(1001057,⟨1,wl.map bu,true⟩),(1001105,⟨1,(iS ((aq (val b)).length+1) (val b*2 ^ s)).map bu,false⟩),(77,⟨1,ql.map bu,true⟩)])).put (some 4) (.ref 77 1 0 q0)).put (some 9) (ai s)).put (some 10) (.ref 1001057 1 0 (m+1))).put (some 11) (bl (val b*2 ^ s))).put (some 12) (ai (n+2))).put (some 13) (iL (((j+1:Nat):Int)-1))).put (some 15) (cQ x)).put (some 17) (cQ br)).put (some 18) (cQ c)).put (some 154) (bl (val b*2 ^ s))).put (some 155) (ai (n+2))).put (some 156) (ai i))) (fun i wl c br=>i<=n+2/\wl.length=m+1/\bX wl/\c<4294967296/\br<=1/\val wl+4294967296 ^ j*(x*val ((aq (val b*2 ^ s)).take i))=val ul+4294967296 ^ (i+j)*(c+br)/\∀ p,n+2+j<=p->wl.getD p 0=ul.getD p 0) (fun i wl c br=>n+2-i) 0 ul 0 0 ⟨b8 _,mi,gE,ae,ae,by simp [val],fun _ _=>rfl⟩ (h0:=⟨_,az.of_eq (aj (aj (aj (aj (aj (aj (aj (aj (aj (aj (aj (aj (bG ff) ff) ff) ff) ff) ff) ff) ff) ff) ff) ff) ff) ff)⟩) ?_
 rintro i wl c br L3 ⟨hi,iZ,ig,hc,nW,hv5,hz5⟩
 have kg:((i:Int)+(j:Int)).toNat=i+j:=by omega
 have hvi:=iQ (val b*2 ^ s) i
 have hmul:=vi hxB hvi
 have hwi:=jc ig (i+j)
 refine aD ?_
 refine aF rfl ?_ ?_<;>intro aKr aJR
 ·refine atN ?_
  refine ao rfl (.bin rfl rfl (aEp)) ?_
  refine ao rfl (.bin rfl rfl (aeL ae)) ?_
  refine av ?_
  refine ao rfl (.bin rfl rfl (aeL ae)) ?_
  refine atN ?_
  exact qW (i+1) (wl.set (i+j) (((18446744073709551616+(18446744073709551616+wl.getD (i+j) 0-(c+x*(aq (val b*2 ^ s)).getD i 0) % 4294967296) % 18446744073709551616-br) % 18446744073709551616) % 4294967296)) ((c+x*(aq (val b*2 ^ s)).getD i 0)/4294967296) (((18446744073709551616+(18446744073709551616+wl.getD (i+j) 0-(c+x*(aq (val b*2 ^ s)).getD i 0) % 4294967296) % 18446744073709551616-br) % 18446744073709551616)/9223372036854775808) (by
   obtain⟨g1,g2,g3⟩:=ay5 ae ig nW hv5 (c1:=(c+x*(aq (val b*2 ^ s)).getD i 0)) rfl rfl
   exact⟨ae,by simp [iZ],g2,ae,g1,g3,fun p hp=>by rw [Go.Lg.getD_set_ne _ _ _ _ ae];exact hz5 p hp⟩) (he:=az.of_eq (aj (aj (aj (aj (aj (aj (aj (aj (aj (aj (aj (aj (bG ff) ff) ff) ff) ff) ff) ff) ff) ff) ff) ff) ff) ff))
 ·obtain rfl:i=n+2:=by omega
  rw [de ae,ck] at hv5
  refine aA ?_
  exact ab6 (hQ (wl) (c) (br) _ ⟨iZ,ig,hc,nW,hv5,hz5⟩) (aj (aj (aj (aj (aj (aj (aj (aj (aj (bG cl) cl) cl) cl) cl) cl) cl) cl) cl) cl)
open acz in
theorem aGj (b ul ql:List Nat) (n s m q0 j:Nat) (jZ:(aq (val b*2 ^ s)).length=n+2) (kh:n+2<=m) (n6:m<=1099511627776) (oI:q0=m+1-(n+2)) (hk:j+1<=q0) (mi:ul.length=m+1) (jK:ql.length=q0) (gE:bX ul) (mb:bX ql) (uk:2147483648<=(aq (val b*2 ^ s)).getD (n+1) 0) (lh:0<(val b*2 ^ s)) (vJ:(val b*2 ^ s)<4294967296 ^ (n+2)) (bM:val ul<(val b*2 ^ s)*4294967296 ^ (j+1)) (x:Nat) (fN:val ul/4294967296 ^ j/(val b*2 ^ s)<=x) (oO:x<=val ul/4294967296 ^ j/(val b*2 ^ s)+1) (hxB:x<4294967296) (wl:List Nat) (c br:Nat) (iZ:wl.length=m+1) (ig:bX wl) (hc:c<4294967296) (nW:br<=1) (hv5:val wl+4294967296 ^ j*(x*(val b*2 ^ s))=val ul+4294967296 ^ (n+2+j)*(c+br)) (hz5:∀ p,n+2+j<=p->wl.getD p 0=ul.getD p 0) {Q:jW->St->Prop} (L1:St)
  (hQ:∀ (w4:List Nat) (x4:Nat) (L2:St),(x4=val ul/4294967296 ^ j/(val b*2 ^ s)/\w4.length=m+1/\bX w4/\val w4+4294967296 ^ j*(x4*(val b*2 ^ s))=val ul)->Q .normal ((((((((St.mk L2.slot (hp [(1001057,⟨1,w4.map bu,true⟩),(1001105,⟨1,(iS ((aq (val b)).length+1) (val b*2 ^ s)).map bu,false⟩),(77,⟨1,ql.map bu,true⟩)])).put (some 4) (.ref 77 1 0 q0)).put (some 9) (ai s)).put (some 10) (.ref 1001057 1 0 (m+1))).put (some 11) (bl (val b*2 ^ s))).put (some 12) (ai (n+2))).put (some 13) (iL (((j+1:Nat):Int)-1))).put (some 15) (cQ x4))) :
  cP al ((abF afk [1,1,1,1,1,1,1,0,1,0,0,1,0,0,1,1,1,1,1,1,1,0,1]).getD .skip) Q ((((((((((St.mk L1.slot (hp [(1001057,⟨1,(wl.set (n+2+j) (((18446744073709551616+(18446744073709551616+wl.getD (n+2+j) 0-c) % 18446744073709551616-br) % 18446744073709551616) % 4294967296)).map bu,true⟩),(1001105,⟨1,(iS ((aq (val b)).length+1) (val b*2 ^ s)).map bu,false⟩),(77,⟨1,ql.map bu,true⟩)])).put (some 4) (.ref 77 1 0 q0)).put (some 9) (ai s)).put (some 10) (.ref 1001057 1 0 (m+1))).put (some 11) (bl (val b*2 ^ s))).put (some 12) (ai (n+2))).put (some 13) (iL (((j+1:Nat):Int)-1))).put (some 15) (cQ x)).put (some 22) (cQ ((18446744073709551616+(18446744073709551616+wl.getD (n+2+j) 0-c) % 18446744073709551616-br) % 18446744073709551616))).put (some 211) (.v (.bool (((((18446744073709551616+(18446744073709551616+wl.getD (n+2+j) 0-c) % 18446744073709551616-br) % 18446744073709551616)/9223372036854775808:Nat):Int) != 0)))):=by
 have ej:True:=trivial
 have ek:True:=trivial
 have es:True:=trivial
 have eV:True:=trivial
 have pb:True:=trivial
 have ou:True:=trivial
 have q7:True:=trivial
 have sB:True:=trivial
 have tp:True:=trivial
 have oK:True:=trivial
 have qk:True:=trivial
 have kg:True:=trivial
 have uz:True:=trivial
 have uj:True:=trivial
 have pE:True:=trivial
 have rv:True:=trivial
 have sr:True:=trivial
 have sF:True:=trivial
 have mL:True:=trivial
 have pb:((j:Int)+((n+2:Nat):Int)).toNat=n+2+j:=by omega
 have ou:((j:Int)+((n+2:Nat):Int)-1).toNat=n+1+j:=by omega
 have q7:((j:Int)+((n+2:Nat):Int)-2).toNat=n+j:=by omega
 have oK:(((n+2:Nat):Int)-1).toNat=n+1:=by omega
 have qk:(((n+2:Nat):Int)-2).toNat=n:=by omega
 have ek:(((j+1:Nat):Int)-1)=(j:Int):=by omega
 have agq:=iQ ((val b*2 ^ s)) (n+1)
 have aav:=iQ ((val b*2 ^ s)) n
 have hu0:=jc gE (n+2+j)
 have zA:=jc gE (n+1+j)
 have vq:=jc gE (n+j)
 have hz:=ahN (n:=n+2) (j:=j) vJ bM
 obtain⟨ahe,xo,hv6⟩:=ao8 (n:=n+2) ae ig nW hc hv5 rfl rfl
 have kF:=jc ig (n+2+j)
 refine aeH rfl ?_
 refine aF rfl ?_ ?_<;>intro aJ5 aJT
 ·have jS:((18446744073709551616+(18446744073709551616+wl.getD (n+2+j) 0-c) % 18446744073709551616-br) % 18446744073709551616)/9223372036854775808=1:=by omega
  have hgt:=aCR (V:=(val b*2 ^ s)) (n:=n+2) (j:=j) (x:=x) (ul:=(wl.set (n+2+j) (((18446744073709551616+(18446744073709551616+wl.getD (n+2+j) 0-c) % 18446744073709551616-br) % 18446744073709551616) % 4294967296))) (ul0:=ul) (by rw [hv6,jS,jF]) (aFi ahe (fun p hp=>by rw [Go.Lg.getD_set_ne _ _ _ _ ae,hz5 p ae];exact hz p hp)) lh
  have iU:1<=x:=ug (b8 _) hgt
  refine aL ?_
  refine ao rfl (.bin rfl rfl (asT (show 1<=x by omega) ae)) ?_
  refine jw ?_
  refine tV (fun(ii:Nat) (w3:List Nat) (c3:Nat) L=>((((((((((((St.mk L.slot (hp [(1001057,⟨1,w3.map bu,true⟩),(1001105,⟨1,(iS ((aq (val b)).length+1) (val b*2 ^ s)).map bu,false⟩),(77,⟨1,ql.map bu,true⟩)])).put (some 4) (.ref 77 1 0 q0)).put (some 9) (ai s)).put (some 10) (.ref 1001057 1 0 (m+1))).put (some 11) (bl (val b*2 ^ s))).put (some 12) (ai (n+2))).put (some 13) (iL (((j+1:Nat):Int)-1))).put (some 15) (cQ (x-1))).put (some 18) (cQ c3)).put (some 214) (bl (val b*2 ^ s))).put (some 215) (ai (n+2))).put (some 216) (ai ii))) (fun ii w3 c3=>ii<=n+2/\w3.length=m+1/\bX w3/\c3<=1/\val w3+4294967296 ^ (ii+j)*c3=val (wl.set (n+2+j) (((18446744073709551616+(18446744073709551616+wl.getD (n+2+j) 0-c) % 18446744073709551616-br) % 18446744073709551616) % 4294967296))+4294967296 ^ j*val ((aq (val b*2 ^ s)).take ii)/\∀ p,n+2+j+1<=p->w3.getD p 0=0) (fun ii w3 c3=>n+2-ii) 0 (wl.set (n+2+j) (((18446744073709551616+(18446744073709551616+wl.getD (n+2+j) 0-c) % 18446744073709551616-br) % 18446744073709551616) % 4294967296)) 0 ⟨b8 _,by simp [iZ],ahe,ae,by simp [val],fun p hp=>by rw [Go.Lg.getD_set_ne _ _ _ _ ae,hz5 p ae];exact hz p hp⟩ (h0:=⟨_,az.of_eq (aj (aj (aj (aj (aj (aj (aj (aj (aj (aj (aj (bG ff) ff) ff) ff) ff) ff) ff) ff) ff) ff) ff) ff)⟩) ?_
  rintro ii w3 c3 L4 ⟨hi3,hw3,nj,hc3,hv7,hz7⟩
  have uz:((ii:Int)+(j:Int)).toNat=ii+j:=by omega
  have aKG:=iQ (val b*2 ^ s) ii
  have aKn:=jc nj (ii+j)
  refine aD ?_
  refine aF rfl ?_ ?_<;>intro aKg aJ4
  ·refine aDw ?_
   exact tD (ii+1) (w3.set (ii+j) ((c3+(w3.getD (ii+j) 0+(aq (val b*2 ^ s)).getD ii 0)) % 4294967296)) ((c3+(w3.getD (ii+j) 0+(aq (val b*2 ^ s)).getD ii 0))/4294967296) (by
    obtain⟨g1,g2⟩:=ayR ae nj hv7 (s:=(c3+(w3.getD (ii+j) 0+(aq (val b*2 ^ s)).getD ii 0))) rfl
    exact⟨ae,by simp [hw3],g1,ae,g2,fun p hp=>by rw [Go.Lg.getD_set_ne _ _ _ _ ae];exact hz7 p hp⟩) (he:=az.of_eq (aj (aj (aj (aj (aj (aj (aj (aj (aj (aj (aj (bG ff) ff) ff) ff) ff) ff) ff) ff) ff) ff) ff) ff))
  ·obtain rfl:ii=n+2:=by omega
   rw [de ae,ck] at hv7
   have aKa:=jc nj (n+2+j)
   have hxe:x-1=val ul/4294967296 ^ j/(val b*2 ^ s):=by omega
   have aCD:4294967296 ^ j*((x-1)*(val b*2 ^ s))<=val ul:=by rw [hxe];exact a9 (jX _ (aqR _ _)) (Nat.mul_div_le _ _)
   have ll:=aCZ (ul:=(wl.set (n+2+j) (((18446744073709551616+(18446744073709551616+wl.getD (n+2+j) 0-c) % 18446744073709551616-br) % 18446744073709551616) % 4294967296))) (ul0:=ul) (n:=n+2) (j:=j) (x:=x) (V:=(val b*2 ^ s)) (ul3:=w3) (c:=c3) ae aCD (by rw [hv6,jS,jF]) ae nj hz7 hc3 hv7 rfl
   refine dH ?_
   refine ao rfl (.bin rfl rfl (aFy)) ?_
   refine aL ?_
   exact ab6 (hQ (w3.set (n+2+j) ((w3.getD (n+2+j) 0+c3) % 4294967296)) (x-1) _ ⟨hxe,by simp [hw3],ll.1,ll.2⟩) (aj (aj (aj (aj (aj (aj (aj (bG cl) cl) cl) cl) cl) cl) cl) cl)
 ·have jD:((18446744073709551616+(18446744073709551616+wl.getD (n+2+j) 0-c) % 18446744073709551616-br) % 18446744073709551616)/9223372036854775808=0:=by omega
  rw [jD,aaf,mf] at hv6
  have hxF:x=val ul/4294967296 ^ j/(val b*2 ^ s):=by have:=aAG hv6 lh;omega
  refine av ?_
  exact ab6 (hQ ((wl.set (n+2+j) (((18446744073709551616+(18446744073709551616+wl.getD (n+2+j) 0-c) % 18446744073709551616-br) % 18446744073709551616) % 4294967296))) (x) _ ⟨hxF,by simp [iZ],ahe,hv6⟩) (aj (aj (aj (aj (aj (aj (aj (bG cl) cl) cl) cl) cl) cl) cl) cl)
open acz in
theorem aI2 (b ul ql:List Nat) (n s m q0 j:Nat) (jZ:(aq (val b*2 ^ s)).length=n+2) (kh:n+2<=m) (n6:m<=1099511627776) (oI:q0=m+1-(n+2)) (hk:j+1<=q0) (mi:ul.length=m+1) (jK:ql.length=q0) (gE:bX ul) (mb:bX ql) (uk:2147483648<=(aq (val b*2 ^ s)).getD (n+1) 0) (lh:0<(val b*2 ^ s)) (vJ:(val b*2 ^ s)<4294967296 ^ (n+2)) (bM:val ul<(val b*2 ^ s)*4294967296 ^ (j+1)) {Q:jW->St->Prop} (L1:St)
  (hQ:∀ (w4:List Nat) (x4:Nat) (L2:St),(x4=val ul/4294967296 ^ j/(val b*2 ^ s)/\w4.length=m+1/\bX w4/\val w4+4294967296 ^ j*(x4*(val b*2 ^ s))=val ul)->Q .normal (((((((St.mk L2.slot (hp [(1001057,⟨1,w4.map bu,true⟩),(1001105,⟨1,(iS ((aq (val b)).length+1) (val b*2 ^ s)).map bu,false⟩),(77,⟨1,(ql.set j (x4 % 4294967296)).map bu,true⟩)])).put (some 4) (.ref 77 1 0 q0)).put (some 9) (ai s)).put (some 10) (.ref 1001057 1 0 (m+1))).put (some 11) (bl (val b*2 ^ s))).put (some 12) (ai (n+2))).put (some 13) (iL (((j+1:Nat):Int)-1)))) :
  cP al ((abF afk [1,1,1,1,1,1,1,0,1,0,0,1,0]).getD .skip) Q (((((((St.mk L1.slot (hp [(1001057,⟨1,ul.map bu,true⟩),(1001105,⟨1,(iS ((aq (val b)).length+1) (val b*2 ^ s)).map bu,false⟩),(77,⟨1,ql.map bu,true⟩)])).put (some 4) (.ref 77 1 0 q0)).put (some 9) (ai s)).put (some 10) (.ref 1001057 1 0 (m+1))).put (some 11) (bl (val b*2 ^ s))).put (some 12) (ai (n+2))).put (some 13) (iL (((j+1:Nat):Int)-1))):=by
 have ej:True:=trivial
 have ek:True:=trivial
 have es:True:=trivial
 have eV:True:=trivial
 have pb:True:=trivial
 have ou:True:=trivial
 have q7:True:=trivial
 have sB:True:=trivial
 have tp:True:=trivial
 have oK:True:=trivial
 have qk:True:=trivial
 have kg:True:=trivial
 have uz:True:=trivial
 have uj:True:=trivial
 have pE:True:=trivial
 have rv:True:=trivial
 have sr:True:=trivial
 have sF:True:=trivial
 have mL:True:=trivial
 have pb:((j:Int)+((n+2:Nat):Int)).toNat=n+2+j:=by omega
 have ou:((j:Int)+((n+2:Nat):Int)-1).toNat=n+1+j:=by omega
 have q7:((j:Int)+((n+2:Nat):Int)-2).toNat=n+j:=by omega
 have oK:(((n+2:Nat):Int)-1).toNat=n+1:=by omega
 have qk:(((n+2:Nat):Int)-2).toNat=n:=by omega
 have ek:(((j+1:Nat):Int)-1)=(j:Int):=by omega
 have agq:=iQ ((val b*2 ^ s)) (n+1)
 have aav:=iQ ((val b*2 ^ s)) n
 have hu0:=jc gE (n+2+j)
 have zA:=jc gE (n+1+j)
 have vq:=jc gE (n+j)
 have hz:=ahN (n:=n+2) (j:=j) vJ bM
 refine aeH rfl ?_
 refine aP ?_
 refine a8 18 an ?_
 refine aaA ?_
 refine a8 18 an ?_
 refine aY ?_
 refine ao rfl (.bin rfl rfl (aiJ (by simp only [oK,fW];omega) ae)) ?_
 refine aY ?_
 refine ao rfl (.bin rfl rfl (al1 (by simp only [oK,fW];omega))) ?_
 refine ba ?_
 refine aeP (S:=fun L=>(((((((((St.mk L.slot (hp [(1001057,⟨1,ul.map bu,true⟩),(1001105,⟨1,(iS ((aq (val b)).length+1) (val b*2 ^ s)).map bu,false⟩),(77,⟨1,ql.map bu,true⟩)])).put (some 4) (.ref 77 1 0 q0)).put (some 9) (ai s)).put (some 10) (.ref 1001057 1 0 (m+1))).put (some 11) (bl (val b*2 ^ s))).put (some 12) (ai (n+2))).put (some 13) (iL (((j+1:Nat):Int)-1))).put (some 15) (cQ ((ul.getD (n+2+j) 0*4294967296+ul.getD (n+1+j) 0)/(aq (val b*2 ^ s)).getD (n+1) 0))).put (some 16) (cQ ((ul.getD (n+2+j) 0*4294967296+ul.getD (n+1+j) 0) % (aq (val b*2 ^ s)).getD (n+1) 0)))) (aj (aj (aj (aj (aj (aj (aj (aj (bG cl) cl) cl) cl) cl) cl) cl) cl) cl) ?_
 refine aIV b ul ql n s m q0 j jZ kh n6 oI hk mi jK gE mb uk lh vJ bM _ ?_
 rintro x LQ ⟨fN,oO,hxB⟩
 refine iI ?_
 refine aeP (S:=fun L=>(((((((((((((St.mk L.slot (hp [(1001057,⟨1,ul.map bu,true⟩),(1001105,⟨1,(iS ((aq (val b)).length+1) (val b*2 ^ s)).map bu,false⟩),(77,⟨1,ql.map bu,true⟩)])).put (some 4) (.ref 77 1 0 q0)).put (some 9) (ai s)).put (some 10) (.ref 1001057 1 0 (m+1))).put (some 11) (bl (val b*2 ^ s))).put (some 12) (ai (n+2))).put (some 13) (iL (((j+1:Nat):Int)-1))).put (some 15) (cQ x)).put (some 17) (cQ 0)).put (some 18) (cQ 0)).put (some 154) (bl (val b*2 ^ s))).put (some 155) (ai (n+2))).put (some 156) (ai 0))) (aj (aj (aj (aj (aj (aj (aj (aj (aj (aj (aj (aj (bG cl) cl) cl) cl) cl) cl) cl) cl) cl) cl) cl) cl) cl) ?_
 refine aDP b ul ql n s m q0 j jZ kh n6 oI hk mi jK gE mb uk lh vJ bM x fN hxB _ ?_
 rintro wl c br LQ ⟨iZ,ig,hc,nW,hv5,hz5⟩
 obtain⟨ahe,xo,hv6⟩:=ao8 (n:=n+2) ae ig nW hc hv5 rfl rfl
 have kF:=jc ig (n+2+j)
 refine bD ?_
 refine ao rfl (.bin rfl rfl (aeL ae)) ?_
 refine av ?_
 refine ao rfl (.bin rfl rfl (aeL ae)) ?_
 refine aa2 ?_
 refine aeP (S:=fun L=>((((((((((St.mk L.slot (hp [(1001057,⟨1,(wl.set (n+2+j) (((18446744073709551616+(18446744073709551616+wl.getD (n+2+j) 0-c) % 18446744073709551616-br) % 18446744073709551616) % 4294967296)).map bu,true⟩),(1001105,⟨1,(iS ((aq (val b)).length+1) (val b*2 ^ s)).map bu,false⟩),(77,⟨1,ql.map bu,true⟩)])).put (some 4) (.ref 77 1 0 q0)).put (some 9) (ai s)).put (some 10) (.ref 1001057 1 0 (m+1))).put (some 11) (bl (val b*2 ^ s))).put (some 12) (ai (n+2))).put (some 13) (iL (((j+1:Nat):Int)-1))).put (some 15) (cQ x)).put (some 22) (cQ ((18446744073709551616+(18446744073709551616+wl.getD (n+2+j) 0-c) % 18446744073709551616-br) % 18446744073709551616))).put (some 211) (.v (.bool (((((18446744073709551616+(18446744073709551616+wl.getD (n+2+j) 0-c) % 18446744073709551616-br) % 18446744073709551616)/9223372036854775808:Nat):Int) != 0))))) (aj (aj (aj (aj (aj (aj (aj (aj (aj (bG cl) cl) cl) cl) cl) cl) cl) cl) cl) cl) ?_
 refine aGj b ul ql n s m q0 j jZ kh n6 oI hk mi jK gE mb uk lh vJ bM x fN oO hxB wl c br iZ ig hc nW hv5 hz5 _ ?_
 rintro w4 x4 LQ ⟨hx4,hw4,hl4,hv8⟩
 have hRV:val ul/4294967296 ^ j<(val b*2 ^ s)*4294967296:=by
  obtain⟨_,_,_,_,_,_,h⟩:=amt (j:=j) jZ ae gE bM
  exact h
 have hqB:val ul/4294967296 ^ j/(val b*2 ^ s)<4294967296:=by rw [nP lh,fy];exact hRV
 have ajF:x4<4294967296:=by rw [hx4];exact hqB
 have auV:x4 % 4294967296=x4:=iF ajF
 refine bI ?_
 exact ab6 (hQ (w4) (x4) _ ⟨hx4,hw4,hl4,hv8⟩) (aj (aj (aj (aj (aj (aj (bG cl) cl) cl) cl) cl) cl) cl)
open acz in
theorem aAQ (b ul ql:List Nat) (s m q0 T:Nat) (tG:s<32) (n6:m<=1099511627776) (mi:ul.length=m+1) (gE:bX ul) (hTm:T<=m+1) (hTz:∀ p,T<=p->ul.getD p 0=0) (aaX:ul.getD 0 0 % 2 ^ s=0) {Q:jW->St->Prop} (L1:St)
  (hQ:∀ (w:List Nat) (L2:St),(w.length=m+1/\bX w/\2 ^ s*val (w.take T)=val (ul.take T)+4294967296 ^ T*(ul.getD T 0 % 2 ^ s))->Q .normal (((St.mk L2.slot (hp [(1001057,⟨1,w.map bu,true⟩),(1001105,⟨1,(iS ((aq (val b)).length+1) (val b*2 ^ s)).map bu,false⟩),(77,⟨1,ql.map bu,true⟩)])).put (some 4) (.ref 77 1 0 q0)).put (some 5) (.ref 1001057 1 0 T))) :
  cP al ((abF afk [1,1,1,1,1,1,1,1,1,0,1]).getD .skip) Q (((((((St.mk L1.slot (hp [(1001057,⟨1,ul.map bu,true⟩),(1001105,⟨1,(iS ((aq (val b)).length+1) (val b*2 ^ s)).map bu,false⟩),(77,⟨1,ql.map bu,true⟩)])).put (some 4) (.ref 77 1 0 q0)).put (some 5) (.ref 1001057 1 0 T)).put (some 9) (ai s)).put (some 260) (.ref 1001057 1 0 T)).put (some 261) (ai T)).put (some 262) (ai 0)):=by
 have ej:True:=trivial
 have ek:True:=trivial
 have es:True:=trivial
 have eV:True:=trivial
 have pb:True:=trivial
 have ou:True:=trivial
 have q7:True:=trivial
 have sB:True:=trivial
 have tp:True:=trivial
 have oK:True:=trivial
 have qk:True:=trivial
 have kg:True:=trivial
 have uz:True:=trivial
 have uj:True:=trivial
 have pE:True:=trivial
 have rv:True:=trivial
 have sr:True:=trivial
 have sF:True:=trivial
 have mL:True:=trivial
 have jZ:True:=trivial
 refine aeH rfl ?_
 refine av ?_
 refine lG (fun(i:Nat) (w:List Nat) L=>(((((((St.mk L.slot (hp [(1001057,⟨1,w.map bu,true⟩),(1001105,⟨1,(iS ((aq (val b)).length+1) (val b*2 ^ s)).map bu,false⟩),(77,⟨1,ql.map bu,true⟩)])).put (some 4) (.ref 77 1 0 q0)).put (some 5) (.ref 1001057 1 0 T)).put (some 9) (ai s)).put (some 260) (.ref 1001057 1 0 T)).put (some 261) (ai T)).put (some 262) (ai i))) (fun i w=>i<=T/\w.length=m+1/\bX w/\(∀ p,i<=p->w.getD p 0=ul.getD p 0)/\2 ^ s*val (w.take i)=val (ul.take i)+4294967296 ^ i*(ul.getD i 0 % 2 ^ s)) (fun i w=>T-i) 0 ul ⟨b8 _,mi,gE,fun _ _=>rfl,by rw [aaX];simp [val]⟩ ?_
 rintro i w L5 ⟨hi,iZ,ig,hz9,hv9⟩
 have mL:((i:Int)+1).toNat=i+1:=by omega
 have hwi:=jc ig i
 have aKE:=jc gE (i+1)
 have pE:=hz9 i (bp _)
 have rv:=hz9 (i+1) ae
 have hui:=jc gE i
 obtain⟨hh1,hh2⟩:=amY (z:=ul.getD (i+1) 0) (show s<=32 by omega) hui
 have hh3:ul.getD i 0/2 ^ s<4294967296:=by omega
 refine aD ?_
 refine aF rfl ?_ ?_<;>intro aKb aKc
 ·have sr:(w.set i (ul.getD i 0/2 ^ s)).getD i 0=ul.getD i 0/2 ^ s:=ar6 _ _ _ ae
  have sF:(w.set i (ul.getD i 0/2 ^ s)).getD (i+1) 0=ul.getD (i+1) 0:=by rw [Go.Lg.getD_set_ne _ _ _ _ ae];exact rv
  refine jw ?_
  refine ao rfl (.sh rfl rfl (aeu (m:=s) (by show s<=32;omega))) ?_
  refine bE ?_
  refine dg 274 rfl ?_ ?_<;>intro aJ8 aKq
  ·refine bn ?_
   refine aF rfl ?_ ?_<;>intro aKj aKQ
   ·refine a8 14 an ?_
    refine bD ?_
    refine ao rfl (.sh rfl rfl (aF0 (s:=s) ae)) ?_
    refine ao rfl (.bin rfl rfl (aFU (by simp only [e1,e2,e3,e4,p1,p2,p3,q1,q2,q3,l1,t0,t1,r1,r2,r3,r4,fw,aow,aeY,b1,b2,b3,b4,b5,b6,i1,i2,i3,i4,i5,i6,vZ,fW,pE,rv,sr,sF,mL];exact hh1) (by simp only [e1,e2,e3,e4,p1,p2,p3,q1,q2,q3,l1,t0,t1,r1,r2,r3,r4,fw,aow,aeY,b1,b2,b3,b4,b5,b6,i1,i2,i3,i4,i5,i6,vZ,fW,pE,rv,sr,sF,mL];exact hh2))) ?_
    refine bI ?_
    exact iW (i+1) (w.set i (ul.getD (i+1) 0 % 2 ^ s*2 ^ (32-s)+ul.getD i 0/2 ^ s)) ⟨ae,by simp [iZ],mO ig _ _ hh2,fun p hp=>by rw [Go.Lg.getD_set_ne _ _ _ _ ae];exact hz9 p ae,ajG ae tG pE hv9 (pM _ _)⟩
   ·refine bn ?_
    exact iW (i+1) (w.set i (ul.getD i 0/2 ^ s)) ⟨ae,by simp [iZ],mO ig _ _ hh3,fun p hp=>by rw [Go.Lg.getD_set_ne _ _ _ _ ae];exact hz9 p ae,ajG ae tG pE hv9 (by rw [hTz (i+1) ae];simp)⟩
  ·refine jw ?_
   exact iW (i+1) (w.set i (ul.getD i 0/2 ^ s)) ⟨ae,by simp [iZ],mO ig _ _ hh3,fun p hp=>by rw [Go.Lg.getD_set_ne _ _ _ _ ae];exact hz9 p ae,ajG ae tG pE hv9 (by rw [show s=0 by omega];simp [Nat.mod_one])⟩
 ·obtain rfl:i=T:=by omega
  refine aA ?_
  exact ab6 (hQ (w) _ ⟨iZ,ig,hv9⟩) (aj (aj (bG cl) cl) cl)
open acz in
theorem ajq (a b:List Nat) (ha:bX a) (hb:bX b) (fQ:a.length<=1099511627776) (l7:b.length<=1099511627776) (gf:0<val b):ax al 236 [eZ a,eZ b] (.bf [bl (val a/val b),bl (val a % val b),iL 0]):=by
 have abI:=acn a ha fQ
 have agG:=acn b hb l7
 have aKF:(aq (val b)).length≠0:=fun h=>by have:=sM.1 (m8 h);omega
 refine aS Tryz.func236 ?_
 have ej:True:=trivial
 have ek:True:=trivial
 have es:True:=trivial
 have eV:True:=trivial
 have pb:True:=trivial
 have ou:True:=trivial
 have q7:True:=trivial
 have sB:True:=trivial
 have tp:True:=trivial
 have oK:True:=trivial
 have qk:True:=trivial
 have kg:True:=trivial
 have uz:True:=trivial
 have uj:True:=trivial
 have pE:True:=trivial
 have rv:True:=trivial
 have sr:True:=trivial
 have sF:True:=trivial
 have mL:True:=trivial
 have jZ:True:=trivial
 refine bI ?_
 refine cp aQ (rK _ iT tE) ?_
 refine av ?_
 refine cp aQ (rK _ iT tE) ?_
 refine dH ?_
 refine aF rfl ?_ ?_<;>intro adP h30
 ·exfalso
  omega
 ·refine aA ?_
  refine cp au (af9 _ _ iT iT ae ae) ?_
  refine aA ?_
  refine aF rfl ?_ ?_<;>intro aif h34
  ·have bM:val a<val b:=by
    apply o8
    intro hh
    rcases asX (Nat.le_of_not_lt hh) with h | h
    ·rw [tu h] at h34;omega
    ·rw [uq h.symm] at h34;omega
   refine aL ?_
   refine cp aQ (aeC _ ae) ?_
   refine bn ?_
   rw [aa7 bM,iF bM]
   exact aca [] rfl rfl (.nil 1) rfl (.pure (zf _)) rfl (.pure rfl)
  ·have kj:val b<=val a:=by
    apply o8
    intro hh
    rw [qP ae] at h34;omega
   refine bn ?_
   refine aF rfl ?_ ?_<;>intro adw h41
   ·have amT:val b<4294967296:=ua.1 ae
    have jS:aq (val b)=[val b]:=adh gf amT
    have rY:(aq (val b)).getD 0 0=val b:=by rw [jS];rfl
    have tp:=rY
    have w7:=lZ (val a) gf
    refine aD ?_
    refine cp au (aIK _ _ (cS _) ae (by show 0<(aq (val b)).getD 0 0;rw [rY];exact gf) (iQ _ _)) ?_
    refine ba ?_
    refine tx tN ?_
    refine aD ?_
    refine sP [55] sR (rK [val a % val b] (aBR ae) aT) ?_
    refine aL ?_
    refine tx nf2 ?_
    refine aA ?_
    exact aed
   ·obtain⟨n,hn⟩:∃ n,(aq (val b)).length=n+2:=⟨(aq (val b)).length-2,ae⟩
    obtain⟨m,hm⟩:∃ m,(aq (val a)).length=m:=⟨_,rfl⟩
    have sB:=hm
    have n6:m<=1099511627776:=by omega
    have kh:n+1+1<=m:=by rw [<-hm];have:=oq kj;omega
    have ej:(((aq (val b)).length:Int)-1).toNat=n+1:=by omega
    obtain⟨s,hs⟩:∃ s,s=32-dI ((aq (val b)).getD (n+1) 0):=⟨_,rfl⟩
    have aEW:dI ((aq (val b)).getD (n+1) 0)<=32:=vR.2 (iQ _ _)
    have es:(32:Int)-((dI ((aq (val b)).getD (n+1) 0):Nat):Int)=((s:Nat):Int):=by rw [aqs aEW,hs]
    obtain⟨tG,jZ,ah1,vJ⟩:=asK (n:=n+1) hn hs
    have lh:0<val b*2 ^ s:=nt gf (lY ae)
    have eV:val (iS ((aq (val b)).length+1) (val b*2 ^ s))=val b*2 ^ s:=ang (by rw [hn];exact yw vJ (lO ae ae))
    have uk:=auN jZ ah1
    have agq:=iQ (val b*2 ^ s) (n+1)
    have aav:=iQ (val b*2 ^ s) n
    obtain⟨aDV,ayt⟩:=ayT (n:=n+1) tG hm kh ah1
    obtain⟨q0,oI⟩:∃ q0,q0=m+1-(n+2):=⟨_,rfl⟩
    have uj:((m:Int)+1-((n+2:Nat):Int))=((q0:Nat):Int):=by omega
    have oK:(((n+2:Nat):Int)-1).toNat=n+1:=by omega
    have qk:(((n+2:Nat):Int)-2).toNat=n:=by omega
    have hB1:val (iS (m+1) (val a*2 ^ s))=val a*2 ^ s:=ang ayt
    refine bD ?_
    refine cp aQ (aJq _ (iQ _ _)) ?_
    refine aY ?_
    refine aaV [] rfl rfl (.cons (.pure (kf _)) (.cons (.pure rfl) .nil)) (atS (val a) s ae tG) (a7 fZ _) rfl ?_
    refine aP ?_
    refine aaV [] rfl rfl (.cons (.pure (kf _)) (.cons (.pure rfl) .nil)) (atS (val b) s ae tG) (a7 fZ _) rfl ?_
    refine ahQ [1001105] rfl rfl (.cons (fC fZ rfl rfl (adi _ _).symm) .nil) (rK (iS ((aq (val b)).length+1) (val b*2 ^ s)) (an1 _ _) (by rw [adi];omega)) ?_
    refine aP ?_
    refine tx nf3 ?_
    refine aD ?_
    refine tx nf4 ?_
    refine aY ?_
    refine fG rfl rfl (.mw (n:=q0) (m:=q0) ml ml om om om) ?_
    refine dG ?_
    refine tV (fun(k:Nat) (ul ql:List Nat) L=>(((((((St.mk L.slot (hp [(1001057,⟨1,ul.map bu,true⟩),(1001105,⟨1,(iS ((aq (val b)).length+1) (val b*2 ^ s)).map bu,false⟩),(77,⟨1,ql.map bu,true⟩)])).put (some 4) (.ref 77 1 0 q0)).put (some 9) (ai s)).put (some 10) (.ref 1001057 1 0 (m+1))).put (some 11) (bl (val b*2 ^ s))).put (some 12) (ai (n+2))).put (some 13) (iL ((k:Int)-1)))) (fun k ul ql=>k<=q0/\ul.length=m+1/\ql.length=q0/\bX ul/\bX ql/\val ul+(val b*2 ^ s)*4294967296 ^ k*val (ql.drop k)=val a*2 ^ s/\val ul<(val b*2 ^ s)*4294967296 ^ k) (fun k ul ql=>k) q0 (iS (m+1) (val a*2 ^ s)) (ay q0 0) ⟨bp _,adi _ _,by simp,an1 _ _,vN _,by rw [jQ aT,hB1];simp [val],by rw [hB1,oI];exact aDV⟩ (h0:=⟨_,az.of_eq (aj (aj (aj (aj (aj (aj (bG te) te) te) te) te) te) te)⟩) ?_
    rintro k ul ql L1 ⟨hk,mi,jK,gE,mb,hv,bM⟩
    refine aY ?_
    refine aF rfl ?_ ?_<;>intro aJC h82
    ·obtain⟨j,rfl⟩:∃ j,k=j+1:=⟨k-1,ae⟩
     have ek:(((j+1:Nat):Int)-1)=(j:Int):=by omega
     refine aL ?_
     refine aeP (S:=fun L=>(((((((St.mk L.slot (hp [(1001057,⟨1,ul.map bu,true⟩),(1001105,⟨1,(iS ((aq (val b)).length+1) (val b*2 ^ s)).map bu,false⟩),(77,⟨1,ql.map bu,true⟩)])).put (some 4) (.ref 77 1 0 q0)).put (some 9) (ai s)).put (some 10) (.ref 1001057 1 0 (m+1))).put (some 11) (bl (val b*2 ^ s))).put (some 12) (ai (n+2))).put (some 13) (iL (((j+1:Nat):Int)-1)))) (aj (aj (aj (aj (aj (aj (bG cl) cl) cl) cl) cl) cl) cl) ?_
     refine aI2 b ul ql n s m q0 j jZ kh n6 oI hk mi jK gE mb uk lh vJ bM _ ?_
     rintro w4 x4 LQ ⟨hx4,hw4,hl4,hv8⟩
     have hRV:val ul/4294967296 ^ j<(val b*2 ^ s)*4294967296:=by
      obtain⟨_,_,_,_,_,_,h⟩:=amt (j:=j) jZ ae gE bM
      exact h
     have hqB:val ul/4294967296 ^ j/(val b*2 ^ s)<4294967296:=by rw [nP lh,fy];exact hRV
     have ajF:x4<4294967296:=by rw [hx4];exact hqB
     have auV:x4 % 4294967296=x4:=iF ajF
     obtain⟨nh,mZ⟩:=ars (j:=j) lh hx4 hv8 ae hv
     refine aY ?_
     exact tD j w4 (ql.set j (x4 % 4294967296)) ⟨ae,hw4,by simp [jK],hl4,mO mb _ _ ae,by rw [auV];exact nh,mZ⟩ (he:=az.of_eq (aj (aj (aj (aj (aj (aj (bG te) te) te) te) te) te) te))
    ·obtain rfl:k=0:=by omega
     rw [lQ,acg,jF] at hv
     rw [acg,jF] at bM
     obtain⟨hq,hr⟩:=asj gf hv bM
     obtain⟨T,hT⟩:∃ T,T=jt (m+1) ul:=⟨_,rfl⟩
     have hTm:T<=m+1:=by rw [hT];exact ak2 _ _
     have hTz:=aCu (l:=ul) (n:=m+1) mi.symm
     rw [<-hT] at hTz
     have aaX:=aqp ae hr
     refine bn ?_
     refine xD 1001057 rfl rfl rfl (a7 fZ _) (.cons .ref .nil) (.ref ae) (aD0 ul (m+1) mi.symm ae ae) rfl (a7 fZ _) ?_
     refine av ?_
     refine tx nf6 ?_
     refine bE ?_
     refine aeP (S:=fun L=>(((((((St.mk L.slot (hp [(1001057,⟨1,ul.map bu,true⟩),(1001105,⟨1,(iS ((aq (val b)).length+1) (val b*2 ^ s)).map bu,false⟩),(77,⟨1,ql.map bu,true⟩)])).put (some 4) (.ref 77 1 0 q0)).put (some 5) (.ref 1001057 1 0 T)).put (some 9) (ai s)).put (some 260) (.ref 1001057 1 0 T)).put (some 261) (ai T)).put (some 262) (ai 0))) (aj (aj (aj (aj (aj (aj (bG cl) cl) cl) cl) cl) cl) cl) ?_
     refine aAQ b ul ql s m q0 T tG n6 mi gE hTm hTz aaX _ ?_
     rintro w LQ ⟨iZ,ig,hv9⟩
     rw [hTz T (bp _),asF,aaf,mf] at hv9
     have ab4:val (w.take T)=val a % val b:=by
      have e1:=(aiC ul.length ul (bp _)).2
      rw [nn,mi,<-hT,hr] at e1
      rw [e1,fy] at hv9
      exact Nat.eq_of_mul_eq_mul_right (lY ae) hv9
     refine aA ?_
     refine sP [77] sR (rK ql mb ae) ?_
     refine av ?_
     refine sP [1001057] sR (rK (w.take T) (xp ig _) bw) ?_
     refine aD ?_
     rw [<-hq,<-ab4]
     exact aed
namespace ar7
theorem aM {p q:Prop} (k:q) (e:p=q:=by simp only [e1,e2,e3,e4,p1,p2,p3,q1,q2,q3,l1,t0,t1,r1,r2,r3,r4,Nat.zero_add,Nat.reduceMul,Nat.reduceAdd,b1,b2,b3,b4,b5,b6,i1,i2,i3,i4,i5,i6,Nat.reduceBEq,fW,ck];exact rfl):p:=e.mpr k
end ar7
open ar7 in
theorem amE (a b:List Nat) (ha:bX a) (hb:bX b) (fQ:a.length<=1099511627776) (l7:b.length<=1099511627776):ax al 148 [eZ a,eZ b] (bl (fS (val a) (val b))):=by
 have abI:=acn a ha fQ
 have agG:=acn b hb l7
 refine aS Tryz.func148 ?_
 refine bn ?_
 refine cp aQ (rK _ iT tE) ?_
 refine cp aQ (aeC _ ae) ?_
 refine av ?_
 refine cp aQ (rK _ iT tE) ?_
 refine cp aQ (aeC _ ae) ?_
 refine aD ?_
 refine lG (fun(x y:Nat) L=>(((St.mk L.slot (hp [])).put (some 5) (bl x)).put (some 6) (bl y))) (fun x y=>fS x y=fS (val a) (val b)/\(aq x).length<=1099511627776/\(aq y).length<=1099511627776) (fun x y=>y) (val a) (val b) ⟨rfl,abI,agG⟩ ?_
 rintro x y L1 ⟨hg,hx,hy⟩
 refine bn ?_
 refine aF rfl ?_ ?_<;>intro td rD
 ·have jO:0<y:=vc (fun h=>by rw [h,wb] at rD;simp at rD)
  refine aY ?_
  refine cp au (ajq _ _ (cS _) (cS _) ae ae (by rw [ck];exact jO)) ?_
  refine jw ?_
  exact iW y (x % y) ⟨by rw [qL,<-ad3,qL];exact hg,hy,a9 (oq (x9 (lZ x jO))) hy⟩ (hm:=lZ _ jO)
 ·refine dG ?_
  refine aF rfl ?_ ?_<;>intro zE h35
  ·have jO:y=0:=sM.1 (m8 ae)
   refine bn ?_
   subst jO
   rw [<-hg,aeO]
   exact dW
  ·have jO:0<y:=vc (fun h=>by rw [h,wb] at h35;simp at h35)
   refine bI ?_
   refine gY (fun L=>∃ (x2:Nat) (y2:Nat) (L1:St),(fS x2 y2=fS (val a) (val b)/\(aq x2).length<=2/\(aq y2).length<=2)/\L=(((St.mk L1.slot (hp [])).put (some 5) (bl x2)).put (some 6) (bl y2))) ?_ ?_
   ·refine aF rfl ?_ ?_<;>intro aJ1 h39
    ·refine aA ?_
     refine cp au (ajq _ _ (cS _) (cS _) ae ae (by rw [ck];exact jO)) ?_
     refine nZ ?_
     exact⟨y,x % y,_,⟨by rw [qL,<-ad3,qL];exact hg,ae,a9 (oq (x9 (lZ x jO))) ae⟩,((aj (aj (bG cl) cl) cl)).symm⟩
    ·refine aP ?_
     exact⟨x,y,_,⟨hg,ae,ae⟩,((aj (aj (bG cl) cl) cl)).symm⟩
   ·rintro _ ⟨x2,y2,aJS,⟨hg2,oO,hy2⟩,rfl⟩
    refine aA ?_
    refine cp aQ (aq9 _ (cS _) ae) ?_
    refine av ?_
    refine cp aQ (aq9 _ (cS _) ae) ?_
    refine aD ?_
    refine lG (fun(m n:Nat) L=>(((St.mk L.slot (hp [])).put (some 13) (cQ m)).put (some 14) (cQ n))) (fun m n=>fS m n=fS (val a) (val b)/\m<18446744073709551616/\n<18446744073709551616) (fun m n=>n) x2 y2 ⟨hg2,aai.1 oO,aai.1 hy2⟩ ?_
    rintro m n L2 ⟨zc,hm,hn⟩
    refine aY ?_
    refine aF rfl ?_ ?_<;>intro azq h54
    ·refine aL ?_
     refine a8 6 an ?_
     refine bE ?_
     exact iW n (m % n) ⟨by rw [qL,<-ad3,qL];exact zc,hn,by have:=lZ m (show n > 0 by omega);omega⟩ (hm:=lZ _ ae)
    ·obtain rfl:n=0:=by omega
     refine bn ?_
     refine cp aQ (an5 _ ae) ?_
     refine aA ?_
     rw [<-zc,aeO]
     exact dW
open H0 in
theorem amo :ax al 196 [] (bl 1):=by
 refine aS Tryz.func196 ?_
 refine bF ?_
 rw [show bl 1=.list 1 ([1].map bu) from rfl]
 exact ow [1] rfl rfl (fC fZ rfl rfl rfl)
namespace awp
theorem aM {p q:Prop} (k:q) (e:p=q:=by simp only [e1,e2,e3,e4,p1,p2,p3,q1,q2,q3,l1,t0,t1,r1,r2,r3,r4,Nat.zero_add,Nat.reduceMul,Nat.reduceAdd,b1,b2,b3,b4,b5,b6,i1,i2,i3,i4,i5,i6,Nat.reduceBEq,aV ar,cY];exact rfl):p:=e.mpr k
end awp
open awp in
theorem yc (q:Rat):ax al 175 [ah q] (bl q.den):=by
 refine aS Tryz.func175 ?_
 refine iI ?_
 refine aF rfl ?_ ?_<;>intro xr h6
 ·have jS:=an3 (show (aq (jH q)).length=0 by omega)
  refine aP ?_
  refine cp am0 (amo) ?_
  refine ba ?_
  rw [jS]
  exact dW
 ·have jS:=ajt (q:=q) ae
  refine bI ?_
  rw [<-jS]
  exact dW
open af1 in
theorem am9 (a:List Nat) (h:bX a) (hl:a.length<=2):ax al 246 [eZ a] (cQ (val a)):=by
 unfold eZ
 refine aS Tryz.func246 ?_
 have ej:True:=trivial
 refine oz ?_
 refine lG (fun(k n:Nat) L=>((((St.mk L.slot (hp [])).put (some 0) (.list 1 (a.map bu))).put (some 3) (cQ n)).put (some 4) (iL ((k:Int)-1)))) (fun k n=>k<=a.length/\n=val (a.drop k)) (fun k n=>k) a.length 0 ⟨bp _,by simp [val]⟩ ?_
 rintro k n L1 ⟨hk,hn⟩
 refine aY ?_
 refine aF rfl ?_ ?_<;>intro wi h9
 ·obtain⟨j,rfl⟩:∃ j,k=j+1:=⟨k-1,ae⟩
  have ej:(((j+1:Nat):Int)-1).toNat=j:=by omega
  have ek:(((j+1:Nat):Int)-1)=j:=by omega
  have hj:=jc h j
  have hnB:=aoW h (k:=j+1) (j:=1) ae
  rw [<-hn] at hnB
  refine aa2 ?_
  exact iW j (n*4294967296+a.getD j 0) ⟨ae,by rw [pj ae,hn];omega⟩
 ·obtain rfl:k=0:=by omega
  rw [lQ] at hn
  refine bF ?_
  rw [<-hn]
  exact dW
open H0 in
theorem aHC (a b:Nat) (ha:a<18446744073709551616) (hb:b<18446744073709551616):ax al 281 [cQ a,cQ b] (cQ (fS a b)):=by
 refine aS Tryz.func281 ?_
 refine aY ?_
 refine lG (fun(m n:Nat) L=>(((St.mk L.slot (hp [])).put (some 0) (cQ m)).put (some 1) (cQ n))) (fun m n=>fS m n=fS a b/\m<18446744073709551616/\n<18446744073709551616) (fun m n=>n) a b ⟨rfl,ha,hb⟩ ?_
 rintro m n L1 ⟨zc,hm,hn⟩
 refine aY ?_
 refine aF rfl ?_ ?_<;>intro xr h6
 ·refine aL ?_
  refine a8 6 an ?_
  refine bE ?_
  exact iW n (m % n) ⟨by rw [qL,<-ad3,qL];exact zc,hn,by have:=lZ m (show n > 0 by omega);omega⟩ (hm:=lZ _ ae)
 ·obtain rfl:n=0:=by omega
  refine bF ?_
  rw [<-zc,aeO]
  exact dW
namespace asZ
theorem aM {p q:Prop} (k:q) (e:p=q:=by simp only [e1,e2,e3,e4,p1,p2,p3,q1,q2,q3,l1,t0,t1,r1,r2,r3,r4,Nat.zero_add,Nat.reduceMul,Nat.reduceAdd,b1,b2,b3,b4,b5,b6,i1,i2,i3,i4,i5,i6,Nat.reduceBEq,fW,List.length_set,Nat.add_zero,eqm,eqz];exact rfl):p:=e.mpr k
end asZ
open asZ in
theorem aob (l:List Nat) (off len n:Nat) (hn:n<18446744073709551616) (h1:1<=len) (h2:4294967296<=n->2<=len) (hl:off+len<=l.length):nc al 282 ⟨1,l.map bu,true⟩ [.ref 0 1 off len,cQ n] (ai (mC n)) ⟨1,(p9 l off n).map bu,true⟩:=by
 refine xn Tryz.func282 ?_
 have eqm:True:=trivial
 have eqz:True:=trivial
 refine anY ?_
 refine aF rfl ?_ ?_<;>intro ajl h11
 ·have nh:n<4294967296:=by omega
  have eqz:n % 4294967296=n:=iF nh
  refine aY ?_
  simp only [p9,mC,if_pos nh,eqz]
  exact vK rfl (.cE (.pure rfl)) rfl rfl (a7 fZ _)
 ·have nh:¬ n<4294967296:=by omega
  have eqm:n/4294967296 % 4294967296=n/4294967296:=iF ae
  refine oV ?_
  simp only [p9,mC,if_neg nh]
  exact vK rfl (.cE (.pure rfl)) rfl rfl (a7 fZ _)
theorem aCY:val []=0:=rfl
theorem aEe (n:Nat):decide (((dI n:Nat):Int)=0)=decide (n=0):=by
 rw [decide_eq_decide,<-xf];omega
theorem abq {n:Nat} (h:(aq n).length=1):(aq n).getD 0 0=n/\0<n:=by
 have h0:0<n:=vc (fun e=>by rw [e,wb] at h;cases h)
 rw [adh h0 (ua.1 ae)];exact⟨rfl,h0⟩
namespace ap6
theorem aM {p q:Prop} (k:q) (e:p=q:=by simp only [e1,e2,e3,e4,p1,p2,p3,q1,q2,q3,l1,t0,t1,r1,r2,r3,r4,Nat.zero_add,Nat.reduceMul,Nat.reduceAdd,b1,b2,b3,b4,b5,b6,i1,i2,i3,i4,i5,i6,Nat.reduceBEq,aV ar,cY,fW,ck];exact rfl):p:=e.mpr k
end ap6
open ap6 in
theorem abh (q:Rat):ax al 171 [ah q] (.bf [cQ (pN q),cQ (pD q),bL (xU q)]):=by
 have hdp:=q.den_pos
 have aGG:=wT q
 refine aS Tryz.func171 ?_
 refine nZ ?_
 refine dg 9 rfl ?_ ?_<;>intro wi h9
 ·have hs:xU q=false:=decide_eq_false (fun h=>by have:=ua.2 h.1;omega)
  have lW:True:=trivial
  refine jw ?_
  simp only [pN,pD,hs,adv,if_false]
  exact aca [] rfl rfl (.pure rfl) rfl (.pure rfl) rfl (.pure rfl)
 ·have nh:=ua.1 (show (aq q.num.natAbs).length<=1 by omega)
  refine aY ?_
  refine aF rfl ?_ ?_<;>intro rA lW
  ·have hs:xU q=false:=by first | exact hs | exact decide_eq_false (fun h=>by have:=aDm h.2;omega)
   refine bE ?_
   simp only [pN,pD,hs,adv,if_false]
   exact aca [] rfl rfl (.pure rfl) rfl (.pure rfl) rfl (.pure rfl)
  ·have jS:q.den<4294967296:=by
    have:=ua.1 (show (aq (jH q)).length<=1 by omega)
    rw [aGG] at this;split at this<;>omega
   have hs:xU q=true:=decide_eq_true ⟨nh,jS⟩
   refine nZ ?_
   refine gY (fun L=>∃ (d:Nat) (L1:St),(d=q.den)/\L=(((St.mk L1.slot (hp [(1,⟨3,[ah q],true⟩)])).put (some 1) (.aB 1 3 0 0)).put (some 3) (cQ d))) ?_ ?_
   ·refine aF rfl ?_ ?_<;>intro uf ur
    ·have lb:=ajt (q:=q) ae
     have rY:(aq (jH q)).getD 0 0=q.den:=by rw [lb,adh hdp jS];rfl
     refine bE ?_
     exact⟨(aq (jH q)).getD 0 0,_,rY,((aj (aj (bG cl) cl) cl)).symm⟩
    ·have lb:=an3 (q:=q) ae
     refine aP ?_
     exact⟨1,_,lb.symm,((aj (aj (bG cl) cl) cl)).symm⟩
   ·rintro _ ⟨d,aJM,rfl,rfl⟩
    refine ba ?_
    refine cp aQ (am9 _ (cS _) ae) ?_
    refine bE ?_
    simp only [pN,pD,hs,if_true]
    have gf:((q.den:Int) != 0)=true:=by simp;omega
    refine aca [] rfl rfl (.pure rfl) rfl (.pure rfl) (x'':=.v (.bool ((q.den:Int) != 0))) rfl ?_
    rw [gf]
    exact .pure rfl
namespace aoO
theorem aM {p q:Prop} (k:q) (e:p=q:=by simp only [e1,e2,e3,e4,p1,p2,p3,q1,q2,q3,l1,t0,t1,r1,r2,r3,r4,Nat.zero_add,Nat.reduceMul,Nat.reduceAdd,b1,b2,b3,b4,b5,b6,i1,i2,i3,i4,i5,i6,Nat.reduceBEq,fW,Nat.sub_zero,Nat.zero_add,Nat.add_sub_cancel_left,Nat.add_zero];exact rfl):p:=e.mpr k
theorem wo {p q:Prop} (k:q) (e:p=q:=by simp only [e1,e2,e3,e4,p1,p2,p3,q1,q2,q3,l1,t0,t1,r1,r2,r3,r4,Nat.zero_add,Nat.reduceMul,Nat.reduceAdd,b1,b2,b3,b4,b5,b6,i1,i2,i3,i4,i5,i6,Nat.reduceBEq,fW,Nat.sub_zero,Nat.zero_add,Nat.add_sub_cancel_left,Nat.add_zero,<-hN,<-hD];exact rfl):p:=e.mpr k
theorem tN {p:Prop} (h:p:=by first | (refine wo ?_;exact rfl) | exact rfl):p:=h
end aoO
open aoO in
theorem adD (s:Bool) (n d:Nat) (hn:n<18446744073709551616) (jD:0<d) (hd:d<18446744073709551616):ax al 245 [bL s,cQ n,cQ d] (ah (qv s n d)):=by
 refine aS Tryz.func245 ?_
 refine bF ?_
 refine aF rfl ?_ ?_<;>intro ahp h13
 ·refine bn ?_
  obtain rfl:n=0:=by omega
  rw [afP,qi]
  exact ada
 ·have jb:0<n:=by omega
  have hg:0<fS n d:=amq _ jb
  have mZ:0<n/fS n d:=ahu (acJ jb (aa1 n d)) hg
  have xo:0<d/fS n d:=ahu (acJ jD (alH n d)) hg
  have hn3:n/fS n d<18446744073709551616:=ug (vf _ _) hn
  have hd3:d/fS n d<18446744073709551616:=ug (vf _ _) hd
  have hE:=aeB s jb jD
  obtain⟨g,hgg⟩:∃ g,g=fS n d:=⟨_,rfl⟩
  obtain⟨N,hN⟩:∃ N,N=n/fS n d:=⟨_,rfl⟩
  obtain⟨D,hD⟩:∃ D,D=d/fS n d:=⟨_,rfl⟩
  rw [<-hN,<-hD] at hE
  rw [<-hN] at mZ hn3
  rw [<-hD] at xo hd3
  have uL:=agr mZ hn3
  have mJ:=agr xo hd3
  obtain⟨ku,wQ⟩:=aAI mZ hn3 xo hd3
  have dM:=aD4 mZ hn3
  have lr:(p9 [0,0,0,0] 0 N).length=4:=akk _ _ _
  have ot:(p9 (p9 [0,0,0,0] 0 N) (mC N) D).length=4:=by rw [akk,akk];rfl
  refine aD ?_
  refine cp au (aHC _ _ ae ae) ?_
  refine aA ?_
  refine a8 8 an ?_
  refine aP ?_
  refine ao rfl afM ?_
  refine aP ?_
  refine ao rfl afM ?_
  refine aP ?_
  refine tx tN ?_
  refine aL ?_
  refine fG rfl rfl (.mw (n:=4) (m:=4) ml ml om om om) ?_
  refine aY ?_
  refine xD 24 rfl rfl rfl (a7 fZ _) (.cons .ref (.cons (.cE (.pure rfl)) .nil)) (.ref ak) (aob [0,0,0,0] 0 4 N hn3 ae ae aT) rfl (a7 fZ _) ?_
  refine bE ?_
  refine ao rfl (.afI (a:=0) (h:=mC N) (mx:=mC N) rfl pG sa (fun y hy=>by cases hy) (fun _=>rfl) rfl rfl ae ae ae ae) ?_
  refine bF ?_
  refine aF rfl ?_ ?_<;>intro zE h35
  ·refine ba ?_
   refine ao rfl (.wk (a:=mC N) (h:=4) rfl pG sa (fun y hy=>by cases hy;exact⟨_,rfl⟩) (fun h=>by cases h) (fun y hy=>by cases hy) (fun _=>rfl) ae ae ae) ?_
   refine av ?_
   refine xD 24 rfl rfl rfl (a7 fZ _) (.cons .ref (.cons (.cE (.pure rfl)) .nil)) (.ref ae) (aob (p9 [0,0,0,0] 0 N) (0+mC N) (4-mC N) D hd3 ae ae ae) rfl (a7 fZ _) ?_
   refine bE ?_
   refine ao rfl (.afI (a:=mC N) (h:=mC N+mC D) (mx:=mC N+mC D) rfl pG sa (fun y hy=>by cases hy;exact⟨_,rfl⟩) (fun h=>by cases h) rfl rfl ae ae ae ae) ?_
   refine bD ?_
   rw [hE,if_neg ae]
   exact ij [24] rfl rfl rfl rfl rfl cZ (.agg (.cons (.pure rfl) (.cons (al5 fZ rfl rfl ae ku) (.cons (al5 fZ rfl rfl ae wQ) .nil))))
  ·refine bE ?_
   rw [hE,if_pos ae]
   exact ij [24] rfl rfl rfl rfl rfl cZ (.agg (.cons (.pure rfl) (.cons (al5 fZ rfl rfl ae dM) (.cons (.pure rfl) .nil))))
namespace apU
theorem aM {p q:Prop} (k:q) (e:p=q:=by simp only [e1,e2,e3,e4,p1,p2,p3,q1,q2,q3,l1,t0,t1,r1,r2,r3,r4,Nat.zero_add,Nat.reduceMul,Nat.reduceAdd,b1,b2,b3,b4,b5,b6,i1,i2,i3,i4,i5,i6,Nat.reduceBEq,fW,ck,aCY,Nat.add_zero];exact rfl):p:=e.mpr k
end apU
open apU in
theorem acd (s:Bool) (a b:List Nat) (ha:bX a) (hb:bX b) (fQ:a.length<=1099511627776) (l7:b.length<=1099511627776):ax al 194 [bL s,eZ a,eZ b] (ah (qv s (val a) (val b))):=by
 have abI:=acn a ha fQ
 have agG:=acn b hb l7
 refine aS Tryz.func194 ?_
 refine aY ?_
 refine gY (fun L=>∃ (t:Bool) (L1:St),(t=decide (val a=0\/val b=0))/\L=((((((St.mk L1.slot (hp [(6,⟨3,[.agg [.v (.bool false),.list 1 [],.list 1 []]],true⟩)])).put (some 0) (bL s)).put (some 1) (eZ a)).put (some 2) (eZ b)).put (some 6) (.aB 6 3 0 0)).put (some 15) (bL t))) ?_ ?_
 ·refine aP ?_
  refine cp aQ (adZ _ iT ae) ?_
  refine aP ?_
  refine dg 11 rfl ?_ ?_<;>intro ajl h11
  ·have hz:val a=0:=xf.1 ae
   refine aD ?_
   exact⟨true,_,(decide_eq_true (.inl hz)).symm,((aj (aj (aj (aj (aj (bG cl) cl) cl) cl) cl) cl)).symm⟩
  ·have yS:val a≠0:=fun h=>by rw [xf.2 h] at h11;exact h11 rfl
   refine av ?_
   refine cp aQ (adZ _ iT ae) ?_
   refine aA ?_
   exact⟨decide (((dI (val b):Nat):Int)=0),_,by show decide _=_;rw [aEe];simp [yS],((aj (aj (aj (aj (aj (bG cl) cl) cl) cl) cl) cl)).symm⟩
 ·rintro _ ⟨t,LR1,ht,rfl⟩
  refine av ?_
  refine aF rfl ?_ ?_<;>intro pR mT
  ·have hq:qv s (val a) (val b)=0:=by
    rw [ht,decide_eq_true_eq] at pR
    rcases pR with h | h
    ·rw [h];exact afP _ _
    ·rw [h];exact alL _ _
   refine bn ?_
   rw [hq,qi]
   exact ada
  ·rw [ht,decide_eq_false_iff_not,not_or] at pR
   have ha0:0<val a:=vc pR.1
   have gf:0<val b:=vc pR.2
   have hg:0<fS (val a) (val b):=amq _ ha0
   have hE:=aeB s ha0 gf
   have hgl:(aq (fS (val a) (val b))).length<=1099511627776:=a9 (oq (acJ ha0 (aa1 _ _))) abI
   have hqa:(aq (val a/fS (val a) (val b))).length<=1099511627776:=a9 (oq (vf _ _)) abI
   have hqb:(aq (val b/fS (val a) (val b))).length<=1099511627776:=a9 (oq (vf _ _)) agG
   refine aA ?_
   refine gY (fun L=>∃ (t:Bool) (L1:St),(t=decide (a.length<=2/\b.length<=2))/\L=((((((St.mk L1.slot (hp [(6,⟨3,[.agg [.v (.bool false),.list 1 [],.list 1 []]],true⟩)])).put (some 0) (bL s)).put (some 1) (eZ a)).put (some 2) (eZ b)).put (some 6) (.aB 6 3 0 0)).put (some 24) (bL t))) ?_ ?_
   ·refine ba ?_
    refine dg 20 rfl ?_ ?_<;>intro aay h20
    ·refine aD ?_
     exact⟨decide (((b.length:Nat):Int)<=2),_,by rw [decide_eq_decide];omega,((aj (aj (aj (aj (aj (bG cl) cl) cl) cl) cl) cl)).symm⟩
    ·refine aD ?_
     exact⟨false,_,by symm;rw [decide_eq_false_iff_not];omega,((aj (aj (aj (aj (aj (bG cl) cl) cl) cl) cl) cl)).symm⟩
   ·rintro _ ⟨t,LR3,ht2,rfl⟩
    refine av ?_
    refine aF rfl ?_ ?_<;>intro tc wN
    ·rw [ht2,decide_eq_true_eq] at tc
     have aKI:=tc.1
     have aJv:=tc.2
     refine aA ?_
     have hva:=tZ ha (k:=2) ae
     have hvb:=tZ hb (k:=2) ae
     refine cp aQ (am9 a ha ae) ?_
     refine av ?_
     refine cp aQ (am9 b hb ae) ?_
     refine cp gV (adD _ _ _ hva gf hvb) ?_
     refine ba ?_
     exact gr
    ·refine aY ?_
     refine cp au (amE _ _ iT iT ae ae) ?_
     refine aD ?_
     refine cp aQ (adZ _ iT ae) ?_
     refine aL ?_
     refine gY (fun L=>∃ (x:List Nat) (y:List Nat) (L1:St),(bX x/\bX y/\x.length<=1099511627776/\y.length<=1099511627776/\val x=val a/fS (val a) (val b)/\val y=val b/fS (val a) (val b))/\L=(((((St.mk L1.slot (hp [(6,⟨3,[.agg [.v (.bool false),.list 1 [],.list 1 []]],true⟩)])).put (some 0) (bL s)).put (some 1) (eZ x)).put (some 2) (eZ y)).put (some 6) (.aB 6 3 0 0))) ?_ ?_
     ·refine aF rfl ?_ ?_<;>intro avv h36
      ·refine aA ?_
       refine cp au (ajq _ _ iT iT ae ae (by rw [ck];exact hg)) ?_
       refine bI ?_
       refine cp au (ajq _ _ iT iT ae ae (by rw [ck];exact hg)) ?_
       refine aY ?_
       exact⟨aq (val a/fS (val a) (val b)),aq (val b/fS (val a) (val b)),_,⟨cS _,cS _,hqa,hqb,ck _,ck _⟩,((aj (aj (aj (aj (bG cl) cl) cl) cl) cl)).symm⟩
      ·have nN:fS (val a) (val b)=1:=aCU.1 (by have:=xf (n:=fS (val a) (val b));omega)
       refine aP ?_
       exact⟨a,b,_,⟨ha,hb,fQ,l7,by rw [nN,aeW],by rw [nN,aeW]⟩,((aj (aj (aj (aj (bG cl) cl) cl) cl) cl)).symm⟩
     ·rintro _ ⟨x,y,aKB,⟨hx,hy,hlx,hly,hvx,hvy⟩,rfl⟩
      rw [<-hvx,<-hvy] at hE
      have jO:0<val y:=by rw [hvy];exact ahu (acJ gf (alH _ _)) hg
      refine aA ?_
      refine cp au (akT x [] hx (by intro y hy;cases hy) hlx aT) ?_
      refine av ?_
      refine cp au (akT y [] hy (by intro y hy;cases hy) hly aT) ?_
      refine bD ?_
      refine dg 58 rfl ?_ ?_<;>intro awo h58
      ·refine aY ?_
       refine aF rfl ?_ ?_<;>intro anu gC
       ·have kD:val y=1:=by have:=(abq (n:=val y) ae).1;omega
        refine dH ?_
        rw [hE,if_pos kD]
        exact ij [] rfl rfl rfl rfl rfl cZ (.agg (.cons (.pure rfl) (.cons (.pure (kf _)) (.cons (.nil 1) .nil))))
       ·have kD:val y≠1:=by have:=(abq (n:=val y) ae).1;omega
        refine bF ?_
        rw [hE,if_neg kD]
        exact aeK
      ·have kD:val y≠1:=fun e=>by rw [e,aiQ] at h58;exact h58 rfl
       refine oz ?_
       rw [hE,if_neg kD]
       exact aeK
open H0 in
theorem amL (n:Int) (h1:-9223372036854775808<=n) (h2:n<=9223372036854775807):ax al 195 [iL n] (bl n.natAbs):=by
 refine aS Tryz.func195 ?_
 refine bF ?_
 refine aF rfl ?_ ?_<;>intro h4r h4
 ·refine aP ?_
  refine cp aQ (an5 9223372036854775808 ae) ?_
  refine ba ?_
  rw [show n.natAbs=9223372036854775808 by omega]
  exact dW
 ·refine aD ?_
  refine ao rfl (.neg rfl) ?_
  refine av ?_
  refine ao rfl (.aiY (n:=n.natAbs) aia aji (by simp only [e1,p1,p2,vZ];rw [aBA ae ae]) ae) ?_
  refine cp aQ (an5 n.natAbs ae) ?_
  refine aA ?_
  exact dW
theorem vA {P:Program} {L:St} {a u:Nat} {T:TypeId} {b sz:Nat} {x y x' y':LV} {m:Bool} {n:Nat} {ag:Bool} (bs:List Nat) (h0:bs.contains 0=false) (h:L.slot a=.aB b sz 0 0) (hb:L.heap b=some ⟨sz,[x],m⟩)
  (hx:x.aw=sz) (cj:x.at 0 n ag=some x) (hT:bC P T n ag) (hi:cV (L.b9 bs).heap x y) (h':L.slot u=x') (nw:cV (L.b9 bs).heap x' y'):pn P [.cell a T,.tmp u] L (.bf [y,y']) [] :=
 ⟨[x,x'],[y,y'],(L.b9 bs).heap,[],.cons ⟨b,sz,0,0,_,x,n,ag,h,hb,rfl,rfl,hx,cj,hT⟩ (.cons h' .nil),sw bs h0,.cons (.cE hi) (.cons (.cE nw) .nil),List.nodup_nil,rfl,fun k b h=>by simp at h,rfl⟩
namespace ajr
theorem aM {p q:Prop} (k:q) (e:p=q:=by simp only [e1,e2,e3,e4,p1,p2,p3,q1,q2,q3,l1,t0,t1,r1,r2,r3,r4,Nat.zero_add,Nat.reduceMul,Nat.reduceAdd,b1,b2,b3,b4,b5,b6,i1,i2,i3,i4,i5,i6,Nat.reduceBEq,ck];exact rfl):p:=e.mpr k
end ajr
open ajr in
theorem wV (n:Int) (h1:-9223372036854775808<=n) (h2:n<=9223372036854775807):ax al 107 [iL n] (ah (n:Rat)):=by
 refine aS Tryz.func107 ?_
 refine bI ?_
 refine cp aQ (amL _ ae ae) ?_
 refine cp am0 (amo) ?_
 refine cp gV (acd (decide (n<0)) (aq n.natAbs) (aq 1) (cS _) (cS _) (a9 (aai.2 ae) ae) (by rw [aiQ];decide)) ?_
 refine aA ?_
 rw [<-aeo n]
 exact gr
open ajr in
theorem akS (n d:Int) (h1:-9223372036854775808<=n) (h2:n<=9223372036854775807) (h3:-9223372036854775808<=d) (h4:d<=9223372036854775807) (hd:d≠0):ax al 294 [iL n,iL d] (.bf [ah ((n:Rat)/(d:Rat)),iL 0]):=by
 refine aS Tryz.func294 ?_
 refine dG ?_
 refine aF rfl ?_ ?_<;>intro h7r h7
 ·exact absurd h7 hd
 ·refine bI ?_
  refine cp aQ (amL _ ae ae) ?_
  refine av ?_
  refine cp aQ (amL _ ae ae) ?_
  refine cp gV (acd (decide (n<0) != decide (d<0)) (aq n.natAbs) (aq d.natAbs) (cS _) (cS _) (a9 (aai.2 ae) ae) (a9 (aai.2 ae) ae)) ?_
  refine ba ?_
  rw [<-ae7]
  exact afb
theorem abn {q:Rat} (h:xU q=true):pN q=q.num.natAbs/\pD q=q.den/\q.num.natAbs<4294967296/\q.den<4294967296:=by
 have h2:=of_decide_eq_true h
 exact⟨by simp [pN,h],by simp [pD,h],h2.1,h2.2⟩
theorem eI {x y k l:Nat} (hx:(aq x).length<=k) (hy:(aq y).length<=l):(aq (x*y)).length<=k+l :=
 xw (aax (uK hx) (uK hy))
theorem anD {x y k:Nat} (hx:(aq x).length<=k) (hy:(aq y).length<=k):(aq (x+y)).length<=k+1 :=
 xw (aoI (uK hx) (uK hy))
def adX (x y:Nat):List Nat:=if x<y then [] else aq (x-y)
def abJ (x y:Nat):Int:=if x<y then 7 else 0
theorem auP (x y:Nat) (hx:(aq x).length<=1099511627776) (hy:(aq y).length<=1099511627776):ax al 249 [bl x,bl y] (.bf [eZ (adX x y),iL (abJ x y)]):=by
 unfold adX abJ
 by_cases h:x<y
 ·rw [if_pos h,if_pos h]
  exact aB6 _ _ (cS _) (cS _) hx hy (by rw [ck,ck];exact h)
 ·rw [if_neg h,if_neg h]
  have:=aDs _ _ (cS x) (cS y) hx hy (by rw [ck,ck];omega)
  rw [ck,ck] at this
  exact this
theorem akY {x y:Nat}:abJ x y=0↔y<=x:=by unfold abJ;split<;>omega
theorem ags {x y:Nat} (h:y<=x):adX x y=aq (x-y):=by unfold adX;rw [if_neg ae]
section
variable {a b:Rat} {s:Bool} {x y d k:Nat}
theorem add_same (hk:0<k) (hx:x*k=a.num.natAbs*b.den) (hy:y*k=b.num.natAbs*a.den) (hd:d*k=a.den*b.den) (h:decide (a<0)=s):a+wz s b=qv s (x+y) d:=by
 have:=axV s (n:=a.num.natAbs) (m:=b.num.natAbs) a.den_pos b.den_pos
 rw [<-hx,<-hy,<-hd,<-hY,anb s hk] at this
 rw [<-this,wz]
 subst h
 rw [mK]
theorem alY (hk:0<k) (hx:x*k=a.num.natAbs*b.den) (hy:y*k=b.num.natAbs*a.den) (hd:d*k=a.den*b.den) (h:decide (a<0)≠s) (hle:y<=x):a+wz s b=qv (decide (a<0)) (x-y) d:=by
 have:=ar3 (decide (a<0)) s (n:=a.num.natAbs) (m:=b.num.natAbs) a.den_pos b.den_pos h (by rw [<-hx,<-hy];exact fP _ hle)
 rw [<-hx,<-hy,<-hd,<-awC,anb _ hk] at this
 rw [<-this,wz,mK]
theorem alW (hk:0<k) (hx:x*k=a.num.natAbs*b.den) (hy:y*k=b.num.natAbs*a.den) (hd:d*k=a.den*b.den) (h:decide (a<0)≠s) (hle:x<=y):a+wz s b=qv s (y-x) d:=by
 have:=avP (decide (a<0)) s (n:=a.num.natAbs) (m:=b.num.natAbs) a.den_pos b.den_pos h (by rw [<-hx,<-hy];exact fP _ hle)
 rw [<-hx,<-hy,<-hd,<-awC,anb _ hk] at this
 rw [<-this,wz,mK]
end
theorem amm {a b:Rat} (h:aq (jH a)=aq (jH b)):a.den=b.den:=by
 have h2:jH a=jH b:=by rw [<-ck (jH a),h,ck]
 rw [wT,wT] at h2
 have:=a.den_pos
 have:=b.den_pos
 split at h2<;>split at h2<;>omega
theorem aBY {x y k:Nat} (hk:0<k):jU (x*k) (y*k)=jU x y:=by
 simp only [jU,Nat.mul_lt_mul_right hk]
theorem anF {a b:Rat} (ha:¬ a<0) (hb:¬ b<0):a<b↔a.num.natAbs*b.den<b.num.natAbs*a.den:=by
 rw [agy] at ha hb
 rw [att]
 have h1:a.num=(a.num.natAbs:Int):=by omega
 have h2:b.num=(b.num.natAbs:Int):=by omega
 rw [h1,h2]
 simp only [Int.natAbs_natCast]
 exact_mod_cast Iff.rfl
theorem auk {a b:Rat} (ha:a<0) (hb:b<0):a<b↔b.num.natAbs*a.den<a.num.natAbs*b.den:=by
 have:=anF (a:=-b) (b:=-a) cG cG
 rw [anp,anp,aj4,aj4,akf,akf] at this
 rw [<-this]
 grind
theorem aiE {a b:Rat} (h:cT a=cT b):gj a b=if a<0 then-jU (a.num.natAbs*b.den) (b.num.natAbs*a.den) else jU (a.num.natAbs*b.den) (b.num.natAbs*a.den):=by
 have hs:(a<0)↔(b<0):=by
  unfold cT at h
  split at h<;>split at h<;>(try split at h)<;>(try split at h)<;>grind
 by_cases ha:a<0
 ·have hb:=hs.1 ha
  rw [if_pos ha]
  simp only [gj,jU,auk ha hb,auk hb ha]
  split<;>split<;>omega
 ·have hb:=fun h=>ha (hs.2 h)
  rw [if_neg ha]
  simp only [gj,jU,anF ha hb,anF hb ha]
theorem aoY {a b:Rat} (h:cT a<cT b):gj a b=-1:=by
 have:a<b:=by unfold cT at h;split at h<;>split at h<;>(try split at h)<;>(try split at h)<;>grind
 simp [gj,this]
theorem avg {a b:Rat} (h:cT b<cT a):gj a b=1:=by
 have h1:b<a:=by unfold cT at h;split at h<;>split at h<;>(try split at h)<;>(try split at h)<;>grind
 have h2:¬ a<b:=by grind
 simp [gj,h1,h2]
theorem aaq {q:Rat} (h:(aq q.num.natAbs).length=0):q=0:=by
 have:=sM.1 (m8 h)
 exact axX.1 ae
theorem axC {c:Int} {x y:Nat} (h:c=jU x y):IntKind.i64.wrap (0-c)=-c:=by
 have:c=-1\/c=0\/c=1:=by rw [h];unfold jU;split<;>(try split)<;>simp
 rw [IntWalk.i64_in _ ae];omega
end Go.Proofs.YtckppbhafancnaaGreat
namespace Go.Lg
open Go.Proofs.YtckppbhafancnaaGreat in
theorem gO.azJ {P:Program} {L:St} {dst:Option Nat} {T:TypeId} {p x:Operand} {b:Nat} {q q0:Rat} (hp:L.ev p=.aB b 3 0 0) (hb:L.heap b=some ⟨3,[ah q0],true⟩) (hx:L.ev x=ah q) (hT:bC P T 3 true) :
  gO P L dst (.store T p x) ((L.bO b (some ⟨3,[ah q],true⟩)).put dst .any):=by
 have h0:LV.put (ah q0) 0 (L.ev x)=some (ah q):=by
  rw [hx,vW q0]
  have e1:∀ n,(bl n).aw=1:=fun _=>rfl
  simp [LV.put,ar.aw,ar.isAgg,cU,LV.aw,e1]
 have h:=gO.store (P:=P) (dst:=dst) (T:=T) (p:=p) (x:=x) (y:=ah q0) (y':=ah q) hp hb rfl rfl rfl (ar.aw _) h0 (by rw [hx,ar.aw,ar.isAgg];exact hT)
  (by rw [hx];exact⟨LV.fk (ar.pure q),LV.eP (ar.pure q)⟩)
 exact h
end Go.Lg
namespace Go.Proofs.YtckppbhafancnaaGreat
open Go.Lg
open ajr in
theorem xX (q:Rat) (h:rl q<=1099511627776):ax al 38 [ah q] (iL (cT q)):=by
 have h1:=mr q
 have hq:=axf q
 refine aS Tryz.func38 ?_
 refine bF ?_
 refine cp aQ (adZ _ iT ae) ?_
 refine aA ?_
 refine aF rfl ?_ ?_<;>intro h3r h3
 ·have hz:q.num.natAbs=0:=xf.1 ae
  refine bn ?_
  rw [hq,if_pos hz]
  exact dW
 ·have hz:q.num.natAbs≠0:=fun e=>by rw [xf.2 e] at h3;exact h3 rfl
  refine aY ?_
  refine aF rfl ?_ ?_<;>intro pa h8
  ·refine bn ?_
   rw [hq,if_neg hz,if_pos h8]
   exact dW
  ·refine bE ?_
   rw [hq,if_neg hz,if_neg h8]
   exact dW
open H0 in
theorem ajz (q:Rat) (h:rl q<=1099511627776):ax al 244 [ah q] (ah q):=by
 have h1:=mr q
 have h2:=nB q
 refine aS Tryz.func244 ?_
 refine aY ?_
 refine a8 9 an ?_
 refine aA ?_
 refine cp aQ (aeC _ ae) ?_
 refine aP ?_
 refine cp aQ (aeC _ ae) ?_
 refine ba ?_
 rw [vW]
 exact aeK
namespace axY
theorem aM {p q:Prop} (k:q) (e:p=q:=by simp only [e1,e2,e3,e4,p1,p2,p3,q1,q2,q3,l1,t0,t1,r1,r2,r3,r4,Nat.zero_add,Nat.reduceMul,Nat.reduceAdd,b1,b2,b3,b4,b5,b6,i1,i2,i3,i4,i5,i6,Nat.reduceBEq,ck];exact rfl):p:=e.mpr k
theorem wo {p q:Prop} (k:q) (e:p=q:=by simp only [e1,e2,e3,e4,p1,p2,p3,q1,q2,q3,l1,t0,t1,r1,r2,r3,r4,Nat.zero_add,Nat.reduceMul,Nat.reduceAdd,b1,b2,b3,b4,b5,b6,i1,i2,i3,i4,i5,i6,Nat.reduceBEq,ck,qM,qZ,rE,rk];exact rfl):p:=e.mpr k
theorem tN {p:Prop} (h:p:=by first | (refine wo ?_;exact rfl) | exact rfl):p:=h
end axY
open axY in
theorem nA (a b:Rat) (h:rl a+rl b<=1099511627776):ax al 92 [ah a,ah b] (iL (gj a b)):=by
 have a1:=mr a
 have a2:=oc a
 have a3:=nB a
 have c1:=mr b
 have c2:=oc b
 have c3:=nB b
 have a0:=a.den_pos
 have c0:=b.den_pos
 have m1:=eI a1 c2
 have m2:=eI c1 a2
 have m3:=eI a2 c2
 have m4:=eI a1 c1
 have m5:=eI a2 c1
 have m6:=eI c2 a2
 refine aS Tryz.func92 ?_
 refine bE ?_
 refine a8 6 an ?_
 refine av ?_
 refine cp aQ (xX _ ae) ?_
 refine av ?_
 refine cp aQ (xX _ ae) ?_
 refine bD ?_
 refine aF rfl ?_ ?_<;>intro aay h20
 ·refine bn ?_
  refine aF rfl ?_ ?_<;>intro td rD
  ·refine bn ?_
   rw [aoY rD]
   exact dW
  ·refine bE ?_
   rw [avg ae]
   exact dW
 ·have oa:cT a=cT b:=by omega
  refine bD ?_
  refine cp aQ (abh _) ?_
  refine iI ?_
  refine cp au (ahg _ _ ae ae) ?_
  refine aP ?_
  refine gY (fun L=>∃ (c:Int) (L1:St),(c=jU (a.num.natAbs*b.den) (b.num.natAbs*a.den))/\L=(((St.mk L1.slot (hp [(2,⟨3,[ah a],true⟩),(3,⟨3,[ah b],true⟩)])).put (some 2) (.aB 2 3 0 0)).put (some 7) (iL c))) ?_ ?_
  ·refine aF rfl ?_ ?_<;>intro aif h34
   ·refine ba ?_
    refine cp au (af9 _ _ (cS _) (cS _) y9 y9) ?_
    refine aL ?_
    exact⟨jU a.num.natAbs b.num.natAbs,_,by rw [amm h34];exact(aBY b.den_pos).symm,((aj (aj (bG cl) cl) cl)).symm⟩
   ·refine aL ?_
    refine cp aQ (abh _) ?_
    refine bI ?_
    refine gY (fun L=>∃ (t:Bool) (L1:St),(t=(xU a && xU b))/\L=(((((((((St.mk L1.slot (hp [(2,⟨3,[ah a],true⟩),(3,⟨3,[ah b],true⟩)])).put (some 2) (.aB 2 3 0 0)).put (some 3) (.aB 3 3 0 0)).put (some 7) (iL 0)).put (some 8) (cQ (pN a))).put (some 9) (cQ (pD a))).put (some 11) (cQ (pN b))).put (some 12) (cQ (pD b))).put (some 49) (bL t))) ?_ ?_
    ·refine aL ?_
     refine dg 47 rfl ?_ ?_<;>intro afo h47
     ·refine aA ?_
      exact⟨xU b,_,by rw [afo];rfl,((aj (aj (aj (aj (aj (aj (aj (aj (bG cl) cl) cl) cl) cl) cl) cl) cl) cl)).symm⟩
     ·refine aA ?_
      exact⟨false,_,by rw [afo];rfl,((aj (aj (aj (aj (aj (aj (aj (aj (bG cl) cl) cl) cl) cl) cl) cl) cl) cl)).symm⟩
    ·rintro _ ⟨t,aGx,ht,rfl⟩
     refine av ?_
     refine aF rfl ?_ ?_<;>intro acx h49
     ·rw [ht,Bool.and_eq_true] at acx
      obtain⟨qM,qZ,k3,k4⟩:=abn acx.1
      obtain⟨rE,rk,k7,k8⟩:=abn acx.2
      have n1:=vi k3 k8
      have n2:=vi k7 k4
      have n3:=n1
      have n4:=n2
      rw [<-qM,<-rk] at n1
      rw [<-rE,<-qZ] at n2
      refine aA ?_
      refine ao rfl (.bin rfl rfl (acL ae)) ?_
      refine aP ?_
      refine ao rfl (.bin rfl rfl (acL ae)) ?_
      refine av ?_
      refine tx tN ?_
      refine av ?_
      refine aF rfl ?_ ?_<;>intro aJw h56
      ·refine aA ?_
       exact⟨-1,_,(qP ae).symm,((aj (aj (bG cl) cl) cl)).symm⟩
      ·refine aA ?_
       refine ao rfl (.bin rfl rfl (acL ae)) ?_
       refine aP ?_
       refine ao rfl (.bin rfl rfl (acL ae)) ?_
       refine av ?_
       refine tx tN ?_
       refine av ?_
       refine aF rfl ?_ ?_<;>intro anu gC
       ·refine aA ?_
        exact⟨1,_,(tu ae).symm,((aj (aj (bG cl) cl) cl)).symm⟩
       ·refine aP ?_
        exact⟨0,_,(uq ae).symm,((aj (aj (bG cl) cl) cl)).symm⟩
     ·refine a8 12 an ?_
      refine aL ?_
      refine cp aQ (yc _) ?_
      refine cp au (zO _ _ (cS _) (cS _) ae ae) ?_
      refine aL ?_
      refine cp aQ (yc _) ?_
      refine cp au (zO _ _ (cS _) (cS _) ae ae) ?_
      refine cp au (af9 _ _ (cS _) (cS _) y9 y9) ?_
      refine aL ?_
      exact⟨jU (a.num.natAbs*b.den) (b.num.natAbs*a.den),_,rfl,((aj (aj (bG cl) cl) cl)).symm⟩
  ·rintro _ ⟨c,aKH,hc,rfl⟩
   refine bn ?_
   refine aF rfl ?_ ?_<;>intro aHT h76
   ·refine bE ?_
    rw [aiE oa,if_pos h76,<-hc,<-axC hc]
    exact dW
   ·refine bE ?_
    rw [aiE oa,if_neg h76,<-hc]
    exact dW
namespace akF
theorem aM {p q:Prop} (k:q) (e:p=q:=by simp only [e1,e2,e3,e4,p1,p2,p3,q1,q2,q3,l1,t0,t1,r1,r2,r3,r4,Nat.zero_add,Nat.reduceMul,Nat.reduceAdd,b1,b2,b3,b4,b5,b6,i1,i2,i3,i4,i5,i6,Nat.reduceBEq,ck,qM,qZ,rE,rk];exact rfl):p:=e.mpr k
end akF
open akF in
theorem iz (a b:Rat) (h:rl a+rl b<=1099511627776):ax al 191 [ah a,ah b] (ah (a*b)):=by
 have a1:=mr a
 have a2:=oc a
 have a3:=nB a
 have c1:=mr b
 have c2:=oc b
 have c3:=nB b
 have a0:=a.den_pos
 have c0:=b.den_pos
 have m1:=eI a1 c2
 have m2:=eI c1 a2
 have m3:=eI a2 c2
 have m4:=eI a1 c1
 have m5:=eI a2 c1
 have m6:=eI c2 a2
 have hE:=aju (decide (a<0)) (decide (b<0)) a.num.natAbs a.den b.num.natAbs b.den
 rw [mK,mK] at hE
 refine aS Tryz.func191 ?_
 have qM:True:=trivial
 have qZ:True:=trivial
 have rE:True:=trivial
 have rk:True:=trivial
 refine iI ?_
 refine dg 15 rfl ?_ ?_<;>intro pR mT
 ·have hz:a*b=0:=by rw [aaq (q:=a) ae,Rat.zero_mul]
  refine nZ ?_
  rw [hz,qi]
  exact ada
 ·refine aY ?_
  refine aF rfl ?_ ?_<;>intro aay h20
  ·have hz:a*b=0:=by rw [aaq (q:=b) ae,Rat.mul_zero]
   refine bn ?_
   rw [hz,qi]
   exact ada
  ·refine aD ?_
   refine cp aQ (abh _) ?_
   refine dH ?_
   refine gY (fun L=>∃  (L1:St),(True)/\L=((((St.mk L1.slot (hp [(2,⟨3,[ah a],true⟩),(3,⟨3,[ah b],true⟩),(4,⟨3,[.agg [.v (.bool false),.list 1 [],.list 1 []]],true⟩)])).put (some 2) (.aB 2 3 0 0)).put (some 3) (.aB 3 3 0 0)).put (some 4) (.aB 4 3 0 0))) ?_ ?_
   ·refine aF rfl ?_ ?_<;>intro y6 rI
    ·obtain⟨qM,qZ,k3,k4⟩:=abn y6
     refine aL ?_
     refine cp aQ (abh _) ?_
     refine dH ?_
     refine aF rfl ?_ ?_<;>intro zE h35
     ·obtain⟨rE,rk,k7,k8⟩:=abn zE
      have n1:=vi k3 k7
      have n2:=vi k4 k8
      have np:=nt a0 c0
      refine bE ?_
      refine ao rfl ac6 ?_
      refine aP ?_
      refine ao rfl ac6 ?_
      refine cp gV (adD _ _ _ abp (by first | exact np | (simp only [qM,qZ,rE,rk];exact np)) abp) ?_
      refine aD ?_
      rw [hE]
      exact gr
     ·refine aP ?_
      exact⟨_,trivial,((aj (aj (aj (bG cl) cl) cl) cl)).symm⟩
    ·refine aP ?_
     exact⟨_,trivial,((aj (aj (aj (bG cl) cl) cl) cl)).symm⟩
   ·rintro _ ⟨aG5,-,rfl⟩
    refine aP ?_
    refine a8 16 an ?_
    refine bE ?_
    refine cp au (zO _ _ (cS _) (cS _) ae ae) ?_
    refine av ?_
    refine cp aQ (yc _) ?_
    refine av ?_
    refine cp aQ (yc _) ?_
    refine cp au (zO _ _ (cS _) (cS _) ae ae) ?_
    refine cp gV (acd _ _ _ (cS _) (cS _) y9 y9) ?_
    refine aA ?_
    rw [hE]
    exact gr
open akF in
theorem wu (a b:Rat) (h:rl a+rl b<=1099511627776):ax al 169 [ah a,ah b] (.bf [ah (a/b),iL (if b=0 then 3 else 0)]):=by
 have a1:=mr a
 have a2:=oc a
 have a3:=nB a
 have c1:=mr b
 have c2:=oc b
 have c3:=nB b
 have a0:=a.den_pos
 have c0:=b.den_pos
 have m1:=eI a1 c2
 have m2:=eI c1 a2
 have m3:=eI a2 c2
 have m4:=eI a1 c1
 have m5:=eI a2 c1
 have m6:=eI c2 a2
 have hE:=aht (decide (a<0)) (decide (b<0)) a.num.natAbs a.den b.num.natAbs b.den
 rw [mK,mK] at hE
 refine aS Tryz.func169 ?_
 have qM:True:=trivial
 have qZ:True:=trivial
 have rE:True:=trivial
 have rk:True:=trivial
 refine bF ?_
 refine cp aQ (xX _ ae) ?_
 refine aL ?_
 refine aF rfl ?_ ?_<;>intro rA lW
 ·have hz:b=0:=by
   unfold cT at lW;split at lW
   ·assumption
   ·split at lW<;>omega
  refine bE ?_
  subst hz
  rw [show a/0=0 by rw [jo];simp,qi]
  exact vA [] rfl rfl rfl rfl rfl cZ (.pure rfl) rfl (.pure rfl)
 ·have hz:b≠0:=by rintro rfl;exact lW rfl
  have hbn:0<b.num.natAbs:=vc (fun h=>hz (axX.1 ae))
  refine aD ?_
  refine cp aQ (abh _) ?_
  refine dH ?_
  refine gY (fun L=>∃  (L1:St),(True)/\L=(((((St.mk L1.slot (hp [(2,⟨3,[ah a],true⟩),(3,⟨3,[ah b],true⟩),(4,⟨3,[.agg [.v (.bool false),.list 1 [],.list 1 []]],true⟩)])).put (some 2) (.aB 2 3 0 0)).put (some 3) (.aB 3 3 0 0)).put (some 4) (.aB 4 3 0 0)).put (some 5) (iL 0))) ?_ ?_
  ·refine aF rfl ?_ ?_<;>intro aeq h22
   ·obtain⟨qM,qZ,k3,k4⟩:=abn aeq
    refine aL ?_
    refine cp aQ (abh _) ?_
    refine dH ?_
    refine aF rfl ?_ ?_<;>intro abw h29
    ·obtain⟨rE,rk,k7,k8⟩:=abn abw
     have n1:=vi k3 k8
     have n2:=vi k4 k7
     have np:=nt a0 hbn
     refine bE ?_
     refine ao rfl ac6 ?_
     refine aP ?_
     refine ao rfl ac6 ?_
     refine cp gV (adD _ _ _ abp (by first | exact np | (simp only [qM,qZ,rE,rk];exact np)) abp) ?_
     refine aY ?_
     rw [hE,if_neg hz]
     exact afb
    ·refine aP ?_
     exact afY
   ·refine aP ?_
    exact afY
  ·rintro _ ⟨aKx,-,rfl⟩
   refine aP ?_
   refine a8 16 an ?_
   refine bn ?_
   refine cp aQ (yc _) ?_
   refine cp au (zO _ _ (cS _) (cS _) ae ae) ?_
   refine av ?_
   refine cp aQ (yc _) ?_
   refine aP ?_
   refine cp au (zO _ _ (cS _) (cS _) ae ae) ?_
   refine cp gV (acd _ _ _ (cS _) (cS _) y9 y9) ?_
   refine ba ?_
   rw [hE,if_neg hz]
   exact afb
theorem acV {p s:Bool} (h:(p==s)=false):p≠s:=by simpa using h
namespace aoF
theorem aM {p q:Prop} (k:q) (e:p=q:=by simp only [e1,e2,e3,e4,p1,p2,p3,q1,q2,q3,l1,t0,t1,r1,r2,r3,r4,Nat.zero_add,Nat.reduceMul,Nat.reduceAdd,b1,b2,b3,b4,b5,b6,i1,i2,i3,i4,i5,i6,Nat.reduceBEq,ck,Nat.one_mul,Nat.mul_one,eS,eK,eSb,eSc,qM,qZ,rE,rk];exact rfl):p:=e.mpr k
end aoF
open aoF in
theorem aqO (a b:Rat) (s:Bool) (h:rl a+rl b<=549755813888):ax al 180 [ah a,ah b,bL s] (ah (a+wz s b)):=by
 have a1:=mr a
 have a2:=oc a
 have a3:=nB a
 have c1:=mr b
 have c2:=oc b
 have c3:=nB b
 have a0:=a.den_pos
 have c0:=b.den_pos
 have m1:=eI a1 c2
 have m2:=eI c1 a2
 have m3:=eI a2 c2
 have m4:=eI a1 c1
 have m5:=eI a2 c1
 have m6:=eI c2 a2
 have mm:=anD (k:=rl a+rl b) m1 ae
 refine aS Tryz.func180 ?_
 have eS:True:=trivial
 have eK:True:=trivial
 have eSb:True:=trivial
 have eSc:True:=trivial
 have qM:True:=trivial
 have qZ:True:=trivial
 have rE:True:=trivial
 have rk:True:=trivial
 refine bD ?_
 refine cp aQ (abh _) ?_
 refine dH ?_
 refine gY (fun L=>∃  (L1:St),(True)/\L=(((((St.mk L1.slot (hp [(3,⟨3,[ah a],true⟩),(4,⟨3,[ah b],true⟩),(6,⟨3,[.agg [.v (.bool false),.list 1 [],.list 1 []]],true⟩)])).put (some 2) (bL s)).put (some 3) (.aB 3 3 0 0)).put (some 4) (.aB 4 3 0 0)).put (some 6) (.aB 6 3 0 0))) ?_ ?_
 ·refine aF rfl ?_ ?_<;>intro y6 rI
  ·obtain⟨qM,qZ,k3,k4⟩:=abn y6
   refine aL ?_
   refine cp aQ (abh _) ?_
   refine dH ?_
   refine aF rfl ?_ ?_<;>intro zE h35
   ·obtain⟨rE,rk,k7,k8⟩:=abn zE
    have n1:=vi k3 k8
    have n2:=vi k7 k4
    have n3:=vi k4 k8
    have np:=nt a0 c0
    refine aA ?_
    refine ao rfl ac6 ?_
    refine aP ?_
    refine ao rfl ac6 ?_
    refine ba ?_
    have eS:(((a.num.natAbs*b.den:Nat):Int)+((b.num.natAbs*a.den:Nat):Int)+0) % 18446744073709551616=(((a.num.natAbs*b.den+b.num.natAbs*a.den) % 18446744073709551616:Nat):Int):=by omega
    have eK:(((a.num.natAbs*b.den:Nat):Int)+((b.num.natAbs*a.den:Nat):Int)+0)/18446744073709551616=(((a.num.natAbs*b.den+b.num.natAbs*a.den)/18446744073709551616:Nat):Int):=by omega
    refine aL ?_
    refine ao rfl (.aa3 Tryz.func247 rfl rfl rfl rfl (vs:=[.int .u64 ((a.num.natAbs*b.den:Nat):Int),.int .u64 ((b.num.natAbs*a.den:Nat):Int),.int .u64 0]) rfl (fun w=>run_add64 _ _ _ ae ae ae ae w) rfl rfl) ?_
    refine iI ?_
    refine dg 53 rfl ?_ ?_<;>intro tb h53
    ·refine aD ?_
     refine aF rfl ?_ ?_<;>intro aIQ h48
     ·refine aY ?_
      refine cp gV (adD s ((a.num.natAbs*b.den+b.num.natAbs*a.den) % 18446744073709551616) (a.den*b.den) ae np ae) ?_
      refine aY ?_
      have v8:a.num.natAbs*b.den+b.num.natAbs*a.den<18446744073709551616:=by omega
      rw [add_same (k:=1) (x:=a.num.natAbs*b.den) (y:=b.num.natAbs*a.den) (d:=a.den*b.den) ae (jF _) (jF _) (jF _) (eq_of_beq tb),show qv s (a.num.natAbs*b.den+b.num.natAbs*a.den) (a.den*b.den)=qv s ((a.num.natAbs*b.den+b.num.natAbs*a.den) % 18446744073709551616) (a.den*b.den) by rw [iF v8]]
      exact gr
     ·refine aY ?_
      refine yM (bg (v:=false) rfl rfl ((by rw [tb];rfl)) rfl) ?_
      refine yM (bg (v:=false) rfl rfl ((by rw [tb];rfl)) rfl) ?_
      refine yM (bg (v:=false) rfl rfl ((by rw [tb];rfl)) rfl) ?_
      refine ao rfl (.sv rfl ((by rw [tb];rfl))) ?_
      refine dG ?_
      refine fi (b:=_) rfl (by rw [tb];rfl) ?_
      refine aL ?_
      exact afY
    ·refine dH ?_
     refine ao (bg (v:=true) rfl rfl ((by rw [tb];rfl)) rfl) (.move _) ?_
     refine ao (bg (v:=true) rfl rfl ((by rw [tb];rfl)) rfl) (.move _) ?_
     refine ao (bg (v:=true) rfl rfl ((by rw [tb];rfl)) rfl) (.bin rfl rfl rfl) ?_
     refine ao rfl (.qh rfl ((by rw [tb];rfl))) ?_
     refine aL ?_
     refine aF rfl ?_ ?_<;>intro anu gC
     ·refine bI ?_
      refine cp gV (adD _ _ _ abp (by first | exact np | (simp only [qM,qZ,rE,rk];exact np)) abp) ?_
      refine aY ?_
      rw [alY (k:=1) (x:=a.num.natAbs*b.den) (y:=b.num.natAbs*a.den) (d:=a.den*b.den) ae (jF _) (jF _) (jF _) (acV tb) ae]
      exact gr
     ·refine bE ?_
      refine cr (b:=_) rfl (by rw [tb];rfl) ?_
      refine bE ?_
      refine cp gV (adD _ _ _ abp (by first | exact np | (simp only [qM,qZ,rE,rk];exact np)) abp) ?_
      refine aY ?_
      rw [alW (k:=1) (x:=a.num.natAbs*b.den) (y:=b.num.natAbs*a.den) (d:=a.den*b.den) ae (jF _) (jF _) (jF _) (acV tb) ae]
      exact gr
   ·refine aP ?_
    exact afY
  ·refine aP ?_
   exact afY
 ·rintro _ ⟨aG5,-,rfl⟩
  refine aP ?_
  refine a8 9 an ?_
  refine ba ?_
  refine cp aQ (yc _) ?_
  refine bF ?_
  refine cp au (ahg _ _ ae ae) ?_
  refine aL ?_
  refine gY (fun L=>∃ (x:Nat) (y:Nat) (d:Nat) (L1:St),(∃ k,0<k/\x*k=a.num.natAbs*b.den/\y*k=b.num.natAbs*a.den/\d*k=a.den*b.den/\0<d/\(aq x).length<=rl a+rl b/\(aq y).length<=rl a+rl b/\(aq d).length<=rl a+rl b)/\L=((((((((St.mk L1.slot (hp [(3,⟨3,[ah a],true⟩),(4,⟨3,[ah b],true⟩),(6,⟨3,[.agg [.v (.bool false),.list 1 [],.list 1 []]],true⟩)])).put (some 2) (bL s)).put (some 3) (.aB 3 3 0 0)).put (some 4) (.aB 4 3 0 0)).put (some 6) (.aB 6 3 0 0)).put (some 15) (bl x)).put (some 16) (bl y)).put (some 17) (bl d))) ?_ ?_
  ·refine aF rfl ?_ ?_<;>intro aJA aHl
   ·refine a8 15 an ?_
    refine aP ?_
    refine cp aQ (yc _) ?_
    refine cp au (zO _ _ (cS _) (cS _) ae ae) ?_
    refine aP ?_
    refine cp aQ (yc _) ?_
    refine cp au (zO _ _ (cS _) (cS _) ae ae) ?_
    refine aP ?_
    refine cp aQ (yc _) ?_
    refine cp au (zO _ _ (cS _) (cS _) ae ae) ?_
    refine ba ?_
    exact⟨a.num.natAbs*b.den,b.num.natAbs*a.den,a.den*b.den,_,⟨1,ae,jF _,jF _,jF _,nt a0 c0,m1,ae,m3⟩,((aj (aj (aj (aj (aj (aj (aj (bG cl) cl) cl) cl) cl) cl) cl) cl)).symm⟩
   ·have hde:=amm aHl
    refine aP ?_
    exact⟨a.num.natAbs,b.num.natAbs,a.den,_,⟨a.den,a0,by rw [hde],rfl,by rw [hde],a0,ae,ae,ae⟩,((aj (aj (aj (aj (aj (aj (aj (bG cl) cl) cl) cl) cl) cl) cl) cl)).symm⟩
  ·rintro _ ⟨x,y,d,aKv,⟨k,hk,hx,hy,hd,jD,lx,ly,ld⟩,rfl⟩
   have lxy:=anD lx ly
   have lxs:(aq (x-y)).length<=rl a+rl b:=a9 (oq (agt _ _)) lx
   have lys:(aq (y-x)).length<=rl a+rl b:=a9 (oq (agt _ _)) ly
   refine bI ?_
   refine aF rfl ?_ ?_<;>intro alO aJI
   ·refine ba ?_
    refine cp au (akT _ _ (cS _) (cS _) ae ae) ?_
    refine av ?_
    refine cp gV (acd _ _ _ (cS _) (cS _) y9 y9) ?_
    refine ba ?_
    rw [add_same hk hx hy hd (eq_of_beq alO)]
    exact gr
   ·refine aY ?_
    refine cp au (auP _ _ ae ae) ?_
    refine dG ?_
    refine aF rfl ?_ ?_<;>intro ah5 afs
    ·have hle:=akY.1 (show abJ x y=0 by omega)
     have eSb:=ags hle
     refine aD ?_
     refine cp gV (acd _ _ _ (by rw [eSb];exact cS _) (cS _) (by rw [eSb];omega) ae) ?_
     refine ba ?_
     rw [alY hk hx hy hd (acV alO) hle]
     exact gr
    ·have hle:x<=y:=by
      rcases alq x y with h | h
      ·exact h
      ·have:=akY.2 h;omega
     have eSc:=ags hle
     refine aD ?_
     refine cp au (auP _ _ ae ae) ?_
     refine bF ?_
     refine cp gV (acd _ _ _ (cS _) (cS _) ae ae) ?_
     refine aA ?_
     rw [alW hk hx hy hd (acV alO) hle]
     exact gr
theorem aer {a b:Rat}:gj b a<0↔b<a:=by unfold gj;split<;>(try split)<;>grind
theorem u7 {a b:Rat}:gj b a > 0↔a<b:=by unfold gj;split<;>(try split)<;>grind
open H0 in
theorem jz (a b:Rat) (h:rl a+rl b<=549755813888):ax al 95 [ah a,ah b] (ah (a+b)):=by
 refine aS Tryz.func95 ?_
 refine dG ?_
 refine cp gV (aqO _ _ _ ae) ?_
 refine aA ?_
 exact ij [] rfl rfl rfl (ar.aw _) (qm _) cZ (by rw [aiN];exact .pure (ar.pure _))
open H0 in
theorem rN (a b:Rat) (h:rl a+rl b<=549755813888):ax al 170 [ah a,ah b] (ah (a-b)):=by
 refine aS Tryz.func170 ?_
 refine dH ?_
 refine cp gV (aqO _ _ _ ae) ?_
 refine aA ?_
 rw [afK]
 exact ij [] rfl rfl rfl (ar.aw _) (qm _) cZ (by rw [aE5];exact .pure (ar.pure _))
open H0 in
theorem aja (a b:Rat) (h:rl a+rl b<=549755813888):ax al 167 [ah a,ah b] (ah (if b<a then b else a)):=by
 refine aS Tryz.func167 ?_
 refine bF ?_
 refine cp au (nA _ _ ae) ?_
 refine aL ?_
 refine gY (fun L=>∃ (q:Rat) (L1:St),(q=(if b<a then b else a)/\rl q<=549755813888)/\L=(((St.mk L1.slot (hp [(2,⟨3,[ah q],true⟩),(3,⟨3,[ah b],true⟩),(4,⟨3,[.agg [.v (.bool false),.list 1 [],.list 1 []]],true⟩)])).put (some 2) (.aB 2 3 0 0)).put (some 4) (.aB 4 3 0 0))) ?_ ?_
 ·refine aF rfl ?_ ?_<;>intro pa h8
  ·refine ba ?_
   exact⟨b,_,⟨by rw [if_pos (aer.1 h8)],ae⟩,((aj (aj (bG cl) cl) cl)).symm⟩
  ·refine aP ?_
   exact⟨a,_,⟨by rw [if_neg (fun h=>h8 (aer.2 h))],ae⟩,((aj (aj (bG cl) cl) cl)).symm⟩
 ·rintro _ ⟨q,LC8,⟨hq,jK⟩,rfl⟩
  refine aA ?_
  refine cp aQ (ajz _ ae) ?_
  refine aA ?_
  rw [<-hq]
  exact gr
open H0 in
theorem ah6 (a b:Rat) (h:rl a+rl b<=549755813888):ax al 168 [ah a,ah b] (ah (if a<b then b else a)):=by
 refine aS Tryz.func168 ?_
 refine bF ?_
 refine cp au (nA _ _ ae) ?_
 refine aL ?_
 refine gY (fun L=>∃ (q:Rat) (L1:St),(q=(if a<b then b else a)/\rl q<=549755813888)/\L=(((St.mk L1.slot (hp [(2,⟨3,[ah q],true⟩),(3,⟨3,[ah b],true⟩),(4,⟨3,[.agg [.v (.bool false),.list 1 [],.list 1 []]],true⟩)])).put (some 2) (.aB 2 3 0 0)).put (some 4) (.aB 4 3 0 0))) ?_ ?_
 ·refine aF rfl ?_ ?_<;>intro pa h8
  ·refine ba ?_
   exact⟨b,_,⟨by rw [if_pos (u7.1 h8)],ae⟩,((aj (aj (bG cl) cl) cl)).symm⟩
  ·refine aP ?_
   exact⟨a,_,⟨by rw [if_neg (fun h=>h8 (u7.2 h))],ae⟩,((aj (aj (bG cl) cl) cl)).symm⟩
 ·rintro _ ⟨q,LC8,⟨hq,jK⟩,rfl⟩
  refine aA ?_
  refine cp aQ (ajz _ ae) ?_
  refine aA ?_
  rw [<-hq]
  exact gr
theorem atC {o:List Nat} {N:Nat} (hL:bX o) (hv:val o=N) (h:o.length=0\/4294967296 ^ (o.length-1)<=N):o=aq N:=by
 have h1:(aq N).length<=o.length:=by rw [<-hv];exact axj hL
 have h2:o.length<=(aq N).length:=by
  rcases h with h | h
  ·omega
  ·rcases gM (aq N).length o.length with bM | kj
   ·have:=uK (n:=N) (k:=o.length-1) ae
    omega
   ·exact kj
 have e1:=ajd hL rfl
 have e2:=ajd (cS N) rfl
 rw [e1,e2,ck,hv]
 congr 1;omega
theorem aDo {m:Nat} (h:(aq m).length=2):m=(aq m).getD 1 0*4294967296+(aq m).getD 0 0:=by
 have e:=ck m
 generalize aq m=l at h e
 match l,h with
 | [x,y],_=>rw [val_two] at e;simp;omega
theorem orC {a b:Nat} (hb:b<4294967296) (hx:a<4294967296):dL .or .u64 (b:Nat) ((a*4294967296:Nat):Int)=some (.int .u64 ((a*4294967296+b:Nat):Int)):=orV (s:=32) hb ae
theorem zG:(0:Int).toNat=0:=rfl
theorem tz1:(1:Int).toNat=1:=rfl
theorem mG {α β:Type} (f:α->β) (o:List α):(o.map f).take o.length=o.map f:=by rw [de aT]
theorem mB {α β:Type} (f:α->β) (o:List α) (x:α):o.map f++[f x]=(o++[x]).map f:=by simp
theorem jB {α:Type} (o:List α) (x:α):(o++[x]).length=o.length+1:=by simp
theorem akM (o:List Nat) (x:Nat):val (o++[x])=val o+4294967296 ^ o.length*x:=by rw [aeh];simp [val]
theorem alj {o:List Nat} (h:bX o) {x:Nat} (hx:x<4294967296):bX (o++[x]):=aqh h (fun y hy=>by simp at hy;omega)
section
variable {m n c s:Nat} {o:List Nat}
theorem aGy (hv:val o+4294967296 ^ o.length*c=val ((aq m).take o.length)+val ((aq n).take o.length)) (hs:s=c+(aq m).getD o.length 0+(aq n).getD o.length 0) :
  val (o++[s % 4294967296])+4294967296 ^ (o.length+1)*(s/4294967296)=val ((aq m).take (o.length+1))+val ((aq n).take (o.length+1)):=by
 rw [akM,pJ,pJ,jg]
 have h1:=ace (4294967296 ^ o.length) s
 have h2:4294967296 ^ o.length*s=4294967296 ^ o.length*c+4294967296 ^ o.length*(aq m).getD o.length 0+4294967296 ^ o.length*(aq n).getD o.length 0:=by rw [hs,ez,ez]
 omega
theorem afQ {m k:Nat} (h:(aq m).length<=k):val ((aq m).take k)=m:=by rw [de h,ck]
theorem aFb (hv:val o+4294967296 ^ o.length*c=val ((aq m).take o.length)+val ((aq n).take o.length)) (c9:o.length<=max (aq m).length (aq n).length\/(o.length=max (aq m).length (aq n).length+1/\c=0))
  (hg:o.length<max (aq m).length (aq n).length\/c≠0):o.length+1=max (aq m).length (aq n).length+1->4294967296 ^ (o.length+1-1)<=m+n:=by
 intro h
 rw [afQ ae,afQ ae] at hv
 have:4294967296 ^ o.length*1<=4294967296 ^ o.length*c:=jX _ ae
 rw [lP];omega
theorem agU {m:Nat} (h:0<(aq m).length):4294967296 ^ ((aq m).length-1)<=m:=by
 rcases gM m (4294967296 ^ ((aq m).length-1)) with h1 | h1
 ·have:=xw h1;omega
 ·exact h1
theorem aHV (hc:c<=1) (c9:o.length<=max (aq m).length (aq n).length\/(o.length=max (aq m).length (aq n).length+1/\c=0)) (hg:o.length<max (aq m).length (aq n).length\/c≠0)
  (hs:s=c+(aq m).getD o.length 0+(aq n).getD o.length 0):o.length+1<=max (aq m).length (aq n).length\/(o.length+1=max (aq m).length (aq n).length+1/\s/4294967296=0):=by
 by_cases h:o.length<max (aq m).length (aq n).length
 ·exact qj
 ·rw [uR (aq m) _ ae,uR (aq n) _ ae] at hs
  exact .inr ⟨ae,ae⟩
theorem aDj (hc:c<=1) (cd:bX o) (c9:o.length<=max (aq m).length (aq n).length\/(o.length=max (aq m).length (aq n).length+1/\c=0)) (hv:val o+4294967296 ^ o.length*c=val ((aq m).take o.length)+val ((aq n).take o.length))
  (kj:o.length=max (aq m).length (aq n).length+1->4294967296 ^ (o.length-1)<=m+n) (hg:¬ (o.length<max (aq m).length (aq n).length\/c≠0)):aq (m+n)=o:=by
 rw [afQ ae,afQ ae,show c=0 by omega] at hv
 refine(atC cd ae ?_).symm
 by_cases h0:o.length=0
 ·exact .inl h0
 refine .inr ?_
 rcases c9 with h | h
 ·rcases alq (aq m).length (aq n).length with hh | hh
  ·have:=agU (m:=n) ae
   rw [show o.length=(aq n).length by omega];omega
  ·have:=agU (m:=m) ae
   rw [show o.length=(aq m).length by omega];omega
 ·exact kj h.1
end
theorem aDO {k br y2 yt x:Nat} {a b o:List Nat} (c9:k<o.length) (cd:bX o) (nW:br<=1) (hxl:a.getD k 0<4294967296) (zx:b.getD k 0<4294967296) (hv:val (o.take k)+val (b.take k)=val (a.take k)+4294967296 ^ k*br) (hx:x=br+b.getD k 0)
  (h:(a.getD k 0<x/\y2=a.getD k 0+4294967296/\yt=1)\/(x<=a.getD k 0/\y2=a.getD k 0/\yt=0)) :
  x<=y2/\yt<=1/\bX (o.set k ((y2-x) % 4294967296))/\val ((o.set k ((y2-x) % 4294967296)).take (k+1))+val (b.take (k+1))=val (a.take (k+1))+4294967296 ^ (k+1)*yt:=by
 rcases h with⟨h1,rfl,rfl⟩ | ⟨h1,rfl,rfl⟩
 ·refine⟨ae,ae,mO cd _ _ ae,?_⟩
  rw [show (a.getD k 0+4294967296-x) % 4294967296=4294967296+a.getD k 0-x by omega]
  exact atx c9 hv hx h1 ae
 ·refine⟨ae,ae,mO cd _ _ ae,?_⟩
  rw [iF (by omega:a.getD k 0-x<4294967296)]
  exact arZ c9 hv hx h1
namespace apO
theorem aM {p q:Prop} (k:q) (e:p=q:=by simp only [e1,e2,e3,e4,p1,p2,p3,q1,q2,q3,l1,t0,t1,r1,r2,r3,r4,Nat.zero_add,Nat.reduceMul,Nat.reduceAdd,b1,b2,b3,b4,b5,b6,i1,i2,i3,i4,i5,i6,Nat.reduceBEq,ej,ek,fW,List.take_zero,List.take_nil,List.nil_append,aV fZ,LV.kill];exact rfl):p:=e.mpr k
end apO
open apO in
theorem vy (l:List Nat) (h:bX l) (hl:l.length<=4398046511104):ax al 146 [eZ l] (bl (val l)):=by
 unfold eZ bl
 rw [<-vC h]
 unfold xS
 refine aS Tryz.func146 ?_
 have ej:True:=trivial
 have ek:True:=trivial
 refine dH ?_
 refine dU (fun(k:Nat) L=>(((St.mk L.slot (hp [])).put (some 0) (.list 1 (l.map bu))).put (some 3) (ai k))) (fun k=>k<=l.length/\jt l.length l=jt k l) (fun k=>k) l.length ⟨bp _,rfl⟩ ?_
 rintro k L1 ⟨hk,wX⟩
 refine aD ?_
 refine dg 8 rfl ?_ ?_<;>intro pa h8
 ·obtain⟨j,rfl⟩:∃ j,k=j+1:=⟨k-1,ae⟩
  have ej:(((j+1:Nat):Int)-1).toNat=j:=by omega
  have ek:(((j+1:Nat):Int)-1)=j:=by omega
  refine bE ?_
  refine aF rfl ?_ ?_<;>intro pR mT
  ·refine bI ?_
   exact iD j ⟨ae,wX.trans (by simp only [jt];rw [if_pos (by simpa using mT)])⟩
  ·refine bI ?_
   refine ao rfl ady ?_
   refine bU rfl ap4 ?_
   refine aA ?_
   rw [wX,jt,if_neg (show ¬ l.getD j 0=0 by omega)]
   exact ow [22] rfl rfl (fC fZ rfl rfl rfl)
 ·have kZ:k=0:=by omega
  subst kZ
  refine oz ?_
  refine ao rfl ady ?_
  refine bU rfl ap4 ?_
  refine aA ?_
  rw [wX,show jt 0 l=0 from rfl]
  exact ow [22] rfl rfl (fC fZ rfl rfl rfl)
open H0 in
theorem abv (n:Nat) (hn:n<18446744073709551616):ax al 79 [cQ n] (bl n):=by
 have hL:bX [n % 4294967296,n/4294967296 % 4294967296]:=by
  intro x hx;simp at hx;omega
 have hV:val [n % 4294967296,n/4294967296 % 4294967296]=n:=by rw [val_two];omega
 refine aS Tryz.func79 ?_
 refine dG ?_
 refine sP [8] sR (vy _ iT tE) ?_
 refine aA ?_
 exact dT rfl (by rw [hV];exact .pure (kf _))
namespace ao2
theorem aM {p q:Prop} (k:q) (e:p=q:=by simp only [e1,e2,e3,e4,p1,p2,p3,q1,q2,q3,l1,t0,t1,r1,r2,r3,r4,Nat.zero_add,Nat.reduceMul,Nat.reduceAdd,b1,b2,b3,b4,b5,b6,i1,i2,i3,i4,i5,i6,Nat.reduceBEq,fW,zG,tz1];exact rfl):p:=e.mpr k
end ao2
open ao2 in
theorem agT (m:Nat) (hl:(aq m).length<=1099511627776):ax al 258 [bl m] (.bf [cQ (if m<18446744073709551616 then m else 0),bL (decide (m<18446744073709551616))]):=by
 have jD:=iQ m 0
 have jS:=iQ m 1
 refine aS Tryz.func258 ?_
 refine oz ?_
 refine aF rfl ?_ ?_<;>intro xr h6
 ·have hm:m=0:=sM.1 (m8 ae)
  refine bE ?_
  subst hm
  exact yg
 ·refine aD ?_
  refine aF rfl ?_ ?_<;>intro pa h8
  ·have hm:=abq (n:=m) ae
   have eO:=ua.1 (show (aq m).length<=1 by omega)
   refine dG ?_
   rw [if_pos ae,decide_eq_true ae]
   refine wL (x:=cQ ((aq m).getD 0 0)) rfl ?_ rfl (.pure rfl)
   rw [hm.1]
   exact .pure rfl
  ·refine aD ?_
   refine aF rfl ?_ ?_<;>intro rA lW
   ·have h2v:m=(aq m).getD 1 0*4294967296+(aq m).getD 0 0:=aDo ae
    have eO:=aai.1 (show (aq m).length<=2 by omega)
    refine av ?_
    refine a8 12 an ?_
    refine bn ?_
    refine ao rfl (.sh rfl rfl (aeG (by simp only [fW,zG,tz1];omega))) ?_
    refine ao rfl (.bin rfl rfl (orC (by simp only [fW,zG,tz1];omega) (by simp only [fW,zG,tz1];omega))) ?_
    refine aY ?_
    rw [if_pos eO,decide_eq_true eO]
    refine wL (x:=cQ ((aq m).getD 1 0*4294967296+(aq m).getD 0 0)) rfl ?_ rfl (.pure rfl)
    rw [<-h2v]
    exact .pure rfl
   ·have eO:¬ m<18446744073709551616:=fun h=>by have:=aai.2 h;omega
    refine bI ?_
    rw [if_neg eO,decide_eq_false eO]
    exact yg
open adL in
theorem acs (m n:Nat) (fQ:(aq m).length<=1099511627776) (l7:(aq n).length<=1099511627776):ax al 66 [bl m,bl n] (iL (jU m n)):=by
 refine aS Tryz.func66 ?_
 have ej:True:=trivial
 have ek:True:=trivial
 refine iI ?_
 refine aF rfl ?_ ?_<;>intro nE qN
 ·refine bI ?_
  refine aF rfl ?_ ?_<;>intro pR mT
  ·have hE:=agZ (m:=m) (n:=n) ae
   refine bn ?_
   first | (rw [qP hE];exact dT rfl (.pure rfl)) | (rw [tu hE];exact dT rfl (.pure rfl)) | (rw [uq hE];exact dT rfl (.pure rfl))
  ·have hE:=agZ (m:=n) (n:=m) ae
   refine bE ?_
   first | (rw [qP hE];exact dT rfl (.pure rfl)) | (rw [tu hE];exact dT rfl (.pure rfl)) | (rw [uq hE];exact dT rfl (.pure rfl))
 ·have hlen:(aq m).length=(aq n).length:=by omega
  clear qN nE
  refine bF ?_
  refine dU (fun(k:Nat) L=>((((St.mk L.slot (hp [])).put (some 0) (bl m)).put (some 1) (bl n)).put (some 5) (iL ((k:Int)-1)))) (fun k=>k<=(aq m).length/\(aq m).drop k=(aq n).drop k) (fun k=>k) ((aq m).length) ⟨bp _,by rw [ad7,jQ ae]⟩ ?_
  rintro k L1 ⟨hk,hd⟩
  refine aY ?_
  refine aF rfl ?_ ?_<;>intro aay h20
  ·obtain⟨j,rfl⟩:∃ j,k=j+1:=⟨k-1,ae⟩
   have ej:(((j+1:Nat):Int)-1).toNat=j:=by omega
   have ek:(((j+1:Nat):Int)-1)=j:=by omega
   refine aD ?_
   refine a8 9 an ?_
   refine bD ?_
   refine aF rfl ?_ ?_<;>intro ams h31
   ·have hE:=aiT (cS m) (k:=j) ae ae hd ae
    rw [ck,ck] at hE
    refine bF ?_
    first | (rw [qP hE];exact dT rfl (.pure rfl)) | (rw [tu hE];exact dT rfl (.pure rfl)) | (rw [uq hE];exact dT rfl (.pure rfl))
   ·refine aL ?_
    refine a8 9 an ?_
    refine bD ?_
    refine aF rfl ?_ ?_<;>intro al2 wC
    ·have hE:=aiT (cS n) (k:=j) ae ae hd.symm ae
     rw [ck,ck] at hE
     refine bD ?_
     first | (rw [qP hE];exact dT rfl (.pure rfl)) | (rw [tu hE];exact dT rfl (.pure rfl)) | (rw [uq hE];exact dT rfl (.pure rfl))
    ·refine bE ?_
     exact iD j ⟨ae,aqS ae ae hd ae⟩
  ·obtain rfl:k=0:=by omega
   rw [lQ,lQ] at hd
   have hE:m=n:=by have:=congrArg val hd;rwa [ck,ck] at this
   refine bD ?_
   first | (rw [qP hE];exact dT rfl (.pure rfl)) | (rw [tu hE];exact dT rfl (.pure rfl)) | (rw [uq hE];exact dT rfl (.pure rfl))
namespace al9
theorem aM {p q:Prop} (k:q) (e:p=q:=by simp only [e1,e2,e3,e4,p1,p2,p3,q1,q2,q3,l1,t0,t1,r1,r2,r3,r4,Nat.zero_add,Nat.reduceMul,Nat.reduceAdd,b1,b2,b3,b4,b5,b6,i1,i2,i3,i4,i5,i6,Nat.reduceBEq,fW,List.take_zero,List.take_nil,List.nil_append,aV fZ,LV.kill,mG,mB,jB,List.length_cons,List.length_nil];exact rfl):p:=e.mpr k
end al9
open al9 in
theorem aAT (m n:Nat) (fQ:(aq m).length<=1099511627776) (l7:(aq n).length<=1099511627776):ax al 139 [bl m,bl n] (bl (m+n)):=by
 refine aS Tryz.func139 ?_
 refine anY ?_
 refine kY (az.own (t:=5) 50 1 rfl rfl) ?_
 refine lG (fun(o:List Nat) (c:Nat) L=>((((((St.mk L.slot (hp [(50,⟨1,o.map bu,true⟩)])).put (some 0) (bl m)).put (some 1) (bl n)).put (some 5) (.ref 50 1 0 o.length)).put (some 6) (cQ c)).put (some 7) (ai o.length))) (fun o c=>c<=1/\bX o/\(o.length<=max (aq m).length (aq n).length\/(o.length=max (aq m).length (aq n).length+1/\c=0))/\val o+4294967296 ^ o.length*c=val ((aq m).take o.length)+val ((aq n).take o.length)/\(o.length=max (aq m).length (aq n).length+1->4294967296 ^ (o.length-1)<=m+n)) (fun o c=>max (aq m).length (aq n).length+2-o.length) ([]) 0 ⟨ae,(by intro x hx;cases hx),.inl (b8 _),by simp [val],by simp⟩ ?_
 rintro o c L1 ⟨hc,cd,c9,hv,kj⟩
 have ue:=iQ m o.length
 have hyk:=iQ n o.length
 refine aP ?_
 refine gY (fun L=>∃ (t:Bool) (L1:St),(t=decide (o.length<max (aq m).length (aq n).length\/c≠0))/\L=(((((((St.mk L1.slot (hp [(50,⟨1,o.map bu,true⟩)])).put (some 0) (bl m)).put (some 1) (bl n)).put (some 5) (.ref 50 1 0 o.length)).put (some 6) (cQ c)).put (some 7) (ai o.length)).put (some 21) (bL t))) ?_ ?_
 ·refine aD ?_
  refine dg 12 rfl ?_ ?_<;>intro ads h12
  ·refine bD ?_
   exact⟨true,_,by symm;rw [decide_eq_true_iff];omega,((aj (aj (aj (aj (aj (aj (bG cl) cl) cl) cl) cl) cl) cl)).symm⟩
  ·refine aD ?_
   refine dg 18 rfl ?_ ?_<;>intro uf ur
   ·refine ba ?_
    exact⟨true,_,by symm;rw [decide_eq_true_iff];omega,((aj (aj (aj (aj (aj (aj (bG cl) cl) cl) cl) cl) cl) cl)).symm⟩
   ·refine ba ?_
    exact⟨((c:Int) != 0),_,by rw [ad8,bne_iff_ne,decide_eq_true_iff];omega,((aj (aj (aj (aj (aj (aj (bG cl) cl) cl) cl) cl) cl) cl)).symm⟩
 ·rintro _ ⟨t,LR4,ht,rfl⟩
  refine av ?_
  refine aF rfl ?_ ?_<;>intro aaN h21
  ·rw [ht,decide_eq_true_iff] at aaN
   have hg:=aaN
   refine dG ?_
   refine gY (fun L=>∃ (s1:Nat) (L1:St),(s1=c+(aq m).getD o.length 0)/\L=((((((St.mk L1.slot (hp [(50,⟨1,o.map bu,true⟩)])).put (some 0) (bl m)).put (some 1) (bl n)).put (some 5) (.ref 50 1 0 o.length)).put (some 6) (cQ s1)).put (some 7) (ai o.length))) ?_ ?_
   ·refine aF rfl ?_ ?_<;>intro yZ h27
    ·refine bD ?_
     exact⟨c+(aq m).getD o.length 0,_,rfl,((aj (aj (aj (aj (aj (bG cl) cl) cl) cl) cl) cl)).symm⟩
    ·refine aP ?_
     exact⟨c,_,by rw [uR (aq m) o.length ae];rfl,((aj (aj (aj (aj (aj (bG cl) cl) cl) cl) cl) cl)).symm⟩
   ·rintro _ ⟨s1,aBV,ku,rfl⟩
    refine bI ?_
    refine gY (fun L=>∃ (s:Nat) (L1:St),(s=c+(aq m).getD o.length 0+(aq n).getD o.length 0)/\L=((((((St.mk L1.slot (hp [(50,⟨1,o.map bu,true⟩)])).put (some 0) (bl m)).put (some 1) (bl n)).put (some 5) (.ref 50 1 0 o.length)).put (some 6) (cQ s)).put (some 7) (ai o.length))) ?_ ?_
    ·refine aF rfl ?_ ?_<;>intro ahK h38
     ·refine bD ?_
      exact⟨s1+(aq n).getD o.length 0,_,by rw [ku],((aj (aj (aj (aj (aj (bG cl) cl) cl) cl) cl) cl)).symm⟩
     ·refine aP ?_
      exact⟨s1,_,by rw [ku,uR (aq n) o.length ae];rfl,((aj (aj (aj (aj (aj (bG cl) cl) cl) cl) cl) cl)).symm⟩
    ·rintro _ ⟨s,aIG,hs,rfl⟩
     refine aY ?_
     refine bU rfl (.app (news:=[bu (s % 4294967296)]) rfl rfl rfl rfl rfl aT (.inl rfl) ak pG pG abY sa rfl acq (.inl ⟨49,0,_,rfl,by decide,rfl,rfl,by simp,rfl,rfl⟩) bw bw ak) ?_
     refine aL ?_
     refine cy (az.kill _ 49) ?_
     refine bF ?_
     exact iW (o++[s % 4294967296]) (s/4294967296) ⟨ae,alj cd ae,by rw [jB];exact aHV hc c9 hg hs,by rw [jB];exact aGy hv hs,by rw [jB];exact aFb hv c9 hg⟩ (hm:=by rw [jB];omega)
  ·rw [ht,decide_eq_false_iff_not] at aaN
   have hN:=aDj hc cd c9 hv kj aaN
   refine bF ?_
   skip
   exact ow [50] rfl rfl (by rw [show bl (m+n)=.list 1 (o.map bu) by rw [<-hN];rfl];exact fC fZ rfl rfl rfl)
open acM in
theorem akR (m n:Nat) (fQ:(aq m).length<=1099511627776) (l7:(aq n).length<=1099511627776) (hle:n<=m):ax al 231 [bl m,bl n] (bl (m-n)):=by
 have sJ:=oq hle
 refine aS Tryz.func231 ?_
 refine bE ?_
 refine fG rfl rfl (.mw (n:=(aq m).length) (m:=(aq m).length) ml ml om om om) ?_
 refine iI ?_
 refine tV (fun(k:Nat) (o:List Nat) (br:Nat) L=>((((((St.mk L.slot (hp [(12,⟨1,o.map bu,true⟩)])).put (some 0) (bl m)).put (some 1) (bl n)).put (some 5) (.ref 12 1 0 (aq m).length)).put (some 6) (cQ br)).put (some 7) (ai k))) (fun k o br=>k<=(aq m).length/\o.length=(aq m).length/\br<=1/\bX o/\val (o.take k)+val ((aq n).take k)=val ((aq m).take k)+4294967296 ^ k*br) (fun k o br=>(aq m).length-k) 0 (ay (aq m).length 0) 0 ⟨b8 _,by simp,ae,vN _,by simp [val]⟩ ?_
 rintro k o br L1 ⟨hk,c9,nW,cd,hv⟩
 have ue:=iQ m k
 have hyk:=iQ n k
 refine bE ?_
 refine aF rfl ?_ ?_<;>intro abi yL
 ·refine o4 ?_
  refine gY (fun L=>∃ (x:Nat) (L1:St),(x=br+(aq n).getD k 0)/\L=(((((((St.mk L1.slot (hp [(12,⟨1,o.map bu,true⟩)])).put (some 0) (bl m)).put (some 1) (bl n)).put (some 5) (.ref 12 1 0 (aq m).length)).put (some 6) (cQ br)).put (some 7) (ai k)).put (some 8) (cQ x))) ?_ ?_
  ·refine aF rfl ?_ ?_<;>intro td rD
   ·refine bD ?_
    exact⟨br+(aq n).getD k 0,_,rfl,((aj (aj (aj (aj (aj (aj (bG cl) cl) cl) cl) cl) cl) cl)).symm⟩
   ·refine aP ?_
    exact⟨br,_,by rw [uR _ k ae];rfl,((aj (aj (aj (aj (aj (aj (bG cl) cl) cl) cl) cl) cl) cl)).symm⟩
  ·rintro _ ⟨x,aJX,hx,rfl⟩
   refine aaw ?_
   refine gY (fun L=>∃ (y2:Nat) (yt:Nat) (L1:St),(((aq m).getD k 0<x/\y2=(aq m).getD k 0+4294967296/\yt=1)\/(x<=(aq m).getD k 0/\y2=(aq m).getD k 0/\yt=0))/\L=((((((((St.mk L1.slot (hp [(12,⟨1,o.map bu,true⟩)])).put (some 0) (bl m)).put (some 1) (bl n)).put (some 5) (.ref 12 1 0 (aq m).length)).put (some 6) (cQ yt)).put (some 7) (ai k)).put (some 8) (cQ x)).put (some 9) (cQ y2))) ?_ ?_
   ·refine aF rfl ?_ ?_<;>intro ahK h38
    ·refine bD ?_
     exact⟨(aq m).getD k 0+4294967296,1,_,.inl ⟨ae,rfl,rfl⟩,((aj (aj (aj (aj (aj (aj (aj (bG cl) cl) cl) cl) cl) cl) cl) cl)).symm⟩
    ·refine aP ?_
     exact⟨(aq m).getD k 0,0,_,.inr ⟨ae,rfl,rfl⟩,((aj (aj (aj (aj (aj (aj (aj (bG cl) cl) cl) cl) cl) cl) cl) cl)).symm⟩
   ·rintro _ ⟨y2,yt,aIG,hf,rfl⟩
    obtain⟨hf1,qV,uV,hf4⟩:=aDO ae cd nW ue hyk hv hx hf
    refine o4 ?_
    exact tD (k+1) (o.set k ((y2-x) % 4294967296)) yt ⟨ae,by simp [c9],qV,uV,hf4⟩
 ·obtain rfl:k=(aq m).length:=by omega
  refine bn ?_
  refine sP [12] sR (vy _ iT tE) ?_
  refine aA ?_
  have e:=asp (cS m) cd c9 sJ (by rw [ck,ck];exact hle) hv
  rw [vC cd,ck,ck] at e
  have e2:=congrArg val e
  rw [ck,ck] at e2
  rw [<-e2]
  exact dW
open H0 in
theorem aqo (m n:Nat) (fQ:(aq m).length<=1099511627776) (l7:(aq n).length<=1099511627776):ax al 140 [bl m,bl n] (.bf [eZ (adX m n),iL (abJ m n)]):=by
 refine aS Tryz.func140 ?_
 refine bD ?_
 refine cp au (acs _ _ ae ae) ?_
 refine aL ?_
 refine aF rfl ?_ ?_<;>intro wi h9
 ·have bM:m<n:=by unfold jU at h9;split at h9;assumption;split at h9<;>omega
  refine bn ?_
  rw [adX,if_pos bM,abJ,if_pos bM]
  exact wL rfl (.nil 1) rfl (.pure rfl)
 ·have hle:n<=m:=by
   rcases gM m n with h | h
   ·rw [qP h] at h9;omega
   ·exact h
  refine aD ?_
  refine cp au (akR _ _ ae ae ae) ?_
  refine ba ?_
  rw [ags hle,akY.2 hle]
  exact wL rfl (.pure (kf _)) rfl (.pure rfl)
theorem aEJ {x:Nat} (h:0<x):dI x=dI (x/2 ^ 1)+1:=by
 have:=aiZ (n:=x) (k:=1)
 rcases gM x 2 with h1 | h1
 ·obtain rfl:x=1:=by omega
  rfl
 ·rw [this ae];omega
open amR in
theorem yE (m n:Nat) (fQ:(aq m).length<=1099511627776) (l7:(aq n).length<=1099511627776):ax al 136 [bl m,bl n] (bl (m*n)):=by
 refine aS Tryz.func136 ?_
 have kg:True:=trivial
 refine bF ?_
 refine fG rfl rfl (.mw (n:=(aq m).length+(aq n).length) (m:=(aq m).length+(aq n).length) ml ml om om om) ?_
 refine bI ?_
 refine lG (fun(i:Nat) (o:List Nat) L=>(((((St.mk L.slot (hp [(14,⟨1,o.map bu,true⟩)])).put (some 0) (bl m)).put (some 1) (bl n)).put (some 5) (.ref 14 1 0 ((aq m).length+(aq n).length))).put (some 6) (ai i))) (fun i o=>i<=(aq m).length/\o.length=(aq m).length+(aq n).length/\bX o/\val o=val ((aq m).take i)*val (aq n)/\∀ p,i+(aq n).length<=p->o.getD p 0=0) (fun i o=>(aq m).length-i) 0 (ay ((aq m).length+(aq n).length) 0) ⟨b8 _,by simp,vN _,by simp [val,ajc],fun p _=>api _ _⟩ ?_
 rintro i o L1 ⟨hi,c9,cd,hv,hz⟩
 have hxi:=iQ m i
 refine bE ?_
 refine aF rfl ?_ ?_<;>intro uf ur
 ·refine nZ ?_
  refine tV (fun(j:Nat) (o:List Nat) (c:Nat) L=>(((((((St.mk L.slot (hp [(14,⟨1,o.map bu,true⟩)])).put (some 0) (bl m)).put (some 1) (bl n)).put (some 5) (.ref 14 1 0 ((aq m).length+(aq n).length))).put (some 6) (ai i)).put (some 7) (cQ c)).put (some 8) (ai j))) (fun j o c=>j<=(aq n).length/\o.length=(aq m).length+(aq n).length/\bX o/\c<4294967296/\val o+4294967296 ^ (i+j)*c=val ((aq m).take i)*val (aq n)+4294967296 ^ i*((aq m).getD i 0*val ((aq n).take j))/\∀ p,i+(aq n).length<=p->o.getD p 0=0) (fun j o c=>(aq n).length-j) 0 o 0 ⟨b8 _,c9,cd,ae,by rw [hv];simp [val],hz⟩ ?_
  rintro j o c L2 ⟨hj,c9,cd,hc,hv,hz⟩
  have hyj:=iQ n j
  have hzj:=jc cd (i+j)
  have hs:=ayj hc hxi hyj hzj
  have kg:((i:Int)+(j:Int)).toNat=i+j:=by omega
  refine bE ?_
  refine aF rfl ?_ ?_<;>intro tc wN
  ·refine ba ?_
   refine a8 22 an ?_
   refine aJj ?_
   exact tD (j+1) (o.set (i+j) ((c+((aq m).getD i 0*(aq n).getD j 0+o.getD (i+j) 0)) % 4294967296)) ((c+((aq m).getD i 0*(aq n).getD j 0+o.getD (i+j) 0))/4294967296) ⟨ae,by simp [c9],mO cd _ _ (lZ _ ae),ae,awg ae hv rfl,aoi ae hz⟩
  ·obtain rfl:j=(aq n).length:=by omega
   have aB7:((i:Int)+((aq n).length:Int)).toNat=i+(aq n).length:=by omega
   refine aaw ?_
   exact iW (i+1) (o.set (i+(aq n).length) (c % 4294967296)) ⟨ae,by simp [c9],mO cd _ _ (lZ _ ae),by rw [iF hc];exact aqv ae ae (hz _ (bp _)) rfl rfl hv,ar2 hz⟩
 ·obtain rfl:i=(aq m).length:=by omega
  refine bn ?_
  refine sP [14] sR (vy _ iT tE) ?_
  refine aA ?_
  rw [nn,ck,ck] at hv
  rw [<-hv]
  exact dW
open H0 in
theorem aDY (m d:Nat) (fQ:(aq m).length<=549755813888) (hd:d<4294967296):ax al 272 [bl m,qz d] (bl (m*d)):=by
 have hld:(aq d).length<=1:=ua.2 hd
 refine aS Tryz.func272 ?_
 refine bI ?_
 refine cp aQ (abv _ ae) ?_
 refine cp au (yE _ _ ae ae) ?_
 refine aA ?_
 exact dW
open adL in
theorem azk (m d:Nat) (fQ:(aq m).length<=1099511627776) (jD:0<d) (hd:d<4294967296):ax al 268 [bl m,qz d] (.bf [bl (m/d),qz (m % d)]):=by
 refine aS Tryz.func268 ?_
 have ej:True:=trivial
 have ek:True:=trivial
 refine bI ?_
 refine fG rfl rfl (.mw (n:=(aq m).length) (m:=(aq m).length) ml ml om om om) ?_
 refine oV ?_
 refine tV (fun(k:Nat) (q:List Nat) (r:Nat) L=>((((((St.mk L.slot (hp [(11,⟨1,q.map bu,true⟩)])).put (some 0) (bl m)).put (some 1) (qz d)).put (some 6) (.ref 11 1 0 (aq m).length)).put (some 7) (cQ r)).put (some 8) (iL ((k:Int)-1)))) (fun k q r=>k<=(aq m).length/\q.length=(aq m).length/\bX q/\r<d/\val (q.drop k)*d+r=val ((aq m).drop k)) (fun k q r=>k) ((aq m).length) (ay (aq m).length 0) 0 ⟨bp _,by simp,vN _,jD,by simp [val]⟩ ?_
 rintro k q r L1 ⟨hk,jK,mb,hr,hv⟩
 refine aY ?_
 refine aF rfl ?_ ?_<;>intro abi yL
 ·obtain⟨j,rfl⟩:∃ j,k=j+1:=⟨k-1,ae⟩
  have ej:(((j+1:Nat):Int)-1).toNat=j:=by omega
  have ek:(((j+1:Nat):Int)-1)=j:=by omega
  have hxj:=iQ m j
  refine aaw ?_
  refine ao rfl afM ?_
  refine oz ?_
  exact tD j (q.set j ((r*4294967296+(aq m).getD j 0)/d % 4294967296)) ((r*4294967296+(aq m).getD j 0) % d) ⟨ae,by simp [jK],mO mb _ _ (lZ _ ae),lZ _ jD,by rw [iF (aoR hr hxj)];exact apQ ae jK hv rfl⟩
 ·obtain rfl:k=0:=by omega
  refine bn ?_
  refine sP [11] sR (vy _ iT tE) ?_
  refine aY ?_
  obtain⟨E1,E2⟩:=arc jD hr mb hv
  rw [vC mb] at E1
  have E3:=congrArg val E1
  rw [ck,ck,ck] at E3
  rw [ck] at E2
  rw [<-E3,<-E2]
  have E4:r % 4294967296=r:=iF ae
  refine wL rfl (.pure (kf _)) rfl ?_
  show cV _ (qz (r % 4294967296)) (qz r)
  rw [E4]
  exact .pure rfl
open af1 in
theorem aJs (m:Nat) (fQ:(aq m).length<=1099511627776):ax al 269 [bl m] (iL (dI m)):=by
 refine aS Tryz.func269 ?_
 have ej:True:=trivial
 refine dG ?_
 refine aF rfl ?_ ?_<;>intro h7r h7
 ·have hz:m=0:=sM.1 (m8 ae)
  subst hz
  refine aY ?_
  exact dW
 ·have my:0<(aq m).length:=by omega
  have ej:(((aq m).length:Int)-1).toNat=(aq m).length-1:=by omega
  have hz:=aoQ my
  have ab5:=iQ m ((aq m).length-1)
  have amT:dI ((aq m).getD ((aq m).length-1) 0)<=32:=vR.2 ab5
  refine aaw ?_
  refine lG (fun(x q:Nat) L=>(((St.mk L.slot (hp [])).put (some 3) (ai q)).put (some 4) (qz x))) (fun x q=>q+dI x=dI m/\x<4294967296/\dI m<=35184372088832) (fun x q=>x) ((aq m).getD ((aq m).length-1) 0) (32*((aq m).length-1)) ⟨hz,ab5,ae⟩ ?_
  rintro x q L1 ⟨hq,hx,hbm⟩
  refine aY ?_
  refine aF rfl ?_ ?_<;>intro agD h19
  ·have iU:0<x:=by omega
   refine dG ?_
   refine ao rfl (.sh rfl rfl (aeu (m:=1) ak)) ?_
   refine aL ?_
   exact iW (x/2 ^ 1) (q+1) ⟨by have:=aEJ iU;omega,ae,hbm⟩
  ·obtain rfl:x=0:=by omega
   have gf:dI 0=0:=rfl
   obtain rfl:q=dI m:=by omega
   refine bF ?_
   exact dW
end Go.Proofs.YtckppbhafancnaaGreat
namespace Go.Lg
open Go.Proofs.YtckppbhafancnaaGreat in
theorem az.mv {L:St} {t b sz off len:Nat} {blk:bh} (d:Nat) (gf:b≠0) (jD:d≠0) (ga:b≠d) (h:L.slot t=.ref b sz off len) (hb:L.heap b=some blk) (hd:L.heap d=none) :
  az L (((L.kill b).bO d (some ⟨blk.sz,b7 b blk.vals,blk.mt⟩)).put (some t) (.ref d sz off len)):=by
 rintro n W X Z0 a w ⟨ec,bJ,μ,Z,hc,hr⟩
 have aco:=uw hc hd
 have hk:=hc.kill b gf
 have km:=aei b hr
 let bm:Nat->Option Nat:=fun c=>if c=d then μ b else ko μ b c
 have hm:∀ c id,ko μ b c=some id->bm c=some id:=fun c id hh=>by
  have:c≠d:=by
   rintro rfl
   unfold ko at hh;split at hh
   ·cases hh
   ·rw [aco] at hh;cases hh
  simp only [bm,if_neg this];exact hh
 have hinv:∀ c id,bm c=some id->(c=d/\μ b=some id)\/(c≠d/\ko μ b c=some id):=fun c id hh=>by
  simp only [bm] at hh;split at hh
  ·rename_i e;exact .inl ⟨e,hh⟩
  ·rename_i e;exact .inr ⟨e,hh⟩
 have gX:∀ c id,ko μ b c=some id->c≠b/\μ c=some id:=fun c id h=>by
  unfold ko at h;split at h
  ·cases h
  ·exact⟨by assumption,h⟩
 have hbb:∀ id,ko μ b b=some id->False:=fun id hh=>(gX b id hh).1 rfl
 have anJ:∀ {bk:bh} {id:Nat},uy Z (ko μ b) w bk id->uy Z bm w bk id:=fun hh=>uy.mono (fun _ h=>h) hm (Frame.refl _ _ _) rfl hh
 refine⟨ec,bJ,bm,Z,?_,fun s=>?_⟩
 ·rw [lH]
  refine⟨hc.cC,hc.lI,hc.jG,hc.lK,?_,?_,?_,hc.ov,?_,?_,?_,?_⟩
  ·intro c c' id h1 h2
   rcases hinv c id h1 with⟨e1,g1⟩ | ⟨e1,g1⟩<;>rcases hinv c' id h2 with⟨e2,g2⟩ | ⟨e2,g2⟩
   ·rw [e1,e2]
   ·have:=gX c' id g2;exact absurd (hc.inj _ _ id this.2 g1) this.1
   ·have:=gX c id g1;exact absurd (hc.inj _ _ id this.2 g2) this.1
   ·exact hc.inj c c' id (gX c id g1).2 (gX c' id g2).2
  ·intro c id h1
   rcases hinv c id h1 with⟨e1,g1⟩ | ⟨e1,g1⟩
   ·exact hc.own b id g1
   ·exact hc.own c id (gX c id g1).2
  ·intro c id h1 hx
   rcases hinv c id h1 with⟨e1,g1⟩ | ⟨e1,g1⟩
   ·exact absurd (hc.x0 b id g1 hx) gf
   ·exact hc.x0 c id (gX c id g1).2 hx
  ·intro id hx
   have h0:=hk.x1 id hx
   exact hm 0 id h0
  ·intro c id bk h1 ll fj
   rcases hinv c id h1 with⟨e1,g1⟩ | ⟨e1,g1⟩
   ·subst e1
    simp only [St.bO,if_true,fp] at ll
    subst ll
    exact hc.jx b id blk g1 hb fj
   ·simp only [St.bO,if_neg e1] at ll
    exact hk.jx c id bk g1 ll fj
  ·intro c id bk h1 ll fj
   rcases hinv c id h1 with⟨e1,g1⟩ | ⟨e1,g1⟩
   ·subst e1
    simp only [St.bO,if_true,fp] at ll
    subst ll
    exact hc.b9 b id blk g1 hb fj
   ·simp only [St.bO,if_neg e1] at ll
    exact hk.b9 c id bk g1 ll fj
  ·intro c id h1
   rcases hinv c id h1 with⟨e1,g1⟩ | ⟨e1,g1⟩
   ·subst e1
    obtain⟨bk,q1,cc,T,part,rest,q2,q3,q4⟩:=hc.heap b id g1
    rw [hb] at q1;cases q1
    refine⟨⟨blk.sz,b7 b blk.vals,blk.mt⟩,by simp [St.bO],anJ ⟨cc,T,part,rest,q2,q3,?_⟩⟩
    exact aR.kill (fun _ h=>h) (fun k id hk h=>by simp [ko,hk,h]) (Frame.refl _ _ _) _ _ q4
   ·obtain⟨bk,q1,q2⟩:=hk.heap c id g1
    exact⟨bk,by simp only [St.bO,if_neg e1];exact q1,anJ q2⟩
 ·rw [g8]
  split
  ·rename_i dC
   subst dC
   have e:=hr s
   rw [h] at e
   refine⟨by simp [LV.isAgg],fun hh=>?_⟩
   have e2:=e.2 rfl
   simp only [aC] at e2 ⊢
   rcases e2 with e2 | ⟨id,cap,c,T,fz,q1,q2,q3⟩
   ·exact .inl e2
   ·exact .inr ⟨id,cap,c,T,fz,q1,by simp only [bm,if_true];exact q2,q3⟩
  ·exact bj.mono (fun _ h=>h) hm (Frame.refl _ _ _) (km s)
end Go.Lg
namespace Go.Proofs.YtckppbhafancnaaGreat
open Go.Lg
theorem akV {s:Nat} (h:s<32):dL .quo .i64 (s:Nat) 32=some (.int .i64 0):=by
 have:((s:Int)).tdiv 32=0:=by rw [Int.tdiv_eq_ediv_of_nonneg ae];omega
 simp [dL,this,IntWalk.i64_in]
theorem axs {s:Nat} (h:s<32):dL .rem .i64 (s:Nat) 32=some (.int .i64 (s:Nat)):=by
 have:((s:Int)).tmod 32=s:=by rw [Int.tmod_eq_emod_of_nonneg ae];omega
 simp [dL,this]
theorem aCj {m s c x:Nat} {o:List Nat} (hv:val o+4294967296 ^ o.length*c=val ((aq m).take o.length)*2 ^ s) (hx:x=(aq m).getD o.length 0*2 ^ s+c) :
  val (o++[x % 4294967296])+4294967296 ^ (o.length+1)*(x/4294967296)=val ((aq m).take (o.length+1))*2 ^ s:=by
 rw [akM,pJ,jg,hY,fH (4294967296 ^ o.length) ((aq m).getD o.length 0)]
 have h1:=ace (4294967296 ^ o.length) x
 have h2:4294967296 ^ o.length*x=4294967296 ^ o.length*((aq m).getD o.length 0*2 ^ s)+4294967296 ^ o.length*c:=by rw [hx,ez]
 omega
theorem aFH {m s c:Nat} {o:List Nat} (hv:val o+4294967296 ^ o.length*c=val ((aq m).take o.length)*2 ^ s) (ho:o.length=(aq m).length) (hc:c<4294967296):val (o++[c % 4294967296])=m*2 ^ s:=by
 rw [akM,iF hc,hv,afQ ae]
theorem aEs {s x y:Nat} (hs:s<32) (hx:x<4294967296):(y*4294967296+x)/2 ^ s % 4294967296=x/2 ^ s+y % 2 ^ s*2 ^ (32-s):=by
 have hd:4294967296=2 ^ (32-s)*2 ^ s:=by rw [<-lM,show 32-s+s=32 by omega]
 have hp:0<2 ^ s:=lY ae
 obtain⟨_,h2⟩:=amY (z:=y) (show s<=32 by omega) hx
 have e1:(y*4294967296+x)/2 ^ s=y*2 ^ (32-s)+x/2 ^ s:=by
  rw [show y*4294967296+x=x+(y*2 ^ (32-s))*2 ^ s by rw [fH,<-hd];omega,Nat.add_mul_div_right _ _ hp];omega
 have e2:y*2 ^ (32-s)=y % 2 ^ s*2 ^ (32-s)+4294967296*(y/2 ^ s):=by
  have e3:y*2 ^ (32-s)=(2 ^ s*(y/2 ^ s)+y % 2 ^ s)*2 ^ (32-s):=by rw [acO]
  rw [e3,hY,hd,Nat.mul_right_comm,fy (2 ^ s) (2 ^ (32-s))];omega
 rw [e1,e2,show y % 2 ^ s*2 ^ (32-s)+4294967296*(y/2 ^ s)+x/2 ^ s=(y % 2 ^ s*2 ^ (32-s)+x/2 ^ s)+4294967296*(y/2 ^ s) by omega,Nat.add_mul_mod_self_left,iF h2]
 omega
theorem aDg {i s:Nat} {w o:List Nat} (hi:i<w.length) (hs:s<32) (hv:2 ^ s*val (w.take i)=val (o.take i)+4294967296 ^ i*(o.getD i 0 % 2 ^ s)) :
  2 ^ s*val ((w.set i (o.getD i 0/2 ^ s+o.getD (i+1) 0 % 2 ^ s*2 ^ (32-s))).take (i+1))=val (o.take (i+1))+4294967296 ^ (i+1)*(o.getD (i+1) 0 % 2 ^ s):=by
 have hd:4294967296=2 ^ s*2 ^ (32-s):=by rw [<-lM,show s+(32-s)=32 by omega]
 rw [abf _ _ _ hi,ez,hv,pJ,jg]
 have h1:=acO (o.getD i 0) (2 ^ s)
 generalize o.getD i 0/2 ^ s=q at *
 generalize o.getD i 0 % 2 ^ s=t at *
 generalize o.getD (i+1) 0 % 2 ^ s=u at *
 generalize 4294967296 ^ i=p at *
 rw [<-h1]
 have e1:2 ^ s*(p*(q+u*2 ^ (32-s)))=p*(2 ^ s*q)+p*4294967296*u:=by
  rw [hd,ez,ez]
  simp only [fH,Nat.mul_left_comm,fy]
 rw [e1,ez]
 omega
theorem azo {r s:Nat} {o:List Nat} (c9:o.length=(aq (r*2 ^ s)).length) (hv:2 ^ s*val (o.take (aq (r*2 ^ s)).length)=val ((aq (r*2 ^ s)).take (aq (r*2 ^ s)).length)+4294967296 ^ (aq (r*2 ^ s)).length*((aq (r*2 ^ s)).getD (aq (r*2 ^ s)).length 0 % 2 ^ s)):val o=r:=by
 rw [uR _ _ (bp _),asF,aaf,mf,nn,<-c9,nn,ck,fy r] at hv
 exact Nat.eq_of_mul_eq_mul_left (lY ae) hv
theorem aJd (k:Nat):((ay k 0).map bu).take k=(ay k 0).map bu:=by rw [de aT]
theorem aIB {m:Nat} (k:Nat) (h:0<(aq m).length):aq (m*4294967296 ^ k)=ay k 0++aq m:=by
 have hv:val (ay k 0++aq m)=m*4294967296 ^ k:=by rw [aeh,ajc,ck];simp [fy]
 refine(atC (aqh (vN k) (cS m)) hv (.inr ?_)).symm
 have:=agU h
 simp only [List.length_append,List.length_replicate]
 rw [show k+(aq m).length-1=(aq m).length-1+k by omega,lM]
 exact fP _ this
open al9 in
theorem apC (m s:Nat) (fQ:(aq m).length<=549755813888) (hs:s<32):ax al 270 [bl m,ai s] (bl (m*2 ^ s)):=by
 obtain⟨ke,rS⟩:=agh hs
 refine aS Tryz.func270 ?_
 refine bn ?_
 refine ao rfl (.bin rfl rfl (akV hs)) ?_
 refine fG rfl rfl (.mw (n:=0) (m:=0) ml ml om om om) ?_
 refine iI ?_
 refine kY (az.mv (t:=5) (b:=10) 31 ak ak ak rfl rfl rfl) ?_
 refine lG (fun(o:List Nat) (c:Nat) L=>((((((St.mk L.slot (hp [(31,⟨1,o.map bu,true⟩)])).put (some 0) (bl m)).put (some 1) (ai s)).put (some 5) (.ref 31 1 0 o.length)).put (some 6) (cQ c)).put (some 7) (ai o.length))) (fun o c=>o.length<=(aq m).length/\c<2 ^ s/\bX o/\val o+4294967296 ^ o.length*c=val ((aq m).take o.length)*2 ^ s) (fun o c=>(aq m).length-o.length) ([]) 0 ⟨b8 _,rS,(by intro x hx;cases hx),by simp [val]⟩ ?_
 rintro o c L1 ⟨c9,hc,cd,hv⟩
 have ue:=iQ m o.length
 have vm:=aog ue ke
 refine bE ?_
 refine aF rfl ?_ ?_<;>intro rA lW
 ·refine dG ?_
  refine ao rfl (.bin rfl rfl (axs hs)) ?_
  refine ao rfl (.sh rfl rfl (avx ae (by(try simp only [t1,fW]);omega))) ?_
  refine ao rfl (.bin rfl rfl (orV hc (by(try simp only [t1,fW]);omega))) ?_
  refine bE ?_
  refine bU rfl (.app (news:=[bu (((aq m).getD o.length 0*2 ^ s+c) % 4294967296)]) rfl rfl rfl rfl rfl aT (.inl rfl) ak pG pG abY sa rfl acq (.inl ⟨30,0,_,rfl,by decide,rfl,rfl,by simp,rfl,rfl⟩) bw bw ak) ?_
  refine aL ?_
  refine cy (az.kill _ 30) ?_
  refine bF ?_
  exact iW (o++[((aq m).getD o.length 0*2 ^ s+c) % 4294967296]) (((aq m).getD o.length 0*2 ^ s+c)/4294967296) ⟨by rw [jB];omega,auc ue hc,alj cd ae,by rw [jB];exact aCj hv rfl⟩ (hm:=by rw [jB];omega)
 ·have hoe:o.length=(aq m).length:=by omega
  have hV:=aFH hv hoe (show c<4294967296 by omega)
  refine bD ?_
  refine bU rfl (.app (news:=[bu (c % 4294967296)]) rfl rfl rfl rfl rfl aT (.inr rfl) ak pG pG abY sa rfl acq (.inl ⟨37,0,_,rfl,by decide,rfl,rfl,by simp,rfl,rfl⟩) bw bw ak) ?_
  simp only [aV fZ,mG,mB,jB,List.length_cons,List.length_nil]
  refine sP [38] sR (vy (o++[c % 4294967296]) (alj cd ae) (by rw [jB];omega)) ?_
  refine aA ?_
  rw [<-hV]
  exact dW
namespace axi
theorem aM {p q:Prop} (k:q) (e:p=q:=by simp only [e1,e2,e3,e4,p1,p2,p3,q1,q2,q3,l1,t0,t1,r1,r2,r3,r4,Nat.zero_add,Nat.reduceMul,Nat.reduceAdd,b1,b2,b3,b4,b5,b6,i1,i2,i3,i4,i5,i6,Nat.reduceBEq,fW,List.drop_zero,mL,eyy];exact rfl):p:=e.mpr k
end axi
open axi in
theorem aJh (r s:Nat) (fQ:(aq (r*2 ^ s)).length<=549755813888) (hs:s<32):ax al 273 [bl (r*2 ^ s),ai s] (bl r):=by
 obtain⟨ke,rS⟩:=agh hs
 have aaX:=aqp (l:=aq (r*2 ^ s)) (r:=r) (show s<=32 by omega) (ck _)
 refine aS Tryz.func273 ?_
 have mL:True:=trivial
 have eyy:True:=trivial
 refine bE ?_
 refine ao rfl (.bin rfl rfl (akV hs)) ?_
 refine ba ?_
 refine aF rfl ?_ ?_<;>intro ads h12
 ·have hm:r*2 ^ s=0:=sM.1 (m8 ae)
  have tK:r=0:=by rcases Nat.mul_eq_zero.1 hm with h | h<;>omega
  subst tK
  refine aY ?_
  exact dT rfl (.nil 1)
 ·refine aD ?_
  refine ao rfl (.bin rfl rfl (akV hs)) ?_
  refine ao rfl (.ab8 (a:=0) fZ rfl pG sa rfl om) ?_
  refine aY ?_
  refine fG rfl rfl (.mw (n:=(aq (r*2 ^ s)).length) (m:=(aq (r*2 ^ s)).length) ml ml om om om) ?_
  refine bI ?_
  refine lG (fun(i:Nat) (o:List Nat) L=>(((((St.mk L.slot (hp [(19,⟨1,o.map bu,true⟩)])).put (some 0) (bl (r*2 ^ s))).put (some 1) (ai s)).put (some 5) (.ref 19 1 0 (aq (r*2 ^ s)).length)).put (some 6) (ai i))) (fun i o=>i<=(aq (r*2 ^ s)).length/\o.length=(aq (r*2 ^ s)).length/\bX o/\2 ^ s*val (o.take i)=val ((aq (r*2 ^ s)).take i)+4294967296 ^ i*((aq (r*2 ^ s)).getD i 0 % 2 ^ s)) (fun i o=>(aq (r*2 ^ s)).length-i) 0 (ay (aq (r*2 ^ s)).length 0) ⟨b8 _,by simp,vN _,by rw [aaX];simp [val]⟩ ?_
  rintro i o L1 ⟨hi,c9,cd,hv⟩
  have mL:((i:Int)+1).toNat=i+1:=by omega
  have hxi:=iQ (r*2 ^ s) i
  have hyi:=iQ (r*2 ^ s) (i+1)
  obtain⟨hh1,hh2⟩:=amY (z:=(aq (r*2 ^ s)).getD (i+1) 0) (show s<=32 by omega) hxi
  refine bE ?_
  refine aF rfl ?_ ?_<;>intro td rD
  ·refine aaw ?_
   refine gY (fun L=>∃ (y:Nat) (L1:St),(y=(aq (r*2 ^ s)).getD (i+1) 0*4294967296+(aq (r*2 ^ s)).getD i 0)/\L=((((((St.mk L1.slot (hp [(19,⟨1,o.map bu,true⟩)])).put (some 0) (bl (r*2 ^ s))).put (some 1) (ai s)).put (some 5) (.ref 19 1 0 (aq (r*2 ^ s)).length)).put (some 6) (ai i)).put (some 7) (cQ y))) ?_ ?_
   ·refine aF rfl ?_ ?_<;>intro zE h35
    ·refine bn ?_
     refine ao rfl (.sh rfl rfl (aeG (by(try simp only [t1,fW,mL]);omega))) ?_
     refine ao rfl (.bin rfl rfl (orC (by(try simp only [t1,fW]);omega) (by(try simp only [t1,fW,mL]);omega))) ?_
     refine aL ?_
     exact⟨(aq (r*2 ^ s)).getD (i+1) 0*4294967296+(aq (r*2 ^ s)).getD i 0,_,rfl,((aj (aj (aj (aj (aj (bG cl) cl) cl) cl) cl) cl)).symm⟩
    ·refine aP ?_
     exact⟨(aq (r*2 ^ s)).getD i 0,_,by rw [uR _ (i+1) ae,adN,fw],((aj (aj (aj (aj (aj (bG cl) cl) cl) cl) cl) cl)).symm⟩
   ·rintro _ ⟨y,aKt,hy,rfl⟩
    have eyy:y/2 ^ s % 4294967296=((aq (r*2 ^ s)).getD i 0/2 ^ s+(aq (r*2 ^ s)).getD (i+1) 0 % 2 ^ s*2 ^ (32-s)):=by rw [hy];exact aEs hs hxi
    refine aD ?_
    refine ao rfl (.bin rfl rfl (axs hs)) ?_
    refine ao rfl (.sh rfl rfl (aeu (m:=s) (by show s<=64;omega))) ?_
    refine bF ?_
    exact iW (i+1) (o.set i ((aq (r*2 ^ s)).getD i 0/2 ^ s+(aq (r*2 ^ s)).getD (i+1) 0 % 2 ^ s*2 ^ (32-s))) ⟨ae,by simp [c9],mO cd _ _ ae,aDg ae hs hv⟩
  ·obtain rfl:i=(aq (r*2 ^ s)).length:=by omega
   refine bn ?_
   refine sP [19] sR (vy _ iT tE) ?_
   refine aA ?_
   have hV:=azo c9 hv
   rw [<-hV]
   exact dW
namespace awW
theorem aM {p q:Prop} (k:q) (e:p=q:=by simp only [e1,e2,e3,e4,p1,p2,p3,q1,q2,q3,l1,t0,t1,r1,r2,r3,r4,Nat.zero_add,Nat.reduceMul,Nat.reduceAdd,b1,b2,b3,b4,b5,b6,i1,i2,i3,i4,i5,i6,Nat.reduceBEq,List.take_zero,List.take_nil,List.nil_append,aV fZ,LV.kill,mG,mB,jB,List.length_cons,List.length_nil,aJd,<-List.map_append];exact rfl):p:=e.mpr k
end awW
open awW in
theorem awR (m k:Nat) (fQ:(aq m).length<=1099511627776) (hk:k<=1099511627776):ax al 271 [bl m,ai k] (bl (m*4294967296 ^ k)):=by
 refine aS Tryz.func271 ?_
 refine dG ?_
 refine aF rfl ?_ ?_<;>intro h7r h7
 ·have hm:m=0:=sM.1 (m8 ae)
  subst hm
  refine aY ?_
  rw [adN]
  exact dT rfl (.nil 1)
 ·have hE:=aIB k (show 0<(aq m).length by omega)
  refine ba ?_
  refine fG rfl rfl (.mw (n:=k) (m:=k) ml ml om om om) ?_
  refine av ?_
  refine bU rfl (.app (news:=(aq m).map bu) rfl rfl rfl rfl rfl aT (.inr rfl) ak pG pG abY sa rfl acq (.inr (.inl rfl)) bw bw ak) ?_
  refine aA ?_
  rw [show bl (m*4294967296 ^ k)=.list 1 ((ay k 0++aq m).map bu) by rw [<-hE];rfl]
  exact ow [11] rfl rfl (fC fZ rfl rfl aT)
theorem aBq (l:List Nat) (k:Nat):val l=val (l.take k)+4294967296 ^ k*val (l.drop k):=by
 rcases alq k l.length with h | h
 ·exact tL l k h
 ·rw [de h,jQ h];simp [val]
theorem aqQ (l:List Nat) (k:Nat):val (l.drop k)=l.getD k 0+4294967296*val (l.drop (k+1)):=by
 rcases gM k l.length with h | h
 ·exact pj h
 ·rw [jQ h,jQ ae,uR _ _ h];rfl
theorem afB {a:Nat} (h:1<=a) (h2:a<=9223372036854775807):dL .sub .i64 (a:Nat) 1=some (.int .i64 ((a-1:Nat):Int)):=by
 rw [aau ae ae];congr 2;omega
theorem aEr {n:Nat} (h:0<(aq n).length):(aq n).drop ((aq n).length-1)=aq ((aq n).getD ((aq n).length-1) 0):=by
 have h1:=afp (afh n) h
 have h2:=iQ n ((aq n).length-1)
 rw [adh ae h2]
 rw [List.drop_eq_getElem_cons ae,jQ ae,bz,List.getElem?_eq_getElem ae]
 rfl
theorem az7 {R V n j:Nat} (hn:(aq V).length=n+1) (bM:R<V*4294967296 ^ (j+1)) (hv:0<(aq V).getD n 0) :
  R/4294967296 ^ j/V<=min (((aq R).getD (j+(n+1)) 0*4294967296+(aq R).getD (j+n) 0)/(aq V).getD n 0) 4294967295:=by
 have lh:0<V:=vc (fun h=>by rw [h,wb] at hn;cases hn)
 have hVn:V<4294967296 ^ (n+1):=uK ae
 have hz:=ahN (ul:=aq R) (n:=n+1) (j:=j) hVn (by rw [ck];exact bM)
 have hq2:R/4294967296 ^ j/V<4294967296:=by
  rw [nP lh,nP (uB j),fy 4294967296,fH,<-Nat.pow_succ']
  exact bM
 refine Nat.le_min.2 ⟨?_,ae⟩
 rw [yW hv]
 have hVs:=tL (aq V) n ae
 have hVd:val ((aq V).drop n)=(aq V).getD n 0:=by
  rw [pj ae,jQ ae];simp [val]
 rw [hVd,ck] at hVs
 have hR:R/4294967296 ^ (j+n)=(aq R).getD (j+(n+1)) 0*4294967296+(aq R).getD (j+n) 0:=by
  have e:=aBq (aq R) (j+n)
  rw [ck] at e
  have hl:val ((aq R).take (j+n))<4294967296 ^ (j+n):=tZ (xp (cS R) _) bw
  have hd:val ((aq R).drop (j+n))=(aq R).getD (j+(n+1)) 0*4294967296+(aq R).getD (j+n) 0:=by
   have z:val ((aq R).drop (j+n+2))=0:=agc (fun p=>by rw [afA];exact hz _ ae)
   rw [aqQ,aqQ,z,show j+n+1=j+(n+1) by omega];omega
  rw [<-hd]
  conv=>lhs;rw [e]
  rw [Nat.add_mul_div_left _ _ (uB _),aa7 hl,fw]
 rw [<-hR,lM,<-Nat.div_div_eq_div_mul,yW (uB n),fH]
 refine a9 (jX _ ?_) (aqR (R/4294967296 ^ j) V)
 rw [fy]
 omega
theorem aAE {R V j d:Nat} (hV:0<V) (h:R<V*d*4294967296 ^ j):R/4294967296 ^ j/V<d:=by
 rw [nP hV,nP (uB j),fy d V];exact h
theorem azY {R V j d:Nat} (hV:0<V) (h:V*d*4294967296 ^ j<=R):d<=R/4294967296 ^ j/V:=by
 rw [yW hV,yW (uB j),fy d V];exact h
theorem aEv {R V j d A:Nat} {ql:List Nat} (hV:0<V) (hd:d=R/4294967296 ^ j/V) (hp:V*d*4294967296 ^ j<=R) (hj:j<ql.length) (hv:R+V*4294967296 ^ (j+1)*val (ql.drop (j+1))=A) :
  R-V*d*4294967296 ^ j+V*4294967296 ^ j*val ((ql.set j d).drop j)=A/\R-V*d*4294967296 ^ j<V*4294967296 ^ j:=by
 have:=ars (ul:=aq (R-V*d*4294967296 ^ j)) (ul0:=aq R) (ql:=ql) (x:=d) (j:=j) (U0:=A) hV (by rw [ck];exact hd) (by rw [ck,ck,fy d V,fy (4294967296 ^ j)];omega) hj (by rw [ck];exact hv)
 rw [ck] at this
 exact this
theorem ayD {m n L K s:Nat} (hL:(aq (n*2 ^ s)).length=L) (h0:0<L) (hK:K+L=(aq (m*2 ^ s)).length+1):m*2 ^ s<n*2 ^ s*4294967296 ^ K:=by
 have h1:m*2 ^ s<4294967296 ^ (aq (m*2 ^ s)).length:=uK (bp _)
 have h2:=agU (m:=n*2 ^ s) ae
 refine yw h1 ?_
 rw [show (aq (m*2 ^ s)).length=(L-1)+K by omega,lM,<-hL]
 exact fP _ h2
theorem ay4 {m s k:Nat} (h:(aq m).length<=k) (hs:s<32):(aq (m*2 ^ s)).length<=k+1 :=
 eI h (ua.2 (by have:=agh hs;omega))
theorem axx (k:Nat):(aq (4294967296 ^ k)).length<=k+1:=xw (Nat.pow_lt_pow_right ae ae)
theorem aCO {V j d:Nat} (h:1<=d):V*d*4294967296 ^ j-V*4294967296 ^ j=V*(d-1)*4294967296 ^ j:=by
 obtain⟨e,rfl⟩:∃ e,d=e+1:=⟨d-1,ae⟩
 rw [lP,ez,jF,hY];omega
theorem aDR {V j d:Nat} (h:1<=d):V*4294967296 ^ j<=V*d*4294967296 ^ j:=by
 refine fP _ ?_
 have:=jX V h
 omega
namespace aun
theorem aM {p q:Prop} (k:q) (e:p=q:=by simp only [e1,e2,e3,e4,p1,p2,p3,q1,q2,q3,l1,t0,t1,r1,r2,r3,r4,Nat.zero_add,Nat.reduceMul,Nat.reduceAdd,b1,b2,b3,b4,b5,b6,i1,i2,i3,i4,i5,i6,Nat.reduceBEq,fW,ck,eln,edz,esm,esn,eLn,edm,ek,pb,ou,eL1,ed,zG,edd,es];exact rfl):p:=e.mpr k
end aun
open aun in
theorem anl (m n:Nat) (fQ:(aq m).length<=68719476736) (l7:(aq n).length<=68719476736) (jb:0<n):ax al 230 [bl m,bl n] (.bf [bl (m/n),bl (m % n),iL 0]):=by
 refine aS Tryz.func230 ?_
 have eln:True:=trivial
 have edz:True:=trivial
 have esm:True:=trivial
 have esn:True:=trivial
 have eLn:True:=trivial
 have edm:True:=trivial
 have ek:True:=trivial
 have pb:True:=trivial
 have ou:True:=trivial
 have eL1:True:=trivial
 have ed:True:=trivial
 have edd:True:=trivial
 have es:True:=trivial
 refine iI ?_
 refine aF rfl ?_ ?_<;>intro aaN h21
 ·have sn:=sM.1 (m8 (show (aq n).length=0 by omega))
  omega
 ·refine aY ?_
  refine cp au (acs _ _ ae ae) ?_
  refine aL ?_
  refine aF rfl ?_ ?_<;>intro aiA h25
  ·have bM:m<n:=by unfold jU at h25;split at h25;assumption;split at h25<;>omega
   refine aL ?_
   refine cp aQ (vy _ iT ae) ?_
   refine aY ?_
   rw [aa7 bM,iF bM]
   exact aca [] rfl rfl (.nil 1) rfl (.pure (kf _)) rfl (.pure rfl)
  ·have kj:n<=m:=by
    rcases gM m n with h | h
    ·rw [qP h] at h25;omega
    ·exact h
   have anJ:=oq kj
   refine aD ?_
   refine cp aQ (agT _ ae) ?_
   refine bF ?_
   refine aF rfl ?_ ?_<;>intro ad6 h33
   ·have azU:m<18446744073709551616:=by simpa using ad6
    have esm:(if m<18446744073709551616 then m else 0)=m:=if_pos azU
    have esn:(if n<18446744073709551616 then n else 0)=n:=if_pos ae
    have aJ0:m/n<=m:=vf _ _
    have aJH:=lZ m jb
    refine aL ?_
    refine cp aQ (agT _ ae) ?_
    refine bn ?_
    refine a8 11 an ?_
    refine aP ?_
    refine ao rfl afM ?_
    refine cp aQ (abv _ ae) ?_
    refine aP ?_
    refine ao rfl (.bin rfl rfl (al1 ae)) ?_
    refine cp aQ (abv _ ae) ?_
    refine aY ?_
    exact aed
   ·refine bI ?_
    refine aF rfl ?_ ?_<;>intro acx h49
    ·have nh:=abq (n:=n) ae
     have eLn:=nh.1
     have mZ:=ua.1 (show (aq n).length<=1 by omega)
     have eW:=lZ m jb
     refine aD ?_
     simp only [zG,fW,eLn]
     refine cp au (azk m n ae jb mZ) ?_
     refine bF ?_
     refine cp aQ (abv _ ae) ?_
     refine aY ?_
     exact aed
    ·obtain⟨ln,hL⟩:∃ ln,(aq n).length=ln+1:=⟨(aq n).length-1,ae⟩
     have eL1:(aq n).length-1=ln:=by omega
     have mM:=aEr (n:=n) ae
     rw [eL1] at mM
     have amH:=afp (afh n) (show 0<(aq n).length by omega)
     rw [eL1] at amH
     have htl:=iQ n ln
     have dp:dI ((aq n).getD ln 0)<=32:=vR.2 htl
     have aJQ:(aq ((aq n).getD ln 0)).length<=1:=ua.2 htl
     obtain⟨s,hs⟩:∃ s,s=32-dI ((aq n).getD ln 0):=⟨_,rfl⟩
     have es:(32:Int)-((dI ((aq n).getD ln 0):Nat):Int)=((s:Nat):Int):=by rw [aqs dp,hs]
     obtain⟨tG,jZ,ah1,vJ⟩:=asK (n:=ln) hL hs
     have lh:0<n*2 ^ s:=nt jb (lY ae)
     have uk:0<(aq (n*2 ^ s)).getD ln 0:=by have:=auN jZ ah1;omega
     have hUl:=ay4 fQ tG
     have hUV:(aq (n*2 ^ s)).length<=(aq (m*2 ^ s)).length:=oq (fP _ kj)
     obtain⟨K,hK⟩:∃ K,K+ln=(aq (m*2 ^ s)).length:=⟨(aq (m*2 ^ s)).length-ln,ae⟩
     have dC:=ayD (m:=m) (n:=n) (s:=s) (K:=K) jZ ae ae
     refine aY ?_
     refine ao rfl kL ?_
     refine ao rfl (.ab8 (a:=(aq n).length-1) fZ rfl pG sa rfl om) ?_
     rw [eL1,mM]
     refine cp aQ (aJs _ ae) ?_
     refine bn ?_
     refine cp au (apC _ _ ae tG) ?_
     refine aP ?_
     refine cp au (apC _ _ ae tG) ?_
     refine oV ?_
     refine fG rfl rfl (.mw (n:=K) (m:=K) ml ml om om om) ?_
     refine dH ?_
     refine tV (fun(k R:Nat) (ql:List Nat) L=>(((((((St.mk L.slot (hp [(82,⟨1,ql.map bu,true⟩)])).put (some 1) (bl (n*2 ^ s))).put (some 4) (.ref 82 1 0 K)).put (some 13) (ai s)).put (some 14) (ai (ln+1))).put (some 5) (bl R)).put (some 15) (iL ((k:Int)-1)))) (fun k R ql=>k<=K/\ql.length=K/\bX ql/\R<=m*2 ^ s/\R+(n*2 ^ s)*4294967296 ^ k*val (ql.drop k)=m*2 ^ s/\R<(n*2 ^ s)*4294967296 ^ k) (fun k R ql=>k) K (m*2 ^ s) (ay K 0) ⟨bp _,by simp,vN _,bp _,by rw [jQ aT];simp [val],dC⟩ ?_
     rintro k R ql L1 ⟨hk,jK,mb,hRU,hv,bM⟩
     refine aY ?_
     refine aF rfl ?_ ?_<;>intro aGf vQ
     ·obtain⟨j,rfl⟩:∃ j,k=j+1:=⟨k-1,ae⟩
      have ek:(((j+1:Nat):Int)-1)=(j:Int):=by omega
      have pb:((j:Int)+((ln+1:Nat):Int)).toNat=j+(ln+1):=by omega
      have ou:((j:Int)+((ln+1:Nat):Int)-1).toNat=j+ln:=by omega
      have hRl:=oq hRU
      have eln:(((ln+1:Nat):Int)-1).toNat=ln:=by omega
      have eW:=iQ R (j+(ln+1))
      have py:=iQ R (j+ln)
      have atX:=az7 (R:=R) (n:=ln) (j:=j) jZ bM uk
      have r7:=iQ (n*2 ^ s) ln
      refine oz ?_
      refine gY (fun L=>∃ (hi:Nat) (L1:St),(hi=(aq R).getD (j+(ln+1)) 0)/\L=((((((((St.mk L1.slot (hp [(82,⟨1,ql.map bu,true⟩)])).put (some 1) (bl (n*2 ^ s))).put (some 4) (.ref 82 1 0 K)).put (some 13) (ai s)).put (some 14) (ai (ln+1))).put (some 5) (bl R)).put (some 15) (iL (((j+1:Nat):Int)-1))).put (some 16) (cQ hi))) ?_ ?_
      ·refine aF rfl ?_ ?_<;>intro ajM h96
       ·refine bD ?_
        exact⟨(aq R).getD (j+(ln+1)) 0,_,rfl,((aj (aj (aj (aj (aj (aj (aj (bG cl) cl) cl) cl) cl) cl) cl) cl)).symm⟩
       ·refine aP ?_
        exact⟨0,_,(uR _ _ ae).symm,((aj (aj (aj (aj (aj (aj (aj (bG cl) cl) cl) cl) cl) cl) cl) cl)).symm⟩
      ·rintro _ ⟨hi,aJu,iC,rfl⟩
       refine dG ?_
       refine gY (fun L=>∃ (top:Nat) (L1:St),(top=((aq R).getD (j+(ln+1)) 0*4294967296+(aq R).getD (j+ln) 0))/\L=((((((((St.mk L1.slot (hp [(82,⟨1,ql.map bu,true⟩)])).put (some 1) (bl (n*2 ^ s))).put (some 4) (.ref 82 1 0 K)).put (some 13) (ai s)).put (some 14) (ai (ln+1))).put (some 5) (bl R)).put (some 15) (iL (((j+1:Nat):Int)-1))).put (some 16) (cQ top))) ?_ ?_
       ·refine aF rfl ?_ ?_<;>intro aCa aoL
        ·refine aP ?_
         refine ao rfl (.sh rfl rfl (aeG ae)) ?_
         refine bn ?_
         refine ao rfl (.bin rfl rfl (orU (by simp only [t1,fW,ou];omega) ae)) ?_
         refine aL ?_
         exact⟨hi*4294967296+(aq R).getD (j+ln) 0,_,by rw [iC],((aj (aj (aj (aj (aj (aj (aj (bG cl) cl) cl) cl) cl) cl) cl) cl)).symm⟩
        ·refine aP ?_
         refine ao rfl (.sh rfl rfl (aeG ae)) ?_
         refine aL ?_
         exact⟨hi*4294967296,_,by rw [iC,uR (aq R) (j+ln) ae];exact(mf _).symm,((aj (aj (aj (aj (aj (aj (aj (bG cl) cl) cl) cl) cl) cl) cl) cl)).symm⟩
       ·rintro _ ⟨top,aKh,htp,rfl⟩
        have aKu:top/(aq (n*2 ^ s)).getD ln 0<=top:=vf _ _
        have edm:(if (4294967295:Int)<((top/(aq (n*2 ^ s)).getD ln 0:Nat):Int) then(4294967295:Int) else((top/(aq (n*2 ^ s)).getD ln 0:Nat):Int))=((min (top/(aq (n*2 ^ s)).getD ln 0) 4294967295:Nat):Int):=by split<;>omega
        subst htp
        obtain⟨d0,jD⟩:∃ d0,d0=min (((aq R).getD (j+(ln+1)) 0*4294967296+(aq R).getD (j+ln) 0)/(aq (n*2 ^ s)).getD ln 0) 4294967295:=⟨_,rfl⟩
        rw [<-jD] at atX edm
        have hdz:d0<4294967296:=by rw [jD];exact ug (aoz _ _) ak
        clear jD
        have edz:d0 % 4294967296=d0:=iF hdz
        have hlz:=eI (adG jZ) (ua.2 hdz)
        refine bI ?_
        refine ao rfl (.bin rfl rfl (aiJ (by simp only [t1,fW,eln];omega) ae)) ?_
        refine bE ?_
        refine cp au (aDY _ _ ae ae) ?_
        refine av ?_
        refine cp au (awR _ _ (by rw [edz];omega) ae) ?_
        refine ba ?_
        refine dU (fun(d:Nat) L=>(((((((((St.mk L.slot (hp [(82,⟨1,ql.map bu,true⟩)])).put (some 1) (bl (n*2 ^ s))).put (some 4) (.ref 82 1 0 K)).put (some 13) (ai s)).put (some 14) (ai (ln+1))).put (some 5) (bl R)).put (some 15) (iL (((j+1:Nat):Int)-1))).put (some 17) (cQ d)).put (some 18) (bl ((n*2 ^ s)*d*4294967296 ^ j)))) (fun d=>R/4294967296 ^ j/(n*2 ^ s)<=d/\d<4294967296) (fun d=>d) d0 ⟨atX,hdz⟩ ?_
        rintro d L2 ⟨hdq,hdB⟩
        have lr:=eI (adG jZ) (ua.2 hdB)
        have ot:=eI lr (axx j)
        have nj:=eI (adG jZ) (axx j)
        refine ba ?_
        refine cp au (acs _ _ ae ae) ?_
        refine aL ?_
        refine aF rfl ?_ ?_<;>intro aBe adp
        ·have hgt:R<n*2 ^ s*d*4294967296 ^ j:=by unfold jU at adp;split at adp;omega;split at adp;assumption;omega
         have hdq:=aAE lh hgt
         have jD:1<=d:=ug (b8 _) hdq
         have ala:=aDR (V:=n*2 ^ s) (j:=j) jD
         have edd:=aCO (V:=n*2 ^ s) (j:=j) jD
         refine dH ?_
         refine cp au (awR _ _ ae ae) ?_
         refine cp au (akR _ _ ae ae ala) ?_
         refine aA ?_
         exact iD (d-1) ⟨ae,ae⟩
        ·have gv:n*2 ^ s*d*4294967296 ^ j<=R:=by
          rcases gM R (n*2 ^ s*d*4294967296 ^ j) with h | h
          ·rw [tu h] at adp;omega
          ·exact h
         have hdE:=Nat.le_antisymm (azY lh gv) hdq
         obtain⟨nh,mZ⟩:=aEv lh hdE gv (show j<ql.length by omega) hv
         have ed:d % 4294967296=d:=iF hdB
         refine oV ?_
         refine cp au (akR _ _ ae ae gv) ?_
         refine bI ?_
         exact tD j (R-(n*2 ^ s)*d*4294967296 ^ j) (ql.set j d) ⟨ae,by simp [jK],mO mb _ _ hdB,a9 (agt _ _) hRU,nh,mZ⟩
     ·obtain rfl:k=0:=by omega
      rw [lQ,acg,jF] at hv
      rw [acg,jF] at bM
      have hRl:=oq hRU
      obtain⟨hqf,hRf⟩:=asj (ul:=aq R) (ql:=ql) (A:=m) (s:=s) jb (by rw [ck];exact hv) (by rw [ck];exact bM)
      rw [ck] at hRf
      refine bn ?_
      refine sP [82] sR (vy _ iT ae) ?_
      refine aP ?_
      rw [hRf]
      refine cp au (aJh (m % n) s (by rw [<-hRf];omega) tG) ?_
      refine aD ?_
      rw [<-hqf]
      exact aed
namespace aqn
theorem aM {p q:Prop} (k:q) (e:p=q:=by simp only [e1,e2,e3,e4,p1,p2,p3,q1,q2,q3,l1,t0,t1,r1,r2,r3,r4,Nat.zero_add,Nat.reduceMul,Nat.reduceAdd,b1,b2,b3,b4,b5,b6,i1,i2,i3,i4,i5,i6,Nat.reduceBEq,fW,ck,esm,esn];exact rfl):p:=e.mpr k
end aqn
open aqn in
theorem aFv (m n:Nat) (fQ:(aq m).length<=68719476736) (l7:(aq n).length<=68719476736):ax al 204 [bl m,bl n] (bl (fS m n)):=by
 refine aS Tryz.func204 ?_
 have esm:True:=trivial
 have esn:True:=trivial
 refine bn ?_
 refine cp aQ (vy _ (cS _) ae) ?_
 refine av ?_
 refine cp aQ (vy _ (cS _) ae) ?_
 refine aD ?_
 refine lG (fun(x y:Nat) L=>(((St.mk L.slot (hp [])).put (some 0) (bl x)).put (some 1) (bl y))) (fun x y=>fS x y=fS m n/\(aq x).length<=68719476736/\(aq y).length<=68719476736) (fun x y=>y) m n ⟨rfl,fQ,l7⟩ ?_
 rintro x y L1 ⟨hg,hx,hy⟩
 refine bn ?_
 refine aF rfl ?_ ?_<;>intro uf ur
 ·have jO:0<y:=vc (fun h=>by rw [h,wb] at ur;simp at ur)
  refine aD ?_
  refine cp aQ (agT _ ae) ?_
  refine bI ?_
  refine cp aQ (agT _ ae) ?_
  refine bE ?_
  refine gY (fun L=>∃ (t:Bool) (L1:St),(t=decide (x<18446744073709551616/\y<18446744073709551616))/\L=((((((St.mk L1.slot (hp [])).put (some 0) (bl x)).put (some 1) (bl y)).put (some 5) (cQ (if x<18446744073709551616 then x else 0))).put (some 7) (cQ (if y<18446744073709551616 then y else 0))).put (some 32) (bL t))) ?_ ?_
  ·refine aL ?_
   refine dg 30 rfl ?_ ?_<;>intro adP h30
   ·refine aA ?_
    exact⟨decide (y<18446744073709551616),_,by rw [decide_eq_decide];omega,((aj (aj (aj (aj (aj (bG cl) cl) cl) cl) cl) cl)).symm⟩
   ·refine aA ?_
    exact⟨false,_,by symm;rw [decide_eq_false_iff_not];omega,((aj (aj (aj (aj (aj (bG cl) cl) cl) cl) cl) cl)).symm⟩
  ·rintro _ ⟨t,LR5,ht,rfl⟩
   refine av ?_
   refine aF rfl ?_ ?_<;>intro aep h32
   ·rw [ht,decide_eq_true_iff] at aep
    obtain⟨axn,aq0⟩:=aep
    have esm:(if x<18446744073709551616 then x else 0)=x:=if_pos axn
    have esn:(if y<18446744073709551616 then y else 0)=y:=if_pos aq0
    refine aP ?_
    refine lG (fun(p q:Nat) L=>(((St.mk L.slot (hp [])).put (some 5) (cQ p)).put (some 7) (cQ q))) (fun p q=>fS p q=fS m n/\p<18446744073709551616/\q<18446744073709551616) (fun p q=>q) x y ⟨hg,axn,aq0⟩ ?_
    rintro p q L2 ⟨zc,hm,hn⟩
    refine aY ?_
    refine aF rfl ?_ ?_<;>intro aif h34
    ·refine aL ?_
     refine a8 6 an ?_
     refine bE ?_
     exact iW q (p % q) ⟨by rw [qL,<-ad3,qL];exact zc,hn,by have:=lZ p (show q > 0 by omega);omega⟩ (hm:=lZ _ ae)
    ·obtain rfl:q=0:=by omega
     refine bn ?_
     refine cp aQ (abv _ ae) ?_
     refine bE ?_
     rw [<-zc,aeO]
     exact dW
   ·refine aD ?_
    refine cp au (anl _ _ ae ae (by first | assumption | omega)) ?_
    refine jw ?_
    exact iW y (x % y) ⟨by rw [qL,<-ad3,qL];exact hg,hy,a9 (oq (x9 (lZ x jO))) hy⟩ (hm:=lZ _ jO)
 ·have jO:y=0:=sM.1 (m8 ae)
  refine bF ?_
  subst jO
  rw [<-hg,aeO]
  exact dW
section
variable {q a b:Rat}
theorem azX:(-q<0)↔0<q:=by grind
theorem amK {n:Nat}:0<(aq n).length↔0<n:=by
 constructor
 ·intro h;exact vc (fun e=>by rw [e,wb] at h;cases h)
 ·intro h;exact List.length_pos_iff.2 (fun e=>by have:=sM.1 e;omega)
theorem aBB:0<q↔0<q.num:=by rw [att];simp
theorem ahA (h:(!decide (q<0))=true):decide (((aq q.num.natAbs).length:Int) > 0)=decide (-q<0):=by
 rw [decide_eq_decide,azX,aBB]
 have h1:¬ q<0:=by simpa using h
 rw [agy] at h1
 have:=amK (n:=q.num.natAbs)
 omega
theorem aik (h:(!decide (q<0))=false):false=decide (-q<0):=by
 have h1:q<0:=by simpa using h
 symm;rw [decide_eq_false_iff_not];grind
theorem aIj (s:Bool) (h:s=decide (-q<0)):ah (-q)=.agg [.v (.bool s),bl q.num.natAbs,bl (jH q)]:=by
 rw [vW,h,wT,wT,anp,aj4,akf]
theorem aiH:a=b↔decide (a<0)=decide (b<0)/\a.num.natAbs=b.num.natAbs/\jH a=jH b:=by
 constructor
 ·rintro rfl;exact⟨rfl,rfl,rfl⟩
 ·rintro⟨h1,h2,h3⟩
  have hd:a.den=b.den:=amm (by rw [h3])
  rw [<-mK a,<-mK b,h1,h2,hd]
theorem asb {m n:Nat}:(jU m n==0)=decide (m=n):=by
 rw [ad8,beq_iff_eq,decide_eq_true_iff];unfold jU;split
 ·omega
 ·split<;>omega
theorem awD (h:(decide (a<0)==decide (b<0))=false):false=decide (a=b):=by
 symm;rw [decide_eq_false_iff_not,aiH];intro h2;rw [h2.1] at h;simp at h
theorem aGW (h2:(jU a.num.natAbs b.num.natAbs==0)=false):false=decide (a=b):=by
 rw [asb] at h2
 symm;rw [decide_eq_false_iff_not,aiH];intro h3;rw [decide_eq_false_iff_not] at h2;exact h2 h3.2.1
theorem aJn (h:(decide (a<0)==decide (b<0))=true) (h2:(jU a.num.natAbs b.num.natAbs==0)=true):(jU (jH a) (jH b)==0)=decide (a=b):=by
 rw [asb] at h2 ⊢
 rw [decide_eq_decide,aiH]
 exact⟨fun h3=>⟨eq_of_beq h,of_decide_eq_true h2,h3⟩,fun h3=>h3.2.2⟩
end
end Go.Proofs.YtckppbhafancnaaGreat
namespace Go.Lg
open Go.Proofs.YtckppbhafancnaaGreat in
theorem gO.aiP {P:Program} {L:St} {dst:Option Nat} {T:TypeId} {p x:Operand} {b:Nat} {q:Rat} {s:Bool} (hp:L.ev p=.aB b 3 0 0) (hb:L.heap b=some ⟨3,[ah q],true⟩) (hx:L.ev x=.v (.bool s)) (hT:bC P T 1 false)
  (hs:s=decide (-q<0)):gO P L dst (.store T p x) ((L.bO b (some ⟨3,[ah (-q)],true⟩)).put dst .any):=by
 have h0:LV.put (ah q) 0 (L.ev x)=some (ah (-q)):=by
  rw [hx,aIj s hs,vW q]
  have e1:∀ n,(bl n).aw=1:=fun _=>rfl
  simp [LV.put,yO,cU,LV.aw,LV.isAgg]
 exact gO.store (P:=P) (dst:=dst) (T:=T) (p:=p) (x:=x) (y:=ah q) (y':=ah (-q)) hp hb rfl rfl rfl (ar.aw _) h0 (by rw [hx];exact hT) (by rw [hx];exact⟨(fun h=>by cases h),(fun _ h=>by cases h)⟩)
end Go.Lg
namespace Go.Proofs.YtckppbhafancnaaGreat
open Go.Lg
theorem aFM {n:Int} (h1:-9223372036854775808<=n) (h2:n<0):IntKind.i64.wrap (0-(n+1))=(((-(n+1)).toNat:Nat):Int):=by
 rw [IntWalk.i64_in _ ae];omega
open H0 in
theorem y5 (q:Rat):ax al 137 [ah q] (bl q.den):=by
 refine aS Tryz.func137 ?_
 refine iI ?_
 refine aF rfl ?_ ?_<;>intro xr h6
 ·have jS:=an3 (show (aq (jH q)).length=0 by omega)
  refine bn ?_
  rw [jS,show bl 1=.list 1 ([1].map bu) from rfl]
  exact ow [7] rfl rfl (fC fZ rfl rfl rfl)
 ·have jS:=ajt (q:=q) ae
  refine bI ?_
  rw [<-jS]
  exact dW
namespace as5
theorem aM {p q:Prop} (k:q) (e:p=q:=by simp only [e1,e2,e3,e4,p1,p2,p3,q1,q2,q3,l1,t0,t1,r1,r2,r3,r4,Nat.zero_add,Nat.reduceMul,Nat.reduceAdd,b1,b2,b3,b4,b5,b6,i1,i2,i3,i4,i5,i6,Nat.reduceBEq,fW,ck,zG];exact rfl):p:=e.mpr k
end as5
open as5 in
theorem adx (s:Bool) (m n:Nat) (fQ:(aq m).length<=68719476736) (l7:(aq n).length<=68719476736) (jb:0<n):ax al 138 [bL s,bl m,bl n] (ah (qv s m n)):=by
 refine aS Tryz.func138 ?_
 refine bn ?_
 refine cp aQ (vy _ (cS _) ae) ?_
 refine av ?_
 refine cp aQ (vy _ (cS _) ae) ?_
 refine bF ?_
 refine aF rfl ?_ ?_<;>intro rA lW
 ·have hm:m=0:=sM.1 (m8 ae)
  refine bn ?_
  rw [hm,afP,qi]
  exact ada
 ·have ic:0<m:=amK.1 ae
  have hg:0<fS m n:=amq _ ic
  have hE:=aeB s ic jb
  have hgl:(aq (fS m n)).length<=68719476736:=a9 (oq (acJ ic (aa1 _ _))) fQ
  have hqa:(aq (m/fS m n)).length<=68719476736:=a9 (oq (vf _ _)) fQ
  have hqb:(aq (n/fS m n)).length<=68719476736:=a9 (oq (vf _ _)) l7
  have aBL:=abq (n:=fS m n)
  refine aD ?_
  refine cp au (aFv _ _ ae ae) ?_
  refine ba ?_
  refine gY (fun L=>∃ (t:Bool) (L1:St),(t=decide (fS m n≠1))/\L=(((((((St.mk L1.slot (hp [(6,⟨3,[.agg [.v (.bool false),.list 1 [],.list 1 []]],true⟩)])).put (some 0) (bL s)).put (some 1) (bl m)).put (some 2) (bl n)).put (some 6) (.aB 6 3 0 0)).put (some 7) (bl (fS m n))).put (some 27) (bL t))) ?_ ?_
  ·refine ba ?_
   refine dg 22 rfl ?_ ?_<;>intro aeq h22
   ·refine aY ?_
    exact⟨true,_,by symm;rw [decide_eq_true_iff];intro e;rw [e,aiQ] at h22;exact h22 rfl,((aj (aj (aj (aj (aj (aj (bG cl) cl) cl) cl) cl) cl) cl)).symm⟩
   ·refine aY ?_
    exact⟨(((aq (fS m n)).getD 0 0:Int) != 1),_,by have:=(aBL ae).1;rw [ad8,bne_iff_ne,decide_eq_true_iff];omega,((aj (aj (aj (aj (aj (aj (bG cl) cl) cl) cl) cl) cl) cl)).symm⟩
  ·rintro _ ⟨t,LR5,ht,rfl⟩
   refine av ?_
   refine gY (fun L=>∃ (x:Nat) (y:Nat) (L1:St),(x=m/fS m n/\y=n/fS m n)/\L=(((((St.mk L1.slot (hp [(6,⟨3,[.agg [.v (.bool false),.list 1 [],.list 1 []]],true⟩)])).put (some 0) (bL s)).put (some 1) (bl x)).put (some 2) (bl y)).put (some 6) (.aB 6 3 0 0))) ?_ ?_
   ·refine aF rfl ?_ ?_<;>intro yZ h27
    ·refine aA ?_
     refine cp au (anl _ _ ae ae hg) ?_
     refine bI ?_
     refine cp au (anl _ _ ae ae hg) ?_
     refine aY ?_
     exact⟨m/fS m n,n/fS m n,_,⟨rfl,rfl⟩,((aj (aj (aj (aj (bG cl) cl) cl) cl) cl)).symm⟩
    ·have nN:fS m n=1:=by rw [ht,decide_eq_false_iff_not] at yZ;omega
     refine aP ?_
     exact⟨m,n,_,⟨by rw [nN,aeW],by rw [nN,aeW]⟩,((aj (aj (aj (aj (bG cl) cl) cl) cl) cl)).symm⟩
   ·rintro _ ⟨x,y,aBV,⟨hx,hy⟩,rfl⟩
    rw [<-hx,<-hy] at hE
    have jO:0<y:=by rw [hy];exact ahu (acJ jb (alH _ _)) hg
    refine bn ?_
    refine dg 45 rfl ?_ ?_<;>intro aKJ h45
    ·refine aY ?_
     refine aF rfl ?_ ?_<;>intro aJP h50
     ·have kD:y=1:=by have:=(abq (n:=y) ae).1;omega
      refine dH ?_
      rw [hE,if_pos kD]
      exact ij [] rfl rfl rfl rfl rfl cZ (.agg (.cons (.pure rfl) (.cons (.pure (kf _)) (.cons (.nil 1) .nil))))
     ·have kD:y≠1:=by have:=(abq (n:=y) ae).1;omega
      refine bF ?_
      rw [hE,if_neg kD]
      exact aeK
    ·have kD:y≠1:=fun e=>by rw [e,aiQ] at h45;exact h45 rfl
     refine oz ?_
     rw [hE,if_neg kD]
     exact aeK
open H0 in
theorem ajA (n:Int) (h1:-9223372036854775808<=n) (h2:n<=9223372036854775807):ax al 36 [iL n] (.bf [bl n.natAbs,bL (decide (n<0))]):=by
 refine aS Tryz.func36 ?_
 refine dG ?_
 refine aF rfl ?_ ?_<;>intro h5r h5
 ·refine aA ?_
  refine ao rfl (.neg rfl) ?_
  refine ao rfl (.aiY (n:=(-(n+1)).toNat) aia aji (by simp only [e1,p1,p2,vZ];rw [aFM h1 h5]) ae) ?_
  refine ao rfl (.bin rfl rfl (asi (show (-(n+1)).toNat+1<18446744073709551616 by omega))) ?_
  refine cp aQ (abv ((-(n+1)).toNat+1) ae) ?_
  refine aD ?_
  rw [decide_eq_true h5,show n.natAbs=(-(n+1)).toNat+1 by omega]
  exact wL rfl (.pure (kf _)) rfl (.pure rfl)
 ·refine ba ?_
  refine ao rfl (.aiY (n:=n.natAbs) aia aji (by simp only [e1,p1,p2,vZ];rw [show ((n.natAbs:Nat):Int)=n by omega];rfl) ae) ?_
  refine cp aQ (abv n.natAbs ae) ?_
  refine ba ?_
  rw [decide_eq_false h5]
  exact wL rfl (.pure (kf _)) rfl (.pure rfl)
open H0 in
theorem aEF (n d:Int) (h1:-9223372036854775808<=n) (h2:n<=9223372036854775807) (h3:-9223372036854775808<=d) (h4:d<=9223372036854775807) (hd:d≠0):ax al 78 [iL n,iL d] (.bf [ah ((n:Rat)/(d:Rat)),iL 0]):=by
 refine aS Tryz.func78 ?_
 refine dG ?_
 refine aF rfl ?_ ?_<;>intro ajl h11
 ·exact absurd h11 hd
 ·refine ba ?_
  refine cp aQ (ajA _ ae ae) ?_
  refine bI ?_
  refine cp aQ (ajA _ ae ae) ?_
  refine dH ?_
  refine cp gV (adx (decide (n<0) != decide (d<0)) n.natAbs d.natAbs (a9 (aai.2 ae) ae) (a9 (aai.2 ae) ae) ae) ?_
  refine ba ?_
  rw [<-ae7]
  exact afb
open H0 in
theorem acw (n d:Int) (h1:-9223372036854775808<=n) (h2:n<=9223372036854775807) (h3:-9223372036854775808<=d) (h4:d<=9223372036854775807) (hd:d≠0):ax al 35 [iL n,iL d] (ah ((n:Rat)/(d:Rat))):=by
 refine aS Tryz.func35 ?_
 refine bE ?_
 refine cp au (aEF _ _ ae ae ae ae ae) ?_
 refine iI ?_
 exact gr
open H0 in
theorem rF (n:Int) (h1:-9223372036854775808<=n) (h2:n<=9223372036854775807):ax al 13 [iL n] (ah (n:Rat)):=by
 refine aS Tryz.func13 ?_
 refine bn ?_
 refine cp aQ (ajA _ ae ae) ?_
 refine nZ ?_
 rw [<-aeo n]
 have hz:n.natAbs=0\/0<n.natAbs:=by omega
 rcases hz with hz | hz
 ·obtain rfl:n=0:=by omega
  rw [show qv (decide ((0:Int)<0)) (0:Int).natAbs 1=0 from afP _ _,qi]
  exact ada
 ·rw [aeB _ hz ae,Nat.gcd_one_right,aeW,if_pos ae]
  exact ij [] rfl rfl rfl rfl rfl cZ (.agg (.cons (.pure rfl) (.cons (.pure (kf _)) (.cons (.pure rfl) .nil))))
open H0 in
theorem tz (a b:Rat) (h:rl a+rl b<=1099511627776):ax al 21 [ah a,ah b] (bL (decide (a=b))):=by
 have a1:=mr a
 have a3:=nB a
 have c1:=mr b
 have c3:=nB b
 refine aS Tryz.func21 ?_
 refine iI ?_
 refine dg 10 rfl ?_ ?_<;>intro nE qN
 ·refine aA ?_
  refine cp au (acs _ _ ae ae) ?_
  refine aL ?_
  refine dg 18 rfl ?_ ?_<;>intro uf ur
  ·refine aA ?_
   refine cp au (acs _ _ ae ae) ?_
   refine aD ?_
   rw [<-aJn nE uf]
   exact dW
  ·refine bD ?_
   rw [<-aGW uf]
   exact dW
 ·refine o4 ?_
  rw [<-awD nE]
  exact dW
open H0 in
theorem arC (q:Rat):ax al 70 [ah q] (iL (cT q)):=by
 have hq:=axf q
 refine aS Tryz.func70 ?_
 refine iI ?_
 refine aF rfl ?_ ?_<;>intro xr h6
 ·have hz:q.num.natAbs=0:=sM.1 (m8 ae)
  refine aY ?_
  rw [hq,if_pos hz]
  exact dW
 ·have hz:q.num.natAbs≠0:=fun e=>by rw [e,wb] at h6;exact h6 rfl
  refine bE ?_
  refine aF rfl ?_ ?_<;>intro pa h8
  ·refine aY ?_
   rw [hq,if_neg hz,if_pos h8]
   exact dW
  ·refine bn ?_
   rw [hq,if_neg hz,if_neg h8]
   exact dW
open H0 in
theorem aAU (q:Rat):ax al 129 [ah q] (ah (-q)):=by
 refine aS Tryz.func129 ?_
 refine bF ?_
 refine dg 6 rfl ?_ ?_<;>intro xr h6
 ·refine aD ?_
  refine bU rfl (.aiP rfl rfl rfl T4 (by first | exact ahA xr | exact aik xr)) ?_
  refine bE ?_
  exact gr
 ·refine aD ?_
  refine bU rfl (.aiP rfl rfl rfl T4 (by first | exact ahA xr | exact aik xr)) ?_
  refine bE ?_
  exact gr
open H0 in
theorem uD (a b:Rat) (h:rl a+rl b<=34359738368):ax al 60 [ah a,ah b] (ah (a*b)):=by
 have a1:=mr a
 have a2:=oc a
 have a3:=nB a
 have c1:=mr b
 have c2:=oc b
 have c3:=nB b
 have a0:=a.den_pos
 have c0:=b.den_pos
 have m1:=eI a1 c2
 have m2:=eI c1 a2
 have m3:=eI a2 c2
 have m4:=eI a1 c1
 have m5:=eI a2 c1
 have m6:=eI c2 a2
 have np:=nt a0 c0
 have hE:=aju (decide (a<0)) (decide (b<0)) a.num.natAbs a.den b.num.natAbs b.den
 rw [mK,mK] at hE
 refine aS Tryz.func60 ?_
 refine bn ?_
 refine a8 16 an ?_
 refine bE ?_
 refine cp au (yE _ _ ae ae) ?_
 refine av ?_
 refine cp aQ (y5 _) ?_
 refine av ?_
 refine cp aQ (y5 _) ?_
 refine cp au (yE _ _ ae ae) ?_
 refine cp gV (adx _ _ _ ae ae np) ?_
 refine aA ?_
 rw [hE]
 exact gr
open H0 in
theorem awM (a b:Rat) (h:rl a+rl b<=34359738368):ax al 226 [ah a,ah b] (.bf [ah (a/b),iL (if b=0 then 3 else 0)]):=by
 have a1:=mr a
 have a2:=oc a
 have a3:=nB a
 have c1:=mr b
 have c2:=oc b
 have c3:=nB b
 have a0:=a.den_pos
 have c0:=b.den_pos
 have m1:=eI a1 c2
 have m2:=eI c1 a2
 have m3:=eI a2 c2
 have m4:=eI a1 c1
 have m5:=eI a2 c1
 have m6:=eI c2 a2
 have np:=nt a0 c0
 have hE:=aht (decide (a<0)) (decide (b<0)) a.num.natAbs a.den b.num.natAbs b.den
 rw [mK,mK] at hE
 refine aS Tryz.func226 ?_
 refine jw ?_
 refine aF rfl ?_ ?_<;>intro wi h9
 ·have hz:=aaq (q:=b) ae
  refine bE ?_
  subst hz
  rw [show a/0=0 by rw [jo];simp,qi]
  exact vA [] rfl rfl rfl rfl rfl cZ (.pure rfl) rfl (.pure rfl)
 ·have gf:0<b.num.natAbs:=amK.1 ae
  have hz:b≠0:=by rintro rfl;exact absurd gf ak
  refine aL ?_
  refine a8 16 an ?_
  refine bn ?_
  refine cp aQ (y5 _) ?_
  refine cp au (yE _ _ ae ae) ?_
  refine av ?_
  refine cp aQ (y5 _) ?_
  refine aP ?_
  refine cp au (yE _ _ ae ae) ?_
  refine cp gV (adx _ _ _ ae ae (nt a0 gf)) ?_
  refine ba ?_
  rw [hE,if_neg hz]
  exact afb
open H0 in
theorem ayx (a b:Rat) (h:rl a+rl b<=34359738368):ax al 128 [ah a,ah b] (ah (a/b)):=by
 refine aS Tryz.func128 ?_
 refine bD ?_
 refine cp au (awM _ _ ae) ?_
 refine iI ?_
 exact gr
namespace ar9
theorem aM {p q:Prop} (k:q) (e:p=q:=by simp only [e1,e2,e3,e4,p1,p2,p3,q1,q2,q3,l1,t0,t1,r1,r2,r3,r4,Nat.zero_add,Nat.reduceMul,Nat.reduceAdd,b1,b2,b3,b4,b5,b6,i1,i2,i3,i4,i5,i6,Nat.reduceBEq,ck,eSb];exact rfl):p:=e.mpr k
end ar9
open ar9 in
theorem pT (a b:Rat) (h:rl a+rl b<=34359738368):ax al 59 [ah a,ah b] (ah (a+b)):=by
 have a1:=mr a
 have a2:=oc a
 have a3:=nB a
 have c1:=mr b
 have c2:=oc b
 have c3:=nB b
 have a0:=a.den_pos
 have c0:=b.den_pos
 have m1:=eI a1 c2
 have m2:=eI c1 a2
 have m3:=eI a2 c2
 have m4:=eI a1 c1
 have m5:=eI a2 c1
 have m6:=eI c2 a2
 have np:=nt a0 c0
 have m7:(aq (a.num.natAbs*b.den+b.num.natAbs*a.den)).length<=rl a+rl b+1:=anD m1 ae
 have ls1:(aq (a.num.natAbs*b.den-b.num.natAbs*a.den)).length<=rl a+rl b:=a9 (oq (agt _ _)) m1
 have ls2:(aq (b.num.natAbs*a.den-a.num.natAbs*b.den)).length<=rl b+rl a:=a9 (oq (agt _ _)) m2
 refine aS Tryz.func59 ?_
 have eSb:True:=trivial
 refine nZ ?_
 refine aF rfl ?_ ?_<;>intro pR mT
 ·have hz:=aaq (q:=a) ae
  refine bn ?_
  rw [hz,Rat.zero_add]
  exact gr
 ·refine bD ?_
  refine aF rfl ?_ ?_<;>intro aay h20
  ·have hz:=aaq (q:=b) ae
   refine bn ?_
   rw [hz,Rat.add_zero]
   exact gr
  ·refine aL ?_
   refine a8 12 an ?_
   refine aL ?_
   refine cp aQ (y5 _) ?_
   refine cp au (yE _ _ ae ae) ?_
   refine aL ?_
   refine cp aQ (y5 _) ?_
   refine cp au (yE _ _ ae ae) ?_
   refine ba ?_
   refine a8 6 an ?_
   refine av ?_
   refine cp aQ (y5 _) ?_
   refine av ?_
   refine cp aQ (y5 _) ?_
   refine cp au (yE _ _ ae ae) ?_
   refine dG ?_
   refine aF rfl ?_ ?_<;>intro adw h41
   ·refine av ?_
    refine a8 7 an ?_
    refine aA ?_
    refine cp au (aAT _ _ ae ae) ?_
    refine av ?_
    refine cp gV (adx _ _ _ ae ae np) ?_
    refine ba ?_
    have E:=add_same (k:=1) (x:=a.num.natAbs*b.den) (y:=b.num.natAbs*a.den) (d:=a.den*b.den) ae (jF _) (jF _) (jF _) (eq_of_beq adw)
    rw [aiN,<-eq_of_beq adw] at E
    rw [E]
    exact gr
   ·refine aY ?_
    refine cp au (acs _ _ ae ae) ?_
    refine aL ?_
    refine aF rfl ?_ ?_<;>intro aJ7 h52
    ·have bM:a.num.natAbs*b.den<b.num.natAbs*a.den:=by unfold jU at h52;split at h52;assumption;split at h52<;>omega
     have eSb:=ags (x9 bM)
     refine aA ?_
     refine cp au (aqo _ _ ae ae) ?_
     refine dG ?_
     refine cp gV (adx _ _ _ ae ae np) ?_
     refine ba ?_
     have E:=alW (k:=1) (x:=a.num.natAbs*b.den) (y:=b.num.natAbs*a.den) (d:=a.den*b.den) ae (jF _) (jF _) (jF _) (acV adw) (x9 bM)
     rw [aiN] at E
     rw [E]
     exact gr
    ·have hle:b.num.natAbs*a.den<=a.num.natAbs*b.den:=by
      rcases gM (a.num.natAbs*b.den) (b.num.natAbs*a.den) with h | h
      ·rw [qP h] at h52;omega
      ·exact h
     have eSb:=ags hle
     refine aD ?_
     refine cp au (aqo _ _ ae ae) ?_
     refine dG ?_
     refine cp gV (adx _ _ _ ae ae np) ?_
     refine aA ?_
     have E:=alY (k:=1) (x:=a.num.natAbs*b.den) (y:=b.num.natAbs*a.den) (d:=a.den*b.den) ae (jF _) (jF _) (jF _) (acV adw) hle
     rw [aiN] at E
     rw [E]
     exact gr
open H0 in
theorem aaU (a b:Rat) (h:rl a+rl b<=34359738368):ax al 62 [ah a,ah b] (ah (a-b)):=by
 refine aS Tryz.func62 ?_
 refine bn ?_
 refine a8 4 an ?_
 refine aP ?_
 refine cp aQ (aAU _) ?_
 refine cp au (pT _ _ (by rw [aiG];omega)) ?_
 refine aA ?_
 rw [afK]
 exact gr
open H0 in
theorem aem (a b:Rat) (h:rl a+rl b<=34359738368):ax al 58 [ah a,ah b] (iL (gj a b)):=by
 have a1:=mr a
 have a2:=oc a
 have a3:=nB a
 have c1:=mr b
 have c2:=oc b
 have c3:=nB b
 have a0:=a.den_pos
 have c0:=b.den_pos
 have m1:=eI a1 c2
 have m2:=eI c1 a2
 have m3:=eI a2 c2
 have m4:=eI a1 c1
 have m5:=eI a2 c1
 have m6:=eI c2 a2
 have np:=nt a0 c0
 refine aS Tryz.func58 ?_
 refine bE ?_
 refine a8 6 an ?_
 refine av ?_
 refine cp aQ (arC _) ?_
 refine av ?_
 refine cp aQ (arC _) ?_
 refine bD ?_
 refine aF rfl ?_ ?_<;>intro rA lW
 ·refine bn ?_
  refine aF rfl ?_ ?_<;>intro abD wS
  ·refine bn ?_
   rw [aoY wS]
   exact dW
  ·refine bE ?_
   rw [avg ae]
   exact dW
 ·have oa:cT a=cT b:=by omega
  obtain⟨c,hc⟩:∃ c,c=jU (a.num.natAbs*b.den) (b.num.natAbs*a.den):=⟨_,rfl⟩
  refine aL ?_
  refine a8 12 an ?_
  refine aL ?_
  refine cp aQ (y5 _) ?_
  refine cp au (yE _ _ ae ae) ?_
  refine aL ?_
  refine cp aQ (y5 _) ?_
  refine cp au (yE _ _ ae ae) ?_
  refine cp au (acs _ _ ae ae) ?_
  refine bI ?_
  refine aF rfl ?_ ?_<;>intro adP h30
  ·refine bE ?_
   rw [aiE oa,if_pos h30,<-axC rfl]
   exact dW
  ·refine bE ?_
   rw [aiE oa,if_neg h30]
   exact dW
end Go.Proofs.YtckppbhafancnaaGreat
end
