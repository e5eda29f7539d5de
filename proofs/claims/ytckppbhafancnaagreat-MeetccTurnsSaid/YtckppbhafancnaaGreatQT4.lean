/- Texts LgTy, LgF, N1, N2, N3, N4, N5, N6, N7, N8, N9, N10, N11, R1, R2, R3, R4, R5 of this proof, joined. -/
import Derived.Test.YtckppbhafancnaaGreatQT3
import Derived.Test.YtckppbhafancnaaGreatChecked
set_option linter.unusedVariables false
set_option linter.unusedSimpArgs false
open Bool renaming eq_iff_iff->aep,false_eq_true->adL
open Classical renaming byContradiction->pY
open Go.Proofs.Tryz renaming f236->afE,func149->ave,func249->axi,prog->an,t147->atM,t159->asa,t202->axs,t28->ayN,t31->axw,t40->av2,t42->ayp,t51->axp,t54->auq,underlying116->asY,underlying134->ajE,underlying137->zQ,underlying139->awF,underlying147->avl,underlying155->sD,underlying156->avb,underlying159->aqW,underlying165->wK,underlying169->ae5,underlying181->aw9,underlying2->aiw,underlying202->avT,underlying212->auL,underlying22->aws,underlying230->asp,underlying25->dI,underlying26->wB,underlying28->avg,underlying29->qx,underlying3->arV,underlying31->apt,underlying35->avk,underlying4->are,underlying40->asC,underlying42->ayQ,underlying43->lI,underlying49->rf,underlying5->aoy,underlying51->aoO,underlying54->avB,underlying66->at4,underlying68->ayP,underlying92->axu,underlying97->avS
open Int renaming natAbs_neg->akq
open List renaming drop_length->aeo,drop_of_length_le->kg,drop_zero->mn,eq_nil_of_length_eq_zero->nM,getD_eq_getElem?_getD->bp,replicate->ay,take_length->nT,take_of_length_le->dg
open Nat renaming add_comm->qB,add_mul->iA,add_sub_cancel->mi,add_zero->mS,div_add_mod->ac1,div_eq_of_lt->abn,div_le_self->vF,div_lt_iff_lt_mul->ot,div_mul_le_self->arh,div_one->afh,div_pos->ahM,gcd->fX,gcd_comm->rD,gcd_dvd_left->abg,gcd_dvd_right->al0,gcd_pos_of_pos_left->amN,gcd_rec->aek,gcd_zero_right->afa,le_div_iff_mul_le->zq,le_of_dvd->acW,le_of_eq->adY,le_of_lt->yB,le_refl->bq,le_total->alK,le_trans->ba,lt_of_le_of_lt->uP,lt_of_lt_of_le->yU,lt_or_eq_of_le->atr,lt_or_ge->gC,min_le_right->aoU,mod_eq_of_lt->iW,mod_lt->mA,mul_add->eJ,mul_assoc->fM,mul_comm->fA,mul_le_mul_left->kv,mul_le_mul_right->fU,mul_one->jR,mul_pos->mG,mul_zero->aap,pos_of_ne_zero->vD,pow_add->mg,pow_le_pow_right->mh,pow_pos->my,pow_succ->jt,pow_zero->acv,reduceAdd->afi,reduceBEq->wF,reduceMul->aoR,sub_le->agK,sub_mul->axj,succ_mul->v9,zero_add->fF,zero_le->b8,zero_mod->as9,zero_mul->ad6
open Option.some renaming injEq->fB
open Rat renaming div_def->iV,lt_iff->atX,neg_den->aky,neg_num->anO,num_eq_zero->ayI,sub_eq_add_neg->af3
section
set_option linter.unusedVariables false
set_option linter.unusedSimpArgs false
set_option maxHeartbeats 8000000
set_option maxRecDepth 100000
namespace Go.Proofs.YtckppbhafancnaaGreat
open Go.Lg
theorem fol:an.follows .mixedOrders=true:=by kernel_rfl
theorem T2:bE an 2 1 false:=⟨by kernel_rfl,_,aiw,rfl⟩
theorem B2:mT an 2 8:=⟨Tryz.t2,by kernel_rfl,rfl⟩
theorem Z2:dp an 2 (.v (.int .i64 0)):=⟨Tryz.t2,_,by kernel_rfl,rfl,rfl,fun _ _ _=>gG rfl⟩
instance:TI an 2 1 false:=⟨T2⟩
theorem T3:bE an 3 1 false:=⟨by kernel_rfl,_,arV,rfl⟩
theorem B3:mT an 3 8:=⟨Tryz.t3,by kernel_rfl,rfl⟩
theorem Z3:dp an 3 (.v (.int .i64 0)):=⟨Tryz.t3,_,by kernel_rfl,rfl,rfl,fun _ _ _=>gG rfl⟩
instance:TI an 3 1 false:=⟨T3⟩
instance:ZI an 3 (.v (.int .i64 0)):=⟨Z3⟩
instance:UN an 4 .bool:=⟨are⟩
theorem T4:bE an 4 1 false:=⟨by kernel_rfl,_,are,rfl⟩
theorem B4:mT an 4 1:=⟨Tryz.t4,by kernel_rfl,rfl⟩
instance:TI an 4 1 false:=⟨T4⟩
instance:UN an 5 (.int .u8):=⟨aoy⟩
instance:UN an 22 (.slice 3):=⟨aws⟩
theorem T22:bE an 22 1 false:=⟨by kernel_rfl,_,aws,rfl⟩
instance:TI an 22 1 false:=⟨T22⟩
instance:UN an 25 (.slice 31):=⟨dI⟩
theorem T25:bE an 25 1 false:=⟨by kernel_rfl,_,dI,rfl⟩
instance:TI an 25 1 false:=⟨T25⟩
instance:UN an 26 (.slice 42):=⟨wB⟩
theorem T26:bE an 26 1 false:=⟨by kernel_rfl,_,wB,rfl⟩
instance:TI an 26 1 false:=⟨T26⟩
theorem mj:bE an 28 3 true:=⟨by kernel_rfl,_,avg,rfl⟩
theorem B28:mT an 28 56:=⟨ayN,by kernel_rfl,rfl⟩
theorem Z28:dp an 28 (.agg [.v (.int .i64 0),.v (.slice none 0 0),.v (.slice none 0 0)]):=⟨ayN,_,by kernel_rfl,rfl,rfl,fun _ _ _=>fk (bB (c1:=[.int .i64 0]) rfl (gG rfl) (bB (c1:=[.slice none 0 0]) rfl (gG rfl) (bB (c1:=[.slice none 0 0]) rfl (gG rfl) (fi))))⟩
instance:TI an 28 3 true:=⟨mj⟩
instance:ZI an 28 (.agg [.v (.int .i64 0),.v (.slice none 0 0),.v (.slice none 0 0)]):=⟨Z28⟩
theorem aHz:mo an 28 [(1,false),(1,false),(1,false)]:=⟨_,avg,⟨rfl,T3,⟨rfl,T25,⟨rfl,T26,trivial⟩⟩⟩,by decide⟩
instance:SI an 28 [(1,false),(1,false),(1,false)]:=⟨aHz⟩
instance:UN an 29 (.slice 202):=⟨qx⟩
theorem T29:bE an 29 1 false:=⟨by kernel_rfl,_,qx,rfl⟩
instance:TI an 29 1 false:=⟨T29⟩
theorem db:bE an 31 3 true:=⟨by kernel_rfl,_,apt,rfl⟩
theorem mY:mT an 31 56:=⟨axw,by kernel_rfl,rfl⟩
theorem Z31:dp an 31 (ah 0):=⟨axw,_,by kernel_rfl,rfl,ar.pure 0,fun _ _ _=>dD⟩
theorem mq:dp an 31 (.agg [.v (.bool false),.list 1 [],.list 1 []]):=q8 ▸ Z31
instance:TI an 31 3 true:=⟨db⟩
instance:BI an 31 56:=⟨mY⟩
instance:ZI an 31 (.agg [.v (.bool false),.list 1 [],.list 1 []]):=⟨mq⟩
theorem aun:mo an 31 [(1,false),(1,false),(1,false)]:=⟨_,apt,⟨rfl,T4,⟨rfl,T29,⟨rfl,T29,trivial⟩⟩⟩,by decide⟩
instance:SI an 31 [(1,false),(1,false),(1,false)]:=⟨aun⟩
theorem T35:bE an 35 5 true:=⟨by kernel_rfl,_,avk,rfl⟩
theorem Z35:dp an 35 (.agg [.v (.int .i64 0),.v (.int .i64 0),ah 0]):=⟨Tryz.t35,_,by kernel_rfl,rfl,by simp [LV.pure,aN,ar.pure],fun _ _ _=>fk (bB (c1:=[.int .i64 0]) rfl (gG rfl) (bB (c1:=[.int .i64 0]) rfl (gG rfl) (bB (c1:=[.bool false,.slice none 0 0,.slice none 0 0]) cK (dD) (fi))))⟩
instance:TI an 35 5 true:=⟨T35⟩
instance:ZI an 35 (.agg [.v (.int .i64 0),.v (.int .i64 0),ah 0]):=⟨Z35⟩
theorem ayk:mo an 35 [(1,false),(1,false),(3,true)]:=⟨_,avk,⟨rfl,T3,⟨rfl,T3,⟨rfl,db,trivial⟩⟩⟩,by decide⟩
instance:SI an 35 [(1,false),(1,false),(3,true)]:=⟨ayk⟩
instance:UN an 40 (.array 3 31):=⟨asC⟩
theorem ju:bE an 40 9 true:=⟨by kernel_rfl,_,asC,rfl⟩
theorem B40:mT an 40 168:=⟨av2,by kernel_rfl,rfl⟩
theorem Z40:dp an 40 (.agg [ah 0,ah 0,ah 0]):=⟨av2,_,by kernel_rfl,rfl,by simp [LV.pure,aN,ar.pure],fun _ _ _=>fk (bB (c1:=[.bool false,.slice none 0 0,.slice none 0 0]) cK (dD) (bB (c1:=[.bool false,.slice none 0 0,.slice none 0 0]) cK (dD) (bB (c1:=[.bool false,.slice none 0 0,.slice none 0 0]) cK (dD) (fi))))⟩
instance:TI an 40 9 true:=⟨ju⟩
instance:ZI an 40 (.agg [ah 0,ah 0,ah 0]):=⟨Z40⟩
theorem uF:bE an 42 12 true:=⟨by kernel_rfl,_,ayQ,rfl⟩
theorem B42:mT an 42 224:=⟨ayp,by kernel_rfl,rfl⟩
theorem Z42:dp an 42 (.agg [.agg [ah 0,ah 0,ah 0],ah 0]):=⟨ayp,_,by kernel_rfl,rfl,by simp [LV.pure,aN,ar.pure],fun _ _ _=>fk (bB (c1:=[.bool false,.slice none 0 0,.slice none 0 0,.bool false,.slice none 0 0,.slice none 0 0,.bool false,.slice none 0 0,.slice none 0 0]) cK (fk (bB (c1:=[.bool false,.slice none 0 0,.slice none 0 0]) cK (dD) (bB (c1:=[.bool false,.slice none 0 0,.slice none 0 0]) cK (dD) (bB (c1:=[.bool false,.slice none 0 0,.slice none 0 0]) cK (dD) (fi))))) (bB (c1:=[.bool false,.slice none 0 0,.slice none 0 0]) cK (dD) (fi)))⟩
instance:TI an 42 12 true:=⟨uF⟩
instance:ZI an 42 (.agg [.agg [ah 0,ah 0,ah 0],ah 0]):=⟨Z42⟩
theorem aHm:mo an 42 [(9,true),(3,true)]:=⟨_,ayQ,⟨rfl,ju,⟨rfl,db,trivial⟩⟩,by decide⟩
instance:SI an 42 [(9,true),(3,true)]:=⟨aHm⟩
instance:UN an 43 (.slice 51):=⟨lI⟩
theorem T43:bE an 43 1 false:=⟨by kernel_rfl,_,lI,rfl⟩
instance:TI an 43 1 false:=⟨T43⟩
instance:UN an 49 (.slice 54):=⟨rf⟩
theorem T49:bE an 49 1 false:=⟨by kernel_rfl,_,rf,rfl⟩
instance:TI an 49 1 false:=⟨T49⟩
theorem mB:bE an 51 4 true:=⟨by kernel_rfl,_,aoO,rfl⟩
theorem B51:mT an 51 64:=⟨axp,by kernel_rfl,rfl⟩
theorem Z51:dp an 51 (.agg [.v (.slice none 0 0),.v (.slice none 0 0),.v (.int .i64 0),.v (.int .i64 0)]):=⟨axp,_,by kernel_rfl,rfl,rfl,fun _ _ _=>fk (bB (c1:=[.slice none 0 0]) rfl (gG rfl) (bB (c1:=[.slice none 0 0]) rfl (gG rfl) (bB (c1:=[.int .i64 0]) rfl (gG rfl) (bB (c1:=[.int .i64 0]) rfl (gG rfl) (fi)))))⟩
instance:TI an 51 4 true:=⟨mB⟩
instance:ZI an 51 (.agg [.v (.slice none 0 0),.v (.slice none 0 0),.v (.int .i64 0),.v (.int .i64 0)]):=⟨Z51⟩
theorem aAi:mo an 51 [(1,false),(1,false),(1,false),(1,false)]:=⟨_,aoO,⟨rfl,T49,⟨rfl,T49,⟨rfl,T3,⟨rfl,T3,trivial⟩⟩⟩⟩,by decide⟩
instance:SI an 51 [(1,false),(1,false),(1,false),(1,false)]:=⟨aAi⟩
theorem oA:bE an 54 6 true:=⟨by kernel_rfl,_,avB,rfl⟩
theorem B54:mT an 54 112:=⟨auq,by kernel_rfl,rfl⟩
theorem Z54:dp an 54 (.agg [ah 0,ah 0]):=⟨auq,_,by kernel_rfl,rfl,by simp [LV.pure,aN,ar.pure],fun _ _ _=>fk (bB (c1:=[.bool false,.slice none 0 0,.slice none 0 0]) cK (dD) (bB (c1:=[.bool false,.slice none 0 0,.slice none 0 0]) cK (dD) (fi)))⟩
instance:TI an 54 6 true:=⟨oA⟩
instance:ZI an 54 (.agg [ah 0,ah 0]):=⟨Z54⟩
theorem apL:mo an 54 [(3,true),(3,true)]:=⟨_,avB,⟨rfl,db,⟨rfl,db,trivial⟩⟩,by decide⟩
instance:SI an 54 [(3,true),(3,true)]:=⟨apL⟩
instance:UN an 66 (.array 3 40):=⟨at4⟩
theorem T66:bE an 66 27 true:=⟨by kernel_rfl,_,at4,rfl⟩
theorem Z66:dp an 66 (.agg [.agg [ah 0,ah 0,ah 0],.agg [ah 0,ah 0,ah 0],.agg [ah 0,ah 0,ah 0]]):=⟨Tryz.t66,_,by kernel_rfl,rfl,by simp [LV.pure,aN,ar.pure],fun _ _ _=>fk (bB (c1:=[.bool false,.slice none 0 0,.slice none 0 0,.bool false,.slice none 0 0,.slice none 0 0,.bool false,.slice none 0 0,.slice none 0 0]) cK (fk (bB (c1:=[.bool false,.slice none 0 0,.slice none 0 0]) cK (dD) (bB (c1:=[.bool false,.slice none 0 0,.slice none 0 0]) cK (dD) (bB (c1:=[.bool false,.slice none 0 0,.slice none 0 0]) cK (dD) (fi))))) (bB (c1:=[.bool false,.slice none 0 0,.slice none 0 0,.bool false,.slice none 0 0,.slice none 0 0,.bool false,.slice none 0 0,.slice none 0 0]) cK (fk (bB (c1:=[.bool false,.slice none 0 0,.slice none 0 0]) cK (dD) (bB (c1:=[.bool false,.slice none 0 0,.slice none 0 0]) cK (dD) (bB (c1:=[.bool false,.slice none 0 0,.slice none 0 0]) cK (dD) (fi))))) (bB (c1:=[.bool false,.slice none 0 0,.slice none 0 0,.bool false,.slice none 0 0,.slice none 0 0,.bool false,.slice none 0 0,.slice none 0 0]) cK (fk (bB (c1:=[.bool false,.slice none 0 0,.slice none 0 0]) cK (dD) (bB (c1:=[.bool false,.slice none 0 0,.slice none 0 0]) cK (dD) (bB (c1:=[.bool false,.slice none 0 0,.slice none 0 0]) cK (dD) (fi))))) (fi))))⟩
instance:TI an 66 27 true:=⟨T66⟩
theorem wb:bE an 68 36 true:=⟨by kernel_rfl,_,ayP,rfl⟩
theorem Z68:dp an 68 (.agg [.agg [.agg [ah 0,ah 0,ah 0],.agg [ah 0,ah 0,ah 0],.agg [ah 0,ah 0,ah 0]],.agg [ah 0,ah 0,ah 0]]):=⟨Tryz.t68,_,by kernel_rfl,rfl,by simp [LV.pure,aN,ar.pure],fun _ _ _=>fk (bB (c1:=[.bool false,.slice none 0 0,.slice none 0 0,.bool false,.slice none 0 0,.slice none 0 0,.bool false,.slice none 0 0,.slice none 0 0,.bool false,.slice none 0 0,.slice none 0 0,.bool false,.slice none 0 0,.slice none 0 0,.bool false,.slice none 0 0,.slice none 0 0,.bool false,.slice none 0 0,.slice none 0 0,.bool false,.slice none 0 0,.slice none 0 0,.bool false,.slice none 0 0,.slice none 0 0]) cK (fk (bB (c1:=[.bool false,.slice none 0 0,.slice none 0 0,.bool false,.slice none 0 0,.slice none 0 0,.bool false,.slice none 0 0,.slice none 0 0]) cK (fk (bB (c1:=[.bool false,.slice none 0 0,.slice none 0 0]) cK (dD) (bB (c1:=[.bool false,.slice none 0 0,.slice none 0 0]) cK (dD) (bB (c1:=[.bool false,.slice none 0 0,.slice none 0 0]) cK (dD) (fi))))) (bB (c1:=[.bool false,.slice none 0 0,.slice none 0 0,.bool false,.slice none 0 0,.slice none 0 0,.bool false,.slice none 0 0,.slice none 0 0]) cK (fk (bB (c1:=[.bool false,.slice none 0 0,.slice none 0 0]) cK (dD) (bB (c1:=[.bool false,.slice none 0 0,.slice none 0 0]) cK (dD) (bB (c1:=[.bool false,.slice none 0 0,.slice none 0 0]) cK (dD) (fi))))) (bB (c1:=[.bool false,.slice none 0 0,.slice none 0 0,.bool false,.slice none 0 0,.slice none 0 0,.bool false,.slice none 0 0,.slice none 0 0]) cK (fk (bB (c1:=[.bool false,.slice none 0 0,.slice none 0 0]) cK (dD) (bB (c1:=[.bool false,.slice none 0 0,.slice none 0 0]) cK (dD) (bB (c1:=[.bool false,.slice none 0 0,.slice none 0 0]) cK (dD) (fi))))) (fi))))) (bB (c1:=[.bool false,.slice none 0 0,.slice none 0 0,.bool false,.slice none 0 0,.slice none 0 0,.bool false,.slice none 0 0,.slice none 0 0]) cK (fk (bB (c1:=[.bool false,.slice none 0 0,.slice none 0 0]) cK (dD) (bB (c1:=[.bool false,.slice none 0 0,.slice none 0 0]) cK (dD) (bB (c1:=[.bool false,.slice none 0 0,.slice none 0 0]) cK (dD) (fi))))) (fi)))⟩
instance:TI an 68 36 true:=⟨wb⟩
theorem aEp:mo an 68 [(27,true),(9,true)]:=⟨_,ayP,⟨rfl,T66,⟨rfl,ju,trivial⟩⟩,by decide⟩
instance:SI an 68 [(27,true),(9,true)]:=⟨aEp⟩
theorem Z83:dp an 83 (.agg [.agg [.v (.int .i64 0),.v (.slice none 0 0),.v (.slice none 0 0)],.agg [.v (.int .i64 0),.v (.slice none 0 0),.v (.slice none 0 0)]]):=⟨Tryz.t83,_,by kernel_rfl,rfl,rfl,fun _ _ _=>fk (bB (c1:=[.int .i64 0,.slice none 0 0,.slice none 0 0]) rfl (fk (bB (c1:=[.int .i64 0]) rfl (gG rfl) (bB (c1:=[.slice none 0 0]) rfl (gG rfl) (bB (c1:=[.slice none 0 0]) rfl (gG rfl) (fi))))) (bB (c1:=[.int .i64 0,.slice none 0 0,.slice none 0 0]) rfl (fk (bB (c1:=[.int .i64 0]) rfl (gG rfl) (bB (c1:=[.slice none 0 0]) rfl (gG rfl) (bB (c1:=[.slice none 0 0]) rfl (gG rfl) (fi))))) (fi)))⟩
theorem Z87:dp an 87 (.agg [.agg [.v (.int .i64 0),.v (.int .i64 0),ah 0],.v (.slice none 0 0),.v (.int .i64 0)]):=⟨Tryz.t87,_,by kernel_rfl,rfl,by simp [LV.pure,aN,ar.pure],fun _ _ _=>fk (bB (c1:=[.int .i64 0,.int .i64 0,.bool false,.slice none 0 0,.slice none 0 0]) cK (fk (bB (c1:=[.int .i64 0]) rfl (gG rfl) (bB (c1:=[.int .i64 0]) rfl (gG rfl) (bB (c1:=[.bool false,.slice none 0 0,.slice none 0 0]) cK (dD) (fi))))) (bB (c1:=[.slice none 0 0]) rfl (gG rfl) (bB (c1:=[.int .i64 0]) rfl (gG rfl) (fi))))⟩
theorem atS:mo an 87 [(5,true),(1,false),(1,false)]:=⟨_,Tryz.underlying87,⟨rfl,T35,⟨rfl,T43,⟨rfl,T3,trivial⟩⟩⟩,by decide⟩
instance:SI an 87 [(5,true),(1,false),(1,false)]:=⟨atS⟩
instance:UN an 88 (.slice 28):=⟨Tryz.underlying88⟩
theorem T92:bE an 92 3 true:=⟨by kernel_rfl,_,axu,rfl⟩
theorem Z92:dp an 92 (.agg [.v (.bool false),.v (.int .i64 0),.v (.int .i64 0)]):=⟨Tryz.t92,_,by kernel_rfl,rfl,rfl,fun _ _ _=>fk (bB (c1:=[.bool false]) rfl (gG rfl) (bB (c1:=[.int .i64 0]) rfl (gG rfl) (bB (c1:=[.int .i64 0]) rfl (gG rfl) (fi))))⟩
instance:TI an 92 3 true:=⟨T92⟩
instance:ZI an 92 (.agg [.v (.bool false),.v (.int .i64 0),.v (.int .i64 0)]):=⟨Z92⟩
theorem aFM:mo an 92 [(1,false),(1,false),(1,false)]:=⟨_,axu,⟨rfl,T4,⟨rfl,T3,⟨rfl,T3,trivial⟩⟩⟩,by decide⟩
instance:SI an 92 [(1,false),(1,false),(1,false)]:=⟨aFM⟩
instance:UN an 97 (.array 3 54):=⟨avS⟩
theorem T97:bE an 97 18 true:=⟨by kernel_rfl,_,avS,rfl⟩
theorem Z97:dp an 97 (.agg [.agg [ah 0,ah 0],.agg [ah 0,ah 0],.agg [ah 0,ah 0]]):=⟨Tryz.t97,_,by kernel_rfl,rfl,by simp [LV.pure,aN,ar.pure],fun _ _ _=>fk (bB (c1:=[.bool false,.slice none 0 0,.slice none 0 0,.bool false,.slice none 0 0,.slice none 0 0]) cK (fk (bB (c1:=[.bool false,.slice none 0 0,.slice none 0 0]) cK (dD) (bB (c1:=[.bool false,.slice none 0 0,.slice none 0 0]) cK (dD) (fi)))) (bB (c1:=[.bool false,.slice none 0 0,.slice none 0 0,.bool false,.slice none 0 0,.slice none 0 0]) cK (fk (bB (c1:=[.bool false,.slice none 0 0,.slice none 0 0]) cK (dD) (bB (c1:=[.bool false,.slice none 0 0,.slice none 0 0]) cK (dD) (fi)))) (bB (c1:=[.bool false,.slice none 0 0,.slice none 0 0,.bool false,.slice none 0 0,.slice none 0 0]) cK (fk (bB (c1:=[.bool false,.slice none 0 0,.slice none 0 0]) cK (dD) (bB (c1:=[.bool false,.slice none 0 0,.slice none 0 0]) cK (dD) (fi)))) (fi))))⟩
instance:TI an 97 18 true:=⟨T97⟩
instance:ZI an 97 (.agg [.agg [ah 0,ah 0],.agg [ah 0,ah 0],.agg [ah 0,ah 0]]):=⟨Z97⟩
instance:UN an 116 (.array 4 31):=⟨asY⟩
theorem aok:bE an 116 12 true:=⟨by kernel_rfl,_,asY,rfl⟩
theorem aFG:dp an 116 (.agg [ah 0,ah 0,ah 0,ah 0]):=⟨Tryz.t116,_,by kernel_rfl,rfl,by simp [LV.pure,aN,ar.pure],fun _ _ _=>fk (bB (c1:=[.bool false,.slice none 0 0,.slice none 0 0]) cK (dD) (bB (c1:=[.bool false,.slice none 0 0,.slice none 0 0]) cK (dD) (bB (c1:=[.bool false,.slice none 0 0,.slice none 0 0]) cK (dD) (bB (c1:=[.bool false,.slice none 0 0,.slice none 0 0]) cK (dD) (fi)))))⟩
instance:TI an 116 12 true:=⟨aok⟩
instance:ZI an 116 (.agg [ah 0,ah 0,ah 0,ah 0]):=⟨aFG⟩
theorem aCS:dp an 120 (.agg [.v (.slice none 0 0),.v (.int .i64 0)]):=⟨Tryz.t120,_,by kernel_rfl,rfl,rfl,fun _ _ _=>fk (bB (c1:=[.slice none 0 0]) rfl (gG rfl) (bB (c1:=[.int .i64 0]) rfl (gG rfl) (fi)))⟩
theorem apY:mo an 120 [(1,false),(1,false)]:=⟨_,Tryz.underlying120,⟨rfl,T22,⟨rfl,T3,trivial⟩⟩,by decide⟩
instance:SI an 120 [(1,false),(1,false)]:=⟨apY⟩
instance:UN an 123 (.slice 2):=⟨Tryz.underlying123⟩
instance:UN an 134 (.int .u64):=⟨ajE⟩
instance:UN an 137 (.slice 159):=⟨zQ⟩
theorem awb:bE an 137 1 false:=⟨by kernel_rfl,_,zQ,rfl⟩
instance:TI an 137 1 false:=⟨awb⟩
theorem agR:bE an 139 3 true:=⟨by kernel_rfl,_,awF,rfl⟩
theorem aG6:dp an 139 (.agg [.v (.int .i64 0),.v (.slice none 0 0),.v (.slice none 0 0)]):=⟨Tryz.t139,_,by kernel_rfl,rfl,rfl,fun _ _ _=>fk (bB (c1:=[.int .i64 0]) rfl (gG rfl) (bB (c1:=[.slice none 0 0]) rfl (gG rfl) (bB (c1:=[.slice none 0 0]) rfl (gG rfl) (fi))))⟩
instance:TI an 139 3 true:=⟨agR⟩
instance:ZI an 139 (.agg [.v (.int .i64 0),.v (.slice none 0 0),.v (.slice none 0 0)]):=⟨aG6⟩
theorem aGU:mo an 139 [(1,false),(1,false),(1,false)]:=⟨_,awF,⟨rfl,T3,⟨rfl,T25,⟨rfl,awb,trivial⟩⟩⟩,by decide⟩
instance:SI an 139 [(1,false),(1,false),(1,false)]:=⟨aGU⟩
theorem zb:bE an 147 3 true:=⟨by kernel_rfl,_,avl,rfl⟩
theorem azf:mT an 147 56:=⟨atM,by kernel_rfl,rfl⟩
theorem aAl:dp an 147 (.agg [.v (.slice none 0 0),.v (.int .i64 0),.v (.slice none 0 0)]):=⟨atM,_,by kernel_rfl,rfl,rfl,fun _ _ _=>fk (bB (c1:=[.slice none 0 0]) rfl (gG rfl) (bB (c1:=[.int .i64 0]) rfl (gG rfl) (bB (c1:=[.slice none 0 0]) rfl (gG rfl) (fi))))⟩
instance:TI an 147 3 true:=⟨zb⟩
instance:ZI an 147 (.agg [.v (.slice none 0 0),.v (.int .i64 0),.v (.slice none 0 0)]):=⟨aAl⟩
theorem aHF:mo an 147 [(1,false),(1,false),(1,false)]:=⟨_,avl,⟨rfl,T49,⟨rfl,T3,⟨rfl,T22,trivial⟩⟩⟩,by decide⟩
instance:SI an 147 [(1,false),(1,false),(1,false)]:=⟨aHF⟩
instance:UN an 148 (.slice 147):=⟨Tryz.underlying148⟩
instance:UN an 155 (.slice 31):=⟨sD⟩
theorem aCe:bE an 155 1 false:=⟨by kernel_rfl,_,sD,rfl⟩
instance:TI an 155 1 false:=⟨aCe⟩
instance:UN an 156 (.array 4 155):=⟨avb⟩
theorem aww:bE an 156 4 true:=⟨by kernel_rfl,_,avb,rfl⟩
theorem aIk:dp an 156 (.agg [.v (.slice none 0 0),.v (.slice none 0 0),.v (.slice none 0 0),.v (.slice none 0 0)]):=⟨Tryz.t156,_,by kernel_rfl,rfl,rfl,fun _ _ _=>fk (bB (c1:=[.slice none 0 0]) rfl (gG rfl) (bB (c1:=[.slice none 0 0]) rfl (gG rfl) (bB (c1:=[.slice none 0 0]) rfl (gG rfl) (bB (c1:=[.slice none 0 0]) rfl (gG rfl) (fi)))))⟩
instance:TI an 156 4 true:=⟨aww⟩
instance:ZI an 156 (.agg [.v (.slice none 0 0),.v (.slice none 0 0),.v (.slice none 0 0),.v (.slice none 0 0)]):=⟨aIk⟩
instance:UN an 159 (.array 4 31):=⟨aqW⟩
theorem abo:bE an 159 12 true:=⟨by kernel_rfl,_,aqW,rfl⟩
theorem ayZ:mT an 159 224:=⟨asa,by kernel_rfl,rfl⟩
theorem ajj:dp an 159 (.agg [ah 0,ah 0,ah 0,ah 0]):=⟨asa,_,by kernel_rfl,rfl,by simp [LV.pure,aN,ar.pure],fun _ _ _=>fk (bB (c1:=[.bool false,.slice none 0 0,.slice none 0 0]) cK (dD) (bB (c1:=[.bool false,.slice none 0 0,.slice none 0 0]) cK (dD) (bB (c1:=[.bool false,.slice none 0 0,.slice none 0 0]) cK (dD) (bB (c1:=[.bool false,.slice none 0 0,.slice none 0 0]) cK (dD) (fi)))))⟩
instance:TI an 159 12 true:=⟨abo⟩
instance:ZI an 159 (.agg [ah 0,ah 0,ah 0,ah 0]):=⟨ajj⟩
instance:UN an 165 (.slice 40):=⟨wK⟩
theorem amu:bE an 165 1 false:=⟨by kernel_rfl,_,wK,rfl⟩
instance:TI an 165 1 false:=⟨amu⟩
instance:UN an 169 (.array 2 54):=⟨ae5⟩
theorem ata:bE an 169 12 true:=⟨by kernel_rfl,_,ae5,rfl⟩
theorem au9:dp an 169 (.agg [.agg [ah 0,ah 0],.agg [ah 0,ah 0]]):=⟨Tryz.t169,_,by kernel_rfl,rfl,by simp [LV.pure,aN,ar.pure],fun _ _ _=>fk (bB (c1:=[.bool false,.slice none 0 0,.slice none 0 0,.bool false,.slice none 0 0,.slice none 0 0]) cK (fk (bB (c1:=[.bool false,.slice none 0 0,.slice none 0 0]) cK (dD) (bB (c1:=[.bool false,.slice none 0 0,.slice none 0 0]) cK (dD) (fi)))) (bB (c1:=[.bool false,.slice none 0 0,.slice none 0 0,.bool false,.slice none 0 0,.slice none 0 0]) cK (fk (bB (c1:=[.bool false,.slice none 0 0,.slice none 0 0]) cK (dD) (bB (c1:=[.bool false,.slice none 0 0,.slice none 0 0]) cK (dD) (fi)))) (fi)))⟩
instance:TI an 169 12 true:=⟨ata⟩
instance:UN an 170 (.array 2 169):=⟨Tryz.underlying170⟩
theorem aCc:dp an 170 (.agg [.agg [.agg [ah 0,ah 0],.agg [ah 0,ah 0]],.agg [.agg [ah 0,ah 0],.agg [ah 0,ah 0]]]):=⟨Tryz.t170,_,by kernel_rfl,rfl,by simp [LV.pure,aN,ar.pure],fun _ _ _=>fk (bB (c1:=[.bool false,.slice none 0 0,.slice none 0 0,.bool false,.slice none 0 0,.slice none 0 0,.bool false,.slice none 0 0,.slice none 0 0,.bool false,.slice none 0 0,.slice none 0 0]) cK (fk (bB (c1:=[.bool false,.slice none 0 0,.slice none 0 0,.bool false,.slice none 0 0,.slice none 0 0]) cK (fk (bB (c1:=[.bool false,.slice none 0 0,.slice none 0 0]) cK (dD) (bB (c1:=[.bool false,.slice none 0 0,.slice none 0 0]) cK (dD) (fi)))) (bB (c1:=[.bool false,.slice none 0 0,.slice none 0 0,.bool false,.slice none 0 0,.slice none 0 0]) cK (fk (bB (c1:=[.bool false,.slice none 0 0,.slice none 0 0]) cK (dD) (bB (c1:=[.bool false,.slice none 0 0,.slice none 0 0]) cK (dD) (fi)))) (fi)))) (bB (c1:=[.bool false,.slice none 0 0,.slice none 0 0,.bool false,.slice none 0 0,.slice none 0 0,.bool false,.slice none 0 0,.slice none 0 0,.bool false,.slice none 0 0,.slice none 0 0]) cK (fk (bB (c1:=[.bool false,.slice none 0 0,.slice none 0 0,.bool false,.slice none 0 0,.slice none 0 0]) cK (fk (bB (c1:=[.bool false,.slice none 0 0,.slice none 0 0]) cK (dD) (bB (c1:=[.bool false,.slice none 0 0,.slice none 0 0]) cK (dD) (fi)))) (bB (c1:=[.bool false,.slice none 0 0,.slice none 0 0,.bool false,.slice none 0 0,.slice none 0 0]) cK (fk (bB (c1:=[.bool false,.slice none 0 0,.slice none 0 0]) cK (dD) (bB (c1:=[.bool false,.slice none 0 0,.slice none 0 0]) cK (dD) (fi)))) (fi)))) (fi)))⟩
theorem aBQ:bE an 181 2 true:=⟨by kernel_rfl,_,aw9,rfl⟩
theorem aJG:dp an 181 (.agg [.v (.slice none 0 0),.v (.slice none 0 0)]):=⟨Tryz.t181,_,by kernel_rfl,rfl,rfl,fun _ _ _=>fk (bB (c1:=[.slice none 0 0]) rfl (gG rfl) (bB (c1:=[.slice none 0 0]) rfl (gG rfl) (fi)))⟩
instance:TI an 181 2 true:=⟨aBQ⟩
instance:ZI an 181 (.agg [.v (.slice none 0 0),.v (.slice none 0 0)]):=⟨aJG⟩
theorem aCV:mo an 181 [(1,false),(1,false)]:=⟨_,aw9,⟨rfl,amu,⟨rfl,amu,trivial⟩⟩,by decide⟩
instance:SI an 181 [(1,false),(1,false)]:=⟨aCV⟩
instance:UN an 202 (.int .u32):=⟨avT⟩
theorem sQ:bE an 202 1 false:=⟨by kernel_rfl,_,avT,rfl⟩
theorem acF:mT an 202 4:=⟨axs,by kernel_rfl,rfl⟩
theorem aca:dp an 202 (.v (.int .u32 0)):=⟨axs,_,by kernel_rfl,rfl,rfl,fun _ _ _=>gG rfl⟩
instance:TI an 202 1 false:=⟨sQ⟩
instance:BI an 202 4:=⟨acF⟩
instance:UN an 212 (.array 2 31):=⟨auL⟩
theorem aHO:bE an 212 6 true:=⟨by kernel_rfl,_,auL,rfl⟩
theorem aHN:dp an 212 (.agg [ah 0,ah 0]):=⟨Tryz.t212,_,by kernel_rfl,rfl,by simp [LV.pure,aN,ar.pure],fun _ _ _=>fk (bB (c1:=[.bool false,.slice none 0 0,.slice none 0 0]) cK (dD) (bB (c1:=[.bool false,.slice none 0 0,.slice none 0 0]) cK (dD) (fi)))⟩
instance:TI an 212 6 true:=⟨aHO⟩
instance:ZI an 212 (.agg [ah 0,ah 0]):=⟨aHN⟩
instance:UN an 230 (.array 3 155):=⟨asp⟩
theorem aqQ:bE an 230 3 true:=⟨by kernel_rfl,_,asp,rfl⟩
theorem aAT:dp an 230 (.agg [.v (.slice none 0 0),.v (.slice none 0 0),.v (.slice none 0 0)]):=⟨Tryz.t230,_,by kernel_rfl,rfl,rfl,fun _ _ _=>fk (bB (c1:=[.slice none 0 0]) rfl (gG rfl) (bB (c1:=[.slice none 0 0]) rfl (gG rfl) (bB (c1:=[.slice none 0 0]) rfl (gG rfl) (fi))))⟩
instance:TI an 230 3 true:=⟨aqQ⟩
instance:ZI an 230 (.agg [.v (.slice none 0 0),.v (.slice none 0 0),.v (.slice none 0 0)]):=⟨aAT⟩
instance:UN an 261 (.array 3 212):=⟨Tryz.underlying261⟩
theorem aBe:dp an 261 (.agg [.agg [ah 0,ah 0],.agg [ah 0,ah 0],.agg [ah 0,ah 0]]):=⟨Tryz.t261,_,by kernel_rfl,rfl,by simp [LV.pure,aN,ar.pure],fun _ _ _=>fk (bB (c1:=[.bool false,.slice none 0 0,.slice none 0 0,.bool false,.slice none 0 0,.slice none 0 0]) cK (fk (bB (c1:=[.bool false,.slice none 0 0,.slice none 0 0]) cK (dD) (bB (c1:=[.bool false,.slice none 0 0,.slice none 0 0]) cK (dD) (fi)))) (bB (c1:=[.bool false,.slice none 0 0,.slice none 0 0,.bool false,.slice none 0 0,.slice none 0 0]) cK (fk (bB (c1:=[.bool false,.slice none 0 0,.slice none 0 0]) cK (dD) (bB (c1:=[.bool false,.slice none 0 0,.slice none 0 0]) cK (dD) (fi)))) (bB (c1:=[.bool false,.slice none 0 0,.slice none 0 0,.bool false,.slice none 0 0,.slice none 0 0]) cK (fk (bB (c1:=[.bool false,.slice none 0 0,.slice none 0 0]) cK (dD) (bB (c1:=[.bool false,.slice none 0 0,.slice none 0 0]) cK (dD) (fi)))) (fi))))⟩
instance:ZI an 261 (.agg [.agg [ah 0,ah 0],.agg [ah 0,ah 0],.agg [ah 0,ah 0]]):=⟨aBe⟩
theorem abK:dp an 54 (aE (0,0)):=by rw [yN];exact Z54
instance:EC an 2 fZ 1 false 0:=⟨pP,Z2,T2⟩
instance:EC an 3 fZ 1 false 0:=⟨pP,Z3,T3⟩
instance:EC an 31 ah 3 true 0:=⟨ar,Z31,db⟩
instance:EC an 40 a5 9 true ⟨0,0,0⟩:=⟨bl,Z40,ju⟩
instance:EC an 42 aY 12 true ⟨⟨0,0,0⟩,0⟩:=⟨bF,Z42,uF⟩
instance:EC an 54 aE 6 true (0,0):=⟨ck,abK,oA⟩
instance:AE an 54 aE 6 true (0,0):=⟨ck,abK⟩
instance:EC an 202 bw 1 false 0:=⟨gv,aca,sQ⟩
section
variable {f:FuncId} {fn:Func} {c:Code} {args:List LV} {r:LV}
theorem aW (hf:an.funcs[f]?=some fn)
  (h:cP an c (fun e L=>match e with | .exit _=>False | _=>qc an fn.results.toList L r []) (St.mk (fun t=>args.getD t .any) (hp [])))
  (hb:fn.body=some c:=by exact rfl) (hn:(fn.name== "runtime.NumGoroutine")=false:=by decide +kernel) (hd:lV fn.ntmps c=true:=by decide +kernel) (hlen:args.length<=fn.ntmps:=by exact Nat.le_of_ble_eq_true rfl) (ht:∀ g,r.bV g=r:=by exact tm0):ax an f args r:=aI8 fol hf hb hn hd hlen ht h
theorem fnO {bs:List bg} (hf:an.funcs[f]?=some fn)
  (h:cP an c (fun e L=>match e with | .exit _=>False | _=>qc an fn.results.toList L r bs) (St.mk (fun t=>args.getD t .any) (hp [])))
  (hb:fn.body=some c:=by exact rfl) (hn:(fn.name== "runtime.NumGoroutine")=false:=by decide +kernel) (hd:lV fn.ntmps c=true:=by decide +kernel) (hlen:args.length<=fn.ntmps:=by exact Nat.le_of_ble_eq_true rfl):pW an f args r bs:=aDb fol hf hb hn hd hlen h
theorem xY {blk blk':bg} (hf:an.funcs[f]?=some fn)
  (h:cP an c (fun e L=>match e with | .exit _=>False | _=>zi an fn.results.toList L r blk') (St.mk (fun t=>args.getD t .any) (hp [(0,blk)])))
  (hb:fn.body=some c:=by exact rfl) (hn:(fn.name== "runtime.NumGoroutine")=false:=by decide +kernel) (hd:lV fn.ntmps c=true:=by decide +kernel) (hlen:args.length<=fn.ntmps:=by exact Nat.le_of_ble_eq_true rfl) (fQ:blk.mt=true:=by exact rfl):nO an f blk args r blk':=aB5 fol hf hb hn hd hlen fQ h
end
end Go.Proofs.YtckppbhafancnaaGreat
end
section
set_option linter.unusedVariables false
set_option linter.unusedSimpArgs false
namespace Go.Proofs.YtckppbhafancnaaGreat
open Go.Lg
section
variable {f:FuncId} {fn:Func} {c:Code} {args:List LV} {r:LV}
theorem fnC {blk c1 blk':bg} {bs:List bg} (hf:an.funcs[f]?=some fn)
  (h:cP an c (fun e L=>match e with | .exit _=>False | _=>amj an fn.results.toList L r blk' bs) (St.mk (fun t=>args.getD t .any) (hp [(0,blk),(1,c1)])))
  (hb:fn.body=some c:=by exact rfl) (hn:(fn.name== "runtime.NumGoroutine")=false:=by decide +kernel) (hd:lV fn.ntmps c=true:=by decide +kernel) (hlen:args.length<=fn.ntmps:=by exact Nat.le_of_ble_eq_true rfl) (fQ:blk.mt=true:=by exact rfl) (alW:c1.mt=true:=by exact rfl):aaR an f blk c1 args r blk' bs:=aGM fol hf hb hn hd hlen fQ alW h
end
end Go.Proofs.YtckppbhafancnaaGreat
end
section
set_option linter.unusedVariables false
set_option linter.unusedSimpArgs false
set_option maxHeartbeats 8000000
set_option maxRecDepth 100000
attribute [local irreducible] Go.Lg.opsL Go.Lg.cP Go.Lg.qi Go.Lg.s7
namespace Go.Proofs.YtckppbhafancnaaGreat
open Go.Lg
namespace auO
theorem wU {p q:Prop} (k:q) (e:p=q:=by simp only [e1,e2,e3,e4,p1,p2,p3,q1,q2,q3,l1,t0,t1,r1,r2,r3,r4,Nat.zero_add,Nat.reduceMul,Nat.reduceAdd,b1,b2,b3,b4,b5,b6,i1,i2,i3,i4,i5,i6,Nat.reduceBEq,ej,ek];exact rfl):p:=e.mpr k
theorem ux {p:Prop} (h:p:=by first | (refine wU ?_;exact rfl) | exact rfl):p:=h
theorem amz {p q:Prop} (k:q) (e:p=q:=by simp only [e1,e2,e3,e4,p1,p2,p3,q1,q2,q3,l1,t0,t1,r1,r2,r3,r4,Nat.zero_add,Nat.reduceMul,Nat.reduceAdd,b1,b2,b3,b4,b5,b6,i1,i2,i3,i4,i5,i6,Nat.reduceBEq,ek];exact rfl):p:=e.mpr k
theorem nf2 {p:Prop} (h:p:=by first | (refine amz ?_;exact rfl) | exact rfl):p:=h
end auO
open auO H0 in
theorem atx (l:List Nat) (hl:l.length<=4611686018427387904):ax an 149 [fj l] (fj (yo l)):=by
 unfold fj yo
 refine aW ave ?_
 refine dM ?_
 refine dV (fun(k:Nat) L=>(((St.mk L.slot (hp [])).put (some 0) (.list 1 (l.map bw))).put (some 3) (ai k))) (fun k=>k<=l.length/\jA l.length l=jA k l) (fun k=>k) l.length ⟨bq _,rfl⟩ ?_
 rintro k L1 ⟨hk,xz⟩
 refine aC ?_
 refine ez 8 rfl ?_ ?_<;>intro pZ h8
 ·obtain⟨j,rfl⟩:∃ j,k=j+1:=⟨k-1,ae⟩
  have ej:(((j+1:Nat):Int)-1).toNat=j:=by omega
  have ek:(((j+1:Nat):Int)-1)=j:=by omega
  refine aZ ?_
  refine uf ux ?_
  refine av ?_
  refine aH rfl ?_ ?_<;>intro qI nG
  ·refine aZ ?_
   refine uf nf2 ?_
   refine aT ?_
   exact jL j ⟨ae,xz.trans (by simp only [jA];rw [if_pos (by simpa using nG)])⟩
  ·refine bD ?_
   refine ak rfl adX ?_
   refine aA ?_
   rw [xz,jA,if_neg (by simpa using nG)]
   exact dT rfl (.pure (fc gv _ _))
 ·have lS:k=0:=by omega
  subst lS
  have ej:True:=trivial
  have ek:True:=trivial
  refine aZ ?_
  refine uf ux ?_
  refine bC ?_
  refine ak rfl adX ?_
  refine aA ?_
  rw [xz]
  exact dT rfl (.pure (fc gv _ _))
namespace acZ
theorem aO {p q:Prop} (k:q) (e:p=q:=by simp only [e1,e2,e3,e4,p1,p2,p3,q1,q2,q3,l1,t0,t1,r1,r2,r3,r4,Nat.zero_add,Nat.reduceMul,Nat.reduceAdd,b1,b2,b3,b4,b5,b6,i1,i2,i3,i4,i5,i6,Nat.reduceBEq,gk];exact rfl):p:=e.mpr k
end acZ
open acZ in
theorem ald (a b:List Nat) (ha:bY a) (hb:bY b) (fV:a.length<=1099511627776) (mH:b.length<=1099511627776):ax an 248 [fj a,fj b] (bj (val a+val b)):=by
 unfold fj bj
 refine aW Tryz.func248 ?_
 refine iE ?_
 refine iM (fun L=>∃ (x:List Nat) (y:List Nat) (L1:St),(bY x/\bY y/\x.length<=1099511627776/\y.length<=x.length/\val a+val b=val x+val y)/\L=(((St.mk L1.slot (hp [])).put (some 0) (.list 1 (x.map bw))).put (some 1) (.list 1 (y.map bw)))) ?_ ?_
 ·refine aH rfl ?_ ?_<;>intro ahH h13
  ·refine aZ ?_
   exact⟨b,a,_,⟨hb,ha,mH,ae,qB _ _⟩,((al (al (bK cl) cl) cl)).symm⟩
  ·refine aT ?_
   exact⟨a,b,_,⟨ha,hb,fV,ae,rfl⟩,((al (al (bK cl) cl) cl)).symm⟩
 ·rintro _ ⟨x,y,aK2,⟨hx,hy,hlx,hyx,sA⟩,rfl⟩
  rw [sA]
  refine aC ?_
  refine fL rfl rfl (.nh (n:=x.length+1) (m:=x.length+1) ml ml om om om) ?_
  refine jI ?_
  refine uE (fun(k:Nat) (o:List Nat) (c:Nat) L=>((((((((St.mk L.slot (hp [(19,⟨1,o.map bw,true⟩)])).put (some 0) (.list 1 (x.map bw))).put (some 1) (.list 1 (y.map bw))).put (some 5) (.ref 19 1 0 (x.length+1))).put (some 6) (cS c)).put (some 20) (.list 1 (x.map bw))).put (some 21) (ai x.length)).put (some 22) (ai k))) (fun k o c=>k<=x.length/\o.length=x.length+1/\c<=1/\bY o/\val (o.take k)+4294967296 ^ k*c=val (x.take k)+val (y.take k)) (fun k o c=>x.length-k) 0 (ay (x.length+1) 0) 0 ⟨b8 _,by simp,ae,wi _,by simp [val]⟩ ?_
  rintro k o c L1 ⟨hk,de,hc,cg,hv⟩
  have uN:=jo hx k
  have hyk:=jo hy k
  refine aC ?_
  refine aH rfl ?_ ?_<;>intro tP sg
  ·refine avL ?_
   refine aH rfl ?_ ?_<;>intro aiB h34
   ·refine aoJ ?_
    exact ui (k+1) (o.set k ((c+x.getD k 0+y.getD k 0) % 4294967296)) ((c+x.getD k 0+y.getD k 0)/4294967296) ⟨ae,by simp [de],ae,nB cg _ _ (mA _ ae),aqB ae hv rfl⟩
   ·refine aaJ ?_
    exact ui (k+1) (o.set k ((c+x.getD k 0) % 4294967296)) ((c+x.getD k 0)/4294967296) ⟨ae,by simp [de],ae,nB cg _ _ (mA _ ae),aqB ae hv (by rw [vq y k ae];rfl)⟩
  ·obtain rfl:k=x.length:=by omega
   refine pU ?_
   refine tz [19] tC (atx _ uj) ?_
   refine aA ?_
   rw [<-aAc (c:=c % 4294967296) hyx de cg ae (by rw [iW ae];exact hv)]
   exact dT rfl (.pure (zG _))
theorem su (l:List Nat) (h:bY l) (hl:l.length<=4611686018427387904):ax an 149 [fj l] (bj (val l)):=by
 have:=atx l hl
 rwa [vY h] at this
namespace agh
theorem aO {p q:Prop} (k:q) (e:p=q:=by simp only [e1,e2,e3,e4,p1,p2,p3,q1,q2,q3,l1,t0,t1,r1,r2,r3,r4,Nat.zero_add,Nat.reduceMul,Nat.reduceAdd,b1,b2,b3,b4,b5,b6,i1,i2,i3,i4,i5,i6,Nat.reduceBEq,gk,ej];exact rfl):p:=e.mpr k
end agh
open agh in
theorem azl (a:List Nat) (hl:a.length<=4611686018427387904):ax an 147 [fj a] (bL (decide (a.length=0\/a.getD (a.length-1) 0≠0))):=by
 unfold fj
 refine aW Tryz.func147 ?_
 have ej:True:=trivial
 refine bC ?_
 refine ez 6 rfl ?_ ?_<;>intro x8 h6
 ·have ej:True:=trivial
  refine bG ?_
  refine dT ?_ (.pure rfl)
  simp only [e1,e2,e3,e4,p1,p2,p3,q1,q2,q3,wF]
  congr 2
  first | (symm;rw [decide_eq_true_iff];omega) | (rw [aep,bne_iff_ne,decide_eq_true_iff];omega)
 ·have ej:((a.length:Int)-1).toNat=a.length-1:=by omega
  refine bG ?_
  refine dT ?_ (.pure rfl)
  simp only [e1,e2,e3,e4,p1,p2,p3,q1,q2,q3,wF]
  congr 2
  first | (symm;rw [decide_eq_true_iff];omega) | (rw [aep,bne_iff_ne,decide_eq_true_iff];omega)
namespace ad5
theorem aO {p q:Prop} (k:q) (e:p=q:=by simp only [e1,e2,e3,e4,p1,p2,p3,q1,q2,q3,l1,t0,t1,r1,r2,r3,r4,Nat.zero_add,Nat.reduceMul,Nat.reduceAdd,b1,b2,b3,b4,b5,b6,i1,i2,i3,i4,i5,i6,Nat.reduceBEq,gk,ej,ek];exact rfl):p:=e.mpr k
end ad5
open ad5 in
theorem arA (a:List Nat) (h:bY a) (hl:a.length<=2):ax an 237 [fj a] (cS (val a)):=by
 unfold fj
 refine aW Tryz.func237 ?_
 have ej:True:=trivial
 have ek:True:=trivial
 refine pa ?_
 refine ma (fun(k n:Nat) L=>((((St.mk L.slot (hp [])).put (some 0) (.list 1 (a.map bw))).put (some 3) (cS n)).put (some 4) (iL ((k:Int)-1)))) (fun k n=>k<=a.length/\n=val (a.drop k)) (fun k n=>k) a.length 0 ⟨bq _,by simp [val]⟩ ?_
 rintro k n L1 ⟨hk,hn⟩
 refine aZ ?_
 refine aH rfl ?_ ?_<;>intro wQ h9
 ·obtain⟨j,rfl⟩:∃ j,k=j+1:=⟨k-1,ae⟩
  have ej:(((j+1:Nat):Int)-1).toNat=j:=by omega
  have ek:(((j+1:Nat):Int)-1)=j:=by omega
  have hb:=jo h j
  have nL:n<4294967296:=by have:=apj h (k:=j+1) (j:=1) ae;rw [hn];simpa using this
  refine abi ?_
  exact jh j (n*4294967296+a.getD j 0) ⟨ae,by rw [p9 ae,hn];omega⟩
 ·obtain rfl:k=0:=by omega
  have ej:True:=trivial
  have ek:True:=trivial
  rw [mn] at hn
  rw [<-hn]
  refine bG ?_
  exact eB
open ad5 in
theorem ago (a b:List Nat) (ha:bY a) (hb:bY b) (fV:a.length<=1099511627776) (mH:b.length<=1099511627776):ax an 173 [fj a,fj b] (iL (kt (val a) (val b))):=by
 refine aW Tryz.func173 ?_
 have ej:True:=trivial
 have ek:True:=trivial
 refine bo ?_
 refine cp aR (su _ jf ae) ?_
 refine av ?_
 refine cp aR (su _ jf ae) ?_
 refine dM ?_
 refine aH rfl ?_ ?_<;>intro qC lG
 ·have abX:(ao (val a)).length<=1099511627776:=by rw [<-vY ha];unfold yo;simp;omega
  refine bM ?_
  refine aH rfl ?_ ?_<;>intro agV h19
  ·have hE:=ahi (m:=val a) (n:=val b) ae
   refine bo ?_
   first | (rw [rI hE];exact dT rfl (.pure rfl)) | (rw [tZ hE];exact dT rfl (.pure rfl)) | (rw [uX hE];exact dT rfl (.pure rfl))
  ·have hE:=ahi (m:=val b) (n:=val a) ae
   refine bD ?_
   first | (rw [rI hE];exact dT rfl (.pure rfl)) | (rw [tZ hE];exact dT rfl (.pure rfl)) | (rw [uX hE];exact dT rfl (.pure rfl))
 ·have hlen:(ao (val a)).length=(ao (val b)).length:=by omega
  have abX:(ao (val a)).length<=1099511627776:=by rw [<-vY ha];unfold yo;simp;omega
  clear lG qC
  refine bG ?_
  refine dV (fun(k:Nat) L=>((((St.mk L.slot (hp [])).put (some 0) (bj (val a))).put (some 1) (bj (val b))).put (some 5) (iL ((k:Int)-1)))) (fun k=>k<=(ao (val a)).length/\(ao (val a)).drop k=(ao (val b)).drop k) (fun k=>k) ((ao (val a)).length) ⟨bq _,by rw [aeo,kg ae]⟩ ?_
  rintro k L1 ⟨hk,hd⟩
  refine aZ ?_
  refine aH rfl ?_ ?_<;>intro tN xp
  ·obtain⟨j,rfl⟩:∃ j,k=j+1:=⟨k-1,ae⟩
   have ej:(((j+1:Nat):Int)-1).toNat=j:=by omega
   have ek:(((j+1:Nat):Int)-1)=j:=by omega
   refine bc ?_
   refine a9 9 aq ?_
   refine bC ?_
   refine aH rfl ?_ ?_<;>intro zW h35
   ·refine aT ?_
    refine a9 9 aq ?_
    refine bC ?_
    refine aH rfl ?_ ?_<;>intro aGP h44
    ·have hE:=ajh (cT (val a)) (k:=j) ae ae hd ae
     rw [cq,cq] at hE
     refine bG ?_
     first | (rw [rI hE];exact dT rfl (.pure rfl)) | (rw [tZ hE];exact dT rfl (.pure rfl)) | (rw [uX hE];exact dT rfl (.pure rfl))
    ·have hE:=ajh (cT (val b)) (k:=j) ae ae hd.symm ae
     rw [cq,cq] at hE
     refine dH ?_
     first | (rw [rI hE];exact dT rfl (.pure rfl)) | (rw [tZ hE];exact dT rfl (.pure rfl)) | (rw [uX hE];exact dT rfl (.pure rfl))
   ·refine bD ?_
    exact jL j ⟨ae,ari ae ae hd ae⟩
  ·obtain rfl:k=0:=by omega
   have ej:True:=trivial
   have ek:True:=trivial
   rw [mn,mn] at hd
   have hE:val a=val b:=by have:=congrArg val hd;rwa [cq,cq] at this
   refine bC ?_
   first | (rw [rI hE];exact dT rfl (.pure rfl)) | (rw [tZ hE];exact dT rfl (.pure rfl)) | (rw [uX hE];exact dT rfl (.pure rfl))
theorem ax2 {b:List Nat} (h:bY b):(ao (val b)).length<=b.length:=by
 rw [<-vY h];unfold yo;simp;exact aoU _ _
open H0 in
theorem aCW (a b:List Nat) (ha:bY a) (hb:bY b) (fV:a.length<=1099511627776) (mH:b.length<=1099511627776) (bH:val a<val b):ax an 249 [fj a,fj b] (.bf [fj [],iL 7]):=by
 refine aW axi ?_
 refine bC ?_
 refine cp au (ago _ _ jf jf ae ae) ?_
 refine aQ ?_
 refine aH rfl ?_ ?_<;>intro qI nG
 ·refine bo ?_
  exact xm rfl (.nil 1) rfl (.pure rfl)
 ·exfalso;rw [rI bH] at nG;omega
theorem azK {k br:Nat} {a b o:List Nat} (de:k<o.length) (oC:br<=1) (hx:a.getD k 0<4294967296) (hyb:b.getD k 0<4294967296) (cg:bY o) (hv:val (o.take k)+val (b.take k)=val (a.take k)+4294967296 ^ k*br) {y d:Nat}
  (hy:y=br+b.getD k 0) (hd:d=(18446744073709551616+a.getD k 0-y) % 18446744073709551616) :
  d/9223372036854775808<=1/\bY (o.set k (d % 4294967296))/\val ((o.set k (d % 4294967296)).take (k+1))+val (b.take (k+1))=val (a.take (k+1))+4294967296 ^ (k+1)*(d/9223372036854775808):=by
 refine⟨ae,nB cg _ _ ae,?_⟩
 rcases gC (a.getD k 0) y with h | h
 ·have h1:d % 4294967296=4294967296+a.getD k 0-y:=by omega
  have h2:d/9223372036854775808=1:=by omega
  rw [h1,h2]
  exact at2 de hv hy h ae
 ·have h1:d % 4294967296=a.getD k 0-y:=by omega
  have h2:d/9223372036854775808=0:=by omega
  rw [h1,h2]
  exact ass de hv hy h
open acZ in
theorem aEk (a b:List Nat) (ha:bY a) (hb:bY b) (fV:a.length<=1099511627776) (mH:b.length<=1099511627776) (hle:val b<=val a):ax an 249 [fj a,fj b] (.bf [bj (val a-val b),iL 0]):=by
 have tp:(ao (val b)).length<=a.length:=by
  apply yc;exact uP hle (acI ha)
 refine aW axi ?_
 refine bC ?_
 refine cp au (ago _ _ jf jf ae ae) ?_
 refine aQ ?_
 refine aH rfl ?_ ?_<;>intro qI nG
 ·exfalso
  rcases atr hle with h | h
  ·rw [tZ h] at nG;omega
  ·rw [uX h.symm] at nG;omega
 ·refine bc ?_
  refine cp aR (su _ jf ae) ?_
  refine aZ ?_
  refine fL rfl rfl (.nh (n:=a.length) (m:=a.length) ml ml om om om) ?_
  refine jI ?_
  refine uE (fun(k:Nat) (o:List Nat) (br:Nat) L=>((((((((St.mk L.slot (hp [(20,⟨1,o.map bw,true⟩)])).put (some 0) (.list 1 (a.map bw))).put (some 1) (bj (val b))).put (some 6) (.ref 20 1 0 a.length)).put (some 7) (cS br)).put (some 21) (.list 1 (a.map bw))).put (some 22) (ai a.length)).put (some 23) (ai k))) (fun k o br=>k<=a.length/\o.length=a.length/\br<=1/\bY o/\val (o.take k)+val ((ao (val b)).take k)=val (a.take k)+4294967296 ^ k*br) (fun k o br=>a.length-k) 0 (ay a.length 0) 0 ⟨b8 _,by simp,ae,wi _,by simp [val]⟩ ?_
  rintro k o br L1 ⟨hk,de,oC,cg,hv⟩
  have uN:=jo ha k
  have hyk:=jc (val b) k
  refine aC ?_
  refine aH rfl ?_ ?_<;>intro tN xp
  ·refine amL ?_
   refine iM (fun L=>∃ (y:Nat) (L1:St),(y=br+(ao (val b)).getD k 0)/\L=(((((((((((St.mk L1.slot (hp [(20,⟨1,o.map bw,true⟩)])).put (some 0) (.list 1 (a.map bw))).put (some 1) (bj (val b))).put (some 6) (.ref 20 1 0 a.length)).put (some 7) (cS br)).put (some 21) (.list 1 (a.map bw))).put (some 22) (ai a.length)).put (some 23) (ai k)).put (some 9) (bw (a.getD k 0))).put (some 8) (ai k)).put (some 10) (cS y))) ?_ ?_
   ·refine aH rfl ?_ ?_<;>intro ahd h32
    ·refine bC ?_
     exact⟨br+(ao (val b)).getD k 0,_,rfl,((al (al (al (al (al (al (al (al (al (al (bK cl) cl) cl) cl) cl) cl) cl) cl) cl) cl) cl)).symm⟩
    ·refine aT ?_
     exact⟨br,_,by rw [vq _ k ae];rfl,((al (al (al (al (al (al (al (al (al (al (bK cl) cl) cl) cl) cl) cl) cl) cl) cl) cl) cl)).symm⟩
   ·rintro _ ⟨y,aLT,hy,rfl⟩
    refine aC ?_
    refine ak rfl (.bin rfl rfl (ae7 ae)) ?_
    refine wP ?_
    exact ui (k+1) (o.set k ((18446744073709551616+a.getD k 0-y) % 18446744073709551616 % 4294967296)) ((18446744073709551616+a.getD k 0-y) % 18446744073709551616/9223372036854775808) ⟨ae,by simp [de],azK ae oC uN hyk cg hv hy rfl⟩
  ·obtain rfl:k=a.length:=by omega
   refine bo ?_
   refine tz [20] tC (su _ jf ae) ?_
   refine bc ?_
   have e:=asQ ha cg de tp (by rw [cq];exact hle) hv
   rw [vY cg,cq] at e
   have e2:=congrArg val e
   rw [cq,cq] at e2
   rw [<-e2]
   exact xm rfl (.pure (kH _)) rfl (.pure rfl)
theorem ay5 {c x y z:Nat} (hc:c<4294967296) (hx:x<4294967296) (hy:y<4294967296) (hz:z<4294967296):c+(x*y+z)<18446744073709551616:=by
 have:=vI hx hy;omega
theorem mul_zero {i x:Nat} {a b o:List Nat} (hx:x=a.getD i 0) (h0:x=0) (hv:val o=val (a.take i)*val b):val o=val (a.take (i+1))*val b:=by
 rw [qz,<-hx,h0];simpa using hv
theorem aoC {i m j x:Nat} {o:List Nat} (hj:j<m) (hz:∀ p,i+m<=p->o.getD p 0=0):∀ p,i+m<=p->(o.set (i+j) x).getD p 0=0:=fun p hp=>by
 rw [Go.Lg.getD_set_ne _ _ _ _ ae];exact hz p hp
theorem asv {i m x:Nat} {o:List Nat} (hz:∀ p,i+m<=p->o.getD p 0=0):∀ p,i+1+m<=p->(o.set (i+m) x).getD p 0=0:=fun p hp=>by
 rw [Go.Lg.getD_set_ne _ _ _ _ ae];exact hz p ae
theorem apH (n p:Nat):(ay n 0).getD p 0=0:=by
 rw [bp,List.getElem?_replicate];split<;>rfl
namespace anj
theorem aO {p q:Prop} (k:q) (e:p=q:=by simp only [e1,e2,e3,e4,p1,p2,p3,q1,q2,q3,l1,t0,t1,r1,r2,r3,r4,Nat.zero_add,Nat.reduceMul,Nat.reduceAdd,b1,b2,b3,b4,b5,b6,i1,i2,i3,i4,i5,i6,Nat.reduceBEq,gk,kJ];exact rfl):p:=e.mpr k
end anj
open anj in
theorem aad (a b:List Nat) (ha:bY a) (hb:bY b) (fV:a.length<=1099511627776) (mH:b.length<=1099511627776):ax an 174 [fj a,fj b] (bj (val a*val b)):=by
 unfold fj
 refine aW Tryz.func174 ?_
 have kJ:True:=trivial
 refine bG ?_
 refine fL rfl rfl (.nh (n:=a.length+b.length) (m:=a.length+b.length) ml ml om om om) ?_
 refine bG ?_
 refine ma (fun(i:Nat) (o:List Nat) L=>(((((((St.mk L.slot (hp [(16,⟨1,o.map bw,true⟩)])).put (some 0) (.list 1 (a.map bw))).put (some 1) (.list 1 (b.map bw))).put (some 5) (.ref 16 1 0 (a.length+b.length))).put (some 17) (.list 1 (a.map bw))).put (some 18) (ai a.length)).put (some 19) (ai i))) (fun i o=>i<=a.length/\o.length=a.length+b.length/\bY o/\val o=val (a.take i)*val b/\∀ p,i+b.length<=p->o.getD p 0=0) (fun i o=>a.length-i) 0 (ay (a.length+b.length) 0) ⟨b8 _,by simp,wi _,by simp [val,ajy],fun p _=>apH _ _⟩ ?_
 rintro i o L1 ⟨hi,de,cg,hv,hz⟩
 have hxi:=jo ha i
 have kJ:True:=trivial
 refine aC ?_
 refine aH rfl ?_ ?_<;>intro aaL h20
 ·refine pa ?_
  refine aH rfl ?_ ?_<;>intro aiX h25
  ·refine bD ?_
   exact jh (i+1) o ⟨ae,de,cg,mul_zero rfl ae hv,fun p hp=>hz p ae⟩
  ·refine oF ?_
   refine uE (fun(j:Nat) (o:List Nat) (c:Nat) L=>(((((((((((((St.mk L.slot (hp [(16,⟨1,o.map bw,true⟩)])).put (some 0) (.list 1 (a.map bw))).put (some 1) (.list 1 (b.map bw))).put (some 5) (.ref 16 1 0 (a.length+b.length))).put (some 17) (.list 1 (a.map bw))).put (some 18) (ai a.length)).put (some 19) (ai i)).put (some 6) (ai i)).put (some 7) (bw (a.getD i 0))).put (some 8) (cS c)).put (some 26) (.list 1 (b.map bw))).put (some 27) (ai b.length)).put (some 28) (ai j))) (fun j o c=>j<=b.length/\o.length=a.length+b.length/\bY o/\c<4294967296/\val o+4294967296 ^ (i+j)*c=val (a.take i)*val b+4294967296 ^ i*(a.getD i 0*val (b.take j))/\∀ p,i+b.length<=p->o.getD p 0=0) (fun j o c=>b.length-j) 0 o 0 ⟨b8 _,de,cg,ae,by rw [hv];simp [val],hz⟩ ?_
   rintro j o c L2 ⟨hj,de,cg,hc,hv,hz⟩
   have hyj:=jo hb j
   have hzj:=jo cg (i+j)
   have hs:=ay5 hc hxi hyj hzj
   have kJ:((i:Int)+(j:Int)).toNat=i+j:=by omega
   refine aC ?_
   refine aH rfl ?_ ?_<;>intro abN h29
   ·refine aGc ?_
    exact ui (j+1) (o.set (i+j) ((c+(a.getD i 0*b.getD j 0+o.getD (i+j) 0)) % 4294967296)) ((c+(a.getD i 0*b.getD j 0+o.getD (i+j) 0))/4294967296) ⟨ae,by simp [de],nB cg _ _ (mA _ ae),ae,awV ae hv rfl,aoC ae hz⟩
   ·obtain rfl:j=b.length:=by omega
    have aCX:((i:Int)+(b.length:Int)).toNat=i+b.length:=by omega
    refine abi ?_
    exact jh (i+1) (o.set (i+b.length) (c % 4294967296)) ⟨ae,by simp [de],nB cg _ _ (mA _ ae),by rw [iW hc];exact aqV ae ae (hz _ (bq _)) rfl rfl hv,asv hz⟩
 ·obtain rfl:i=a.length:=by omega
  refine bo ?_
  refine tz [16] tC (su _ jf uj) ?_
  refine aA ?_
  rw [nT] at hv
  rw [<-hv]
  exact eB
open ad5 in
theorem aJM (a:List Nat) (d:Nat) (ha:bY a) (fV:a.length<=1099511627776) (jM:0<d) (hd:d<4294967296):ax an 275 [fj a,rn d] (.bf [bj (val a/d),rn (val a % d)]):=by
 unfold fj
 refine aW Tryz.func275 ?_
 have ej:True:=trivial
 have ek:True:=trivial
 refine bM ?_
 refine fL rfl rfl (.nh (n:=a.length) (m:=a.length) ml ml om om om) ?_
 refine qF ?_
 refine uE (fun(k:Nat) (q:List Nat) (r:Nat) L=>((((((St.mk L.slot (hp [(11,⟨1,q.map bw,true⟩)])).put (some 0) (.list 1 (a.map bw))).put (some 1) (rn d)).put (some 6) (.ref 11 1 0 a.length)).put (some 7) (cS r)).put (some 8) (iL ((k:Int)-1)))) (fun k q r=>k<=a.length/\q.length=a.length/\bY q/\r<d/\val (q.drop k)*d+r=val (a.drop k)) (fun k q r=>k) a.length (ay a.length 0) 0 ⟨bq _,by simp,wi _,jM,by simp [val]⟩ ?_
 rintro k q r L1 ⟨hk,jV,mO,hr,hv⟩
 refine aZ ?_
 refine aH rfl ?_ ?_<;>intro abC zd
 ·obtain⟨j,rfl⟩:∃ j,k=j+1:=⟨k-1,ae⟩
  have ej:(((j+1:Nat):Int)-1).toNat=j:=by omega
  have ek:(((j+1:Nat):Int)-1)=j:=by omega
  have hxj:=jo ha j
  refine aaJ ?_
  refine ak rfl agv ?_
  refine pa ?_
  exact ui j (q.set j ((r*4294967296+a.getD j 0)/d % 4294967296)) ((r*4294967296+a.getD j 0) % d) ⟨ae,by simp [jV],nB mO _ _ (mA _ ae),mA _ jM,by rw [iW (ape hr hxj)];exact aqg ae jV hv rfl⟩
 ·obtain rfl:k=0:=by omega
  have ej:True:=trivial
  have ek:True:=trivial
  refine bo ?_
  refine tz [11] tC (su _ jf uj) ?_
  refine aZ ?_
  obtain⟨E1,E2⟩:=arD jM hr mO hv
  rw [vY mO] at E1
  have E3:=congrArg val E1
  rw [cq,cq] at E3
  rw [<-E3,<-E2]
  have E4:r % 4294967296=r:=iW ae
  refine xm rfl (.pure (kH _)) rfl ?_
  show cY _ (rn (r % 4294967296)) (rn r)
  rw [E4]
  exact .pure rfl
theorem agw {s:Nat} (hs:s<32):2 ^ s<=2147483648/\0<2 ^ s:=⟨mh (n:=2) ae (show s<=31 by omega),my ae⟩
theorem asq {m:Nat} (h:m<256):(0:Int)<=IntKind.u8.wrap (m:Int)/\(IntKind.u8.wrap (m:Int)).toNat=m:=by
 rw [IntKind.wrap_u8];omega
theorem aoA {x p:Nat} (hx:x<4294967296) (hp:p<=2147483648):x*p<=9223372034707292160:=by
 have:=Nat.mul_le_mul (Nat.le_sub_one_of_lt hx) hp;simpa using this
theorem auI {x p c:Nat} (hx:x<4294967296) (hc:c<p):(x*p+c)/4294967296<p:=by
 rw [ot ae]
 have:(x+1)*p<=4294967296*p:=fU _ hx
 rw [iA] at this
 rw [fA p];omega
open acZ in
theorem aJ1 (a:List Nat) (s:Nat) (ha:bY a) (fV:a.length<=1099511627776) (hs:s<32):pW an 277 [fj a,ai s] (.ref 1 1 0 (a.length+1)) [⟨1,(je (a.length+1) (val a*2 ^ s)).map bw,true⟩]:=by
 unfold fj
 refine fnO Tryz.func277 ?_
 refine bM ?_
 refine fL rfl rfl (.nh (n:=a.length+1) (m:=a.length+1) ml ml om om om) ?_
 refine jI ?_
 refine uE (fun(k:Nat) (o:List Nat) (c:Nat) L=>((((((((St.mk L.slot (hp [(12,⟨1,o.map bw,true⟩)])).put (some 0) (.list 1 (a.map bw))).put (some 1) (ai s)).put (some 5) (.ref 12 1 0 (a.length+1))).put (some 6) (cS c)).put (some 13) (.list 1 (a.map bw))).put (some 14) (ai a.length)).put (some 15) (ai k))) (fun k o c=>k<=a.length/\o.length=a.length+1/\c<2 ^ s/\bY o/\val (o.take k)+4294967296 ^ k*c=val (a.take k)*2 ^ s) (fun k o c=>a.length-k) 0 (ay (a.length+1) 0) 0 ⟨b8 _,by simp,(agw hs).2,wi _,by simp [val]⟩ ?_
 rintro k o c L1 ⟨hk,de,hc,cg,hv⟩
 have uN:=jo ha k
 obtain⟨kE,sE⟩:=agw hs
 have vL:=aoA uN kE
 refine aC ?_
 refine aH rfl ?_ ?_<;>intro abC zd
 ·refine pU ?_
  refine ak rfl (.sh rfl rfl (awc ae ae)) ?_
  refine ak rfl (.bin rfl rfl (orV hc ae)) ?_
  refine wP ?_
  exact ui (k+1) (o.set k ((a.getD k 0*2 ^ s+c) % 4294967296)) ((a.getD k 0*2 ^ s+c)/4294967296) ⟨ae,by simp [de],auI uN hc,nB cg _ _ (mA _ ae),aAQ ae hv rfl⟩
 ·obtain rfl:k=a.length:=by omega
  refine abi ?_
  have hc2:c % 4294967296=c:=iW ae
  have E:=aFI de hv
  have E2:=ajz (nB cg a.length c ae) (by simp only [List.length_set];exact de)
  rw [E] at E2
  rw [<-E2]
  simp only [hc2]
  exact agt rfl rfl (a7 gv _)
open H0 in
theorem aoq (n:Nat) (hn:n<18446744073709551616):ax an 238 [cS n] (bj n):=by
 have hL:bY [n % 4294967296,n/4294967296 % 4294967296]:=by
  intro x hx;simp at hx;omega
 have hV:val [n % 4294967296,n/4294967296 % 4294967296]=n:=by rw [val_two];omega
 refine aW Tryz.func238 ?_
 refine dH ?_
 refine tz [8] tC (su _ jf uj) ?_
 refine aA ?_
 skip
 exact dT rfl (by rw [hV];exact .pure (kH _))
namespace apC
theorem wU {p q:Prop} (k:q) (e:p=q:=by simp only [e1,e2,e3,e4,p1,p2,p3,q1,q2,q3,l1,t0,t1,r1,r2,r3,r4,Nat.zero_add,Nat.reduceMul,Nat.reduceAdd,b1,b2,b3,b4,b5,b6,i1,i2,i3,i4,i5,i6,Nat.reduceBEq,hbn];exact rfl):p:=e.mpr k
theorem ux {p:Prop} (h:p:=by first | (refine wU ?_;exact rfl) | exact rfl):p:=h
end apC
open apC H0 in
theorem aoL (n:Nat) (hn:n<4294967296):ax an 150 [rn n] (iL (dJ n)):=by
 refine aW Tryz.func150 ?_
 refine bG ?_
 refine iM (fun L=>∃ (m:Nat) (q:Nat) (L1:St),(dJ n=q+dJ m/\m<65536/\q<=16)/\L=(((St.mk L1.slot (hp [])).put (some 0) (rn m)).put (some 2) (iL q))) ?_ ?_
 ·refine aH rfl ?_ ?_<;>intro h4r h4
  ·refine aQ ?_
   refine ak rfl (.sh rfl rfl (aeL (m:=16) aj)) ?_
   refine aZ ?_
   exact⟨n/2 ^ 16,16,_,⟨ajm ae,ae,ae⟩,((al (al (bK cl) cl) cl)).symm⟩
  ·refine aT ?_
   exact⟨n,0,_,⟨ae,ae,ae⟩,((al (al (bK cl) cl) cl)).symm⟩
 ·rintro _ ⟨m,q,LC4,⟨hb1,hm,hq⟩,rfl⟩
  refine bo ?_
  refine iM (fun L=>∃ (m2:Nat) (q2:Nat) (L1:St),(dJ n=q2+dJ m2/\m2<256/\q2<=24)/\L=(((St.mk L1.slot (hp [])).put (some 0) (rn m2)).put (some 2) (iL q2))) ?_ ?_
  ·refine aH rfl ?_ ?_<;>intro pZ h8
   ·refine aQ ?_
    refine ak rfl (.sh rfl rfl (aeL (m:=8) aj)) ?_
    refine bD ?_
    exact⟨m/2 ^ 8,q+8,_,⟨by rw [hb1,ajm (n:=m) (k:=8) ae];omega,ae,ae⟩,((al (al (bK cl) cl) cl)).symm⟩
   ·refine aT ?_
    exact⟨m,q,_,⟨hb1,ae,ae⟩,((al (al (bK cl) cl) cl)).symm⟩
  ·rintro _ ⟨m2,q2,LC8,⟨xI,fe,hq2⟩,rfl⟩
   have hb8:dJ m2<=8:=wo.2 fe
   have hbn:(UInt8.ofNat (dJ m2)).toNat=dJ m2:=(by decide:∀ k,k<=8->(UInt8.ofNat k).toNat=k) _ hb8
   refine aC ?_
   refine ak rfl (.ahZ (b:=UInt8.ofNat (dJ m2)) rfl Tryz.underlying9 rfl (asq fe).1 (by rw [(asq fe).2];exact tbl aq fe)) ?_
   refine ak rfl (.cvI aoy arV rfl ae ae) ?_
   refine ak rfl yi ?_
   refine av ?_
   refine uf ux ?_
   refine aT ?_
   rw [xI]
   exact dT rfl (by first | exact .pure rfl | (rw [hbn];exact .pure rfl))
open H0 in
theorem aKs (n:Nat) (hn:n<4294967296):ax an 276 [rn n] (iL (32-dJ n)):=by
 have hb:dJ n<=32:=wo.2 hn
 refine aW Tryz.func276 ?_
 refine bo ?_
 refine cp aR (aoL _ ae) ?_
 refine bc ?_
 exact eB
theorem acD (l:List Nat) (h:bY l) (hl:l.length<=1099511627776):(ao (val l)).length<=1099511627776:=ba (ax2 h) hl
theorem apd {n:Nat} (h:0<(ao n).length):32*((ao n).length-1)+dJ ((ao n).getD ((ao n).length-1) 0)=dJ n:=by
 have:=aCA (cT n) (afB n) h
 rw [cq] at this;omega
open agh in
theorem aeh (a:List Nat) (ha:bY a) (fV:a.length<=1099511627776):ax an 81 [fj a] (iL (dJ (val a))):=by
 have bH:=acD a ha fV
 refine aW Tryz.func81 ?_
 have ej:True:=trivial
 refine bo ?_
 refine cp aR (su _ jf uj) ?_
 refine bC ?_
 refine aH rfl ?_ ?_<;>intro h7r h7
 ·have h0:val a=0:=tv.1 (nM ae)
  have hz:dJ (val a)=0:=xQ.2 h0
  refine aZ ?_
  rw [hz]
  exact eB
 ·have ni:0<(ao (val a)).length:=by omega
  have ej:(((ao (val a)).length:Int)-1).toNat=(ao (val a)).length-1:=by omega
  have hz:=apd ni
  have acj:=jc (val a) ((ao (val a)).length-1)
  have anl:dJ ((ao (val a)).getD ((ao (val a)).length-1) 0)<=32:=wo.2 acj
  refine dM ?_
  refine cp aR (aoL _ (by rw [ej];exact acj)) ?_
  refine ak rfl (.bin rfl rfl (sW (by simp only [ej,gk];omega) (by simp only [ej,gk];omega))) ?_
  refine aA ?_
  refine dT ?_ (.pure rfl)
  simp only [e1,e2,e3,e4,p1,p2,p3,q1,q2,q3,wF]
  congr 2
  omega
namespace at6
theorem wU {p q:Prop} (k:q) (e:p=q:=by simp only [e1,e2,e3,e4,p1,p2,p3,q1,q2,q3,l1,t0,t1,r1,r2,r3,r4,Nat.zero_add,Nat.reduceMul,Nat.reduceAdd,b1,b2,b3,b4,b5,b6,i1,i2,i3,i4,i5,i6,Nat.reduceBEq,List.take_zero,List.take_nil,List.nil_append,aV gv,LV.kill];exact rfl):p:=e.mpr k
theorem ux {p:Prop} (h:p:=by first | (refine wU ?_;exact rfl) | exact rfl):p:=h
end at6
open at6 H0 in
theorem aeY (a:List Nat) (fV:a.length<=1099511627776):ax an 235 [fj a] (fj a):=by
 unfold fj
 refine aW Tryz.func235 ?_
 refine aZ ?_
 refine aiY (aDH (sz:=1) (l:=a.map bw) rfl qx (fun b hb=>?_))
 refine av ?_
 refine aH rfl ?_ ?_<;>intro h4r h4
 ·have agp:a=[]:=by simpa using hb h4r
  subst agp
  refine aZ ?_
  exact dT rfl (.nil 1)
 ·refine aC ?_
  refine bS rfl (.app rfl rfl rfl rfl rfl (b8 _) (.inr rfl) aj qx qx aca sQ rfl acF (.inr (.inl rfl)) bz bz aj) ?_
  refine av ?_
  refine uf ux ?_
  refine aT ?_
  exact o4 [7] rfl rfl (fI gv rfl rfl aM)
open acZ in
theorem ahy (a b:List Nat) (fV:a.length<=1099511627776) (mH:b.length<=1099511627776):ax an 172 [fj a,fj b] (bL (decide (a=b))):=by
 unfold fj
 refine aW Tryz.func172 ?_
 refine iE ?_
 refine aH rfl ?_ ?_<;>intro ob qf
 ·have hE:a≠b:=by rintro rfl;omega
  refine aZ ?_
  first | (rw [decide_eq_true hE];exact dT rfl (.pure rfl)) | (rw [decide_eq_false hE];exact dT rfl (.pure rfl))
 ·have hl:a.length=b.length:=by omega
  clear qf ob
  refine bC ?_
  refine dV (fun(k:Nat) L=>((((((St.mk L.slot (hp [])).put (some 0) (.list 1 (a.map bw))).put (some 1) (.list 1 (b.map bw))).put (some 11) (.list 1 (a.map bw))).put (some 12) (ai a.length)).put (some 13) (ai k))) (fun k=>k<=a.length/\a.take k=b.take k) (fun k=>a.length-k) 0 ⟨b8 _,rfl⟩ ?_
  rintro k L1 ⟨hk,ht⟩
  refine aC ?_
  refine aH rfl ?_ ?_<;>intro qC lG
  ·refine bC ?_
   refine a9 9 aq ?_
   refine bC ?_
   refine aH rfl ?_ ?_<;>intro tN xp
   ·have hE:a≠b:=by rintro rfl;omega
    refine bC ?_
    first | (rw [decide_eq_true hE];exact dT rfl (.pure rfl)) | (rw [decide_eq_false hE];exact dT rfl (.pure rfl))
   ·refine bo ?_
    exact jL (k+1) ⟨ae,aAy ae ae ht ae⟩
  ·obtain rfl:k=a.length:=by omega
   have hE:a=b:=by rw [nT,hl,nT] at ht;exact ht
   refine bC ?_
   first | (rw [decide_eq_true hE];exact dT rfl (.pure rfl)) | (rw [decide_eq_false hE];exact dT rfl (.pure rfl))
namespace ao7
theorem aO {p q:Prop} (k:q) (e:p=q:=by simp only [e1,e2,e3,e4,p1,p2,p3,q1,q2,q3,l1,t0,t1,r1,r2,r3,r4,Nat.zero_add,Nat.reduceMul,Nat.reduceAdd,b1,b2,b3,b4,b5,b6,i1,i2,i3,i4,i5,i6,Nat.reduceBEq,ej,ek,gk];exact rfl):p:=e.mpr k
end ao7
open ao7 in
theorem aCv (l:List Nat) (hl:l.length<=4611686018427387904) (h0:0<l.length):nO an 149 ⟨1,l.map bw,true⟩ [.ref 0 1 0 l.length] (.ref 0 1 0 (jA l.length l)) ⟨1,l.map bw,true⟩:=by
 refine xY ave ?_
 have ej:True:=trivial
 have ek:True:=trivial
 refine dM ?_
 refine dV (fun(k:Nat) L=>(((St.mk L.slot (hp [(0,⟨1,l.map bw,true⟩)])).put (some 0) (.ref 0 1 0 l.length)).put (some 3) (ai k))) (fun k=>k<=l.length/\jA l.length l=jA k l) (fun k=>k) l.length ⟨bq _,rfl⟩ ?_
 rintro k L1 ⟨hk,xz⟩
 refine aC ?_
 refine ez 8 rfl ?_ ?_<;>intro pZ h8
 ·obtain⟨j,rfl⟩:∃ j,k=j+1:=⟨k-1,ae⟩
  have ej:(((j+1:Nat):Int)-1).toNat=j:=by omega
  have ek:(((j+1:Nat):Int)-1)=j:=by omega
  refine bD ?_
  refine aH rfl ?_ ?_<;>intro qI nG
  ·refine bM ?_
   exact jL j ⟨ae,xz.trans (by simp only [jA];rw [if_pos (by simpa using nG)])⟩
  ·refine bD ?_
   refine ak rfl adX ?_
   refine aA ?_
   rw [xz,jA,if_neg (by simpa using nG)]
   exact we rfl .ref rfl rfl (a7 gv _)
 ·have lS:k=0:=by omega
  subst lS
  refine pU ?_
  refine ak rfl adX ?_
  refine aA ?_
  rw [xz]
  exact we rfl .ref rfl rfl (a7 gv _)
theorem aET (l:List Nat) (n:Nat) (hn:n=l.length) (hl:n<=4611686018427387904) (h0:0<n):nO an 149 ⟨1,l.map bw,true⟩ [.ref 0 1 0 n] (.ref 0 1 0 (jA n l)) ⟨1,l.map bw,true⟩:=by
 subst hn;exact aCv l hl h0
theorem aul (x s:Nat) (fV:(ao x).length<=1099511627776) (hs:s<32):pW an 277 [bj x,ai s] (.ref 1 1 0 ((ao x).length+1)) [⟨1,(je ((ao x).length+1) (x*2 ^ s)).map bw,true⟩]:=by
 have:=aJ1 (ao x) s (cT x) fV hs
 rw [cq] at this
 exact this
theorem val_one (x:Nat):val [x]=x:=by simp [val]
theorem aqS {x:Nat} (h:x<=32):(32:Int)-(x:Int)=((32-x:Nat):Int):=by omega
namespace acL
theorem aO {p q:Prop} (k:q) (e:p=q:=by simp only [e1,e2,e3,e4,p1,p2,p3,q1,q2,q3,l1,t0,t1,r1,r2,r3,r4,Nat.zero_add,Nat.reduceMul,Nat.reduceAdd,b1,b2,b3,b4,b5,b6,i1,i2,i3,i4,i5,i6,Nat.reduceBEq,gk,cq,ej,ek,es,eV,p6,oY,rS,td,tX,pC,re,kJ,u9,uT,qq,sb,List.set_set,List.length_set,Nat.add_mod_mod,s6,tj,ny,kA];exact rfl):p:=e.mpr k
theorem wU {p q:Prop} (k:q) (e:p=q:=by simp only [e1,e2,e3,e4,p1,p2,p3,q1,q2,q3,l1,t0,t1,r1,r2,r3,r4,Nat.zero_add,Nat.reduceMul,Nat.reduceAdd,b1,b2,b3,b4,b5,b6,i1,i2,i3,i4,i5,i6,Nat.reduceBEq,gk,cq,ej,ek,es,eV,p6,oY,rS,td,tX,pC,re,kJ,u9,uT,qq,sb,List.set_set,List.length_set,Nat.add_mod_mod,s6,tj,ny,kA,tX];exact rfl):p:=e.mpr k
theorem ux {p:Prop} (h:p:=by first | (refine wU ?_;exact rfl) | exact rfl):p:=h
theorem amz {p q:Prop} (k:q) (e:p=q:=by simp only [e1,e2,e3,e4,p1,p2,p3,q1,q2,q3,l1,t0,t1,r1,r2,r3,r4,Nat.zero_add,Nat.reduceMul,Nat.reduceAdd,b1,b2,b3,b4,b5,b6,i1,i2,i3,i4,i5,i6,Nat.reduceBEq,gk,cq,ej,ek,es,eV,p6,oY,rS,td,tX,pC,re,kJ,u9,uT,qq,sb,List.set_set,List.length_set,Nat.add_mod_mod,s6,tj,ny,kA,val_one];exact rfl):p:=e.mpr k
theorem nf2 {p:Prop} (h:p:=by first | (refine amz ?_;exact rfl) | exact rfl):p:=h
theorem aAO {p q:Prop} (k:q) (e:p=q:=by simp only [e1,e2,e3,e4,p1,p2,p3,q1,q2,q3,l1,t0,t1,r1,r2,r3,r4,Nat.zero_add,Nat.reduceMul,Nat.reduceAdd,b1,b2,b3,b4,b5,b6,i1,i2,i3,i4,i5,i6,Nat.reduceBEq,gk,cq,ej,ek,es,eV,p6,oY,rS,td,tX,pC,re,kJ,u9,uT,qq,sb,List.set_set,List.length_set,Nat.add_mod_mod,s6,tj,ny,kA,adx,td];exact rfl):p:=e.mpr k
theorem nf3 {p:Prop} (h:p:=by first | (refine aAO ?_;exact rfl) | exact rfl):p:=h
theorem apS {p q:Prop} (k:q) (e:p=q:=by simp only [e1,e2,e3,e4,p1,p2,p3,q1,q2,q3,l1,t0,t1,r1,r2,r3,r4,Nat.zero_add,Nat.reduceMul,Nat.reduceAdd,b1,b2,b3,b4,b5,b6,i1,i2,i3,i4,i5,i6,Nat.reduceBEq,gk,cq,ej,ek,es,eV,p6,oY,rS,td,tX,pC,re,kJ,u9,uT,qq,sb,List.set_set,List.length_set,Nat.add_mod_mod,s6,tj,ny,kA,kA];exact rfl):p:=e.mpr k
theorem nf4 {p:Prop} (h:p:=by first | (refine apS ?_;exact rfl) | exact rfl):p:=h
theorem fv {p:Prop} (h:p:=by first | rfl | (refine apS ?_;first | exact trivial | rfl | (congr 3<;>omega) | (congr 2<;>omega))):p:=h
theorem aBb {p q:Prop} (k:q) (e:p=q:=by simp only [e1,e2,e3,e4,p1,p2,p3,q1,q2,q3,l1,t0,t1,r1,r2,r3,r4,Nat.zero_add,Nat.reduceMul,Nat.reduceAdd,b1,b2,b3,b4,b5,b6,i1,i2,i3,i4,i5,i6,Nat.reduceBEq,gk,cq,ej,ek,es,eV,p6,oY,rS,td,tX,pC,re,kJ,u9,uT,qq,sb,List.set_set,List.length_set,Nat.add_mod_mod,s6,tj,ny,kA,kA,td];exact rfl):p:=e.mpr k
theorem tQ {p:Prop} (h:p:=by first | rfl | (refine aBb ?_;first | exact trivial | rfl | (congr 3<;>omega) | (congr 2<;>omega))):p:=h
theorem aDs {p q:Prop} (k:q) (e:p=q:=by simp only [e1,e2,e3,e4,p1,p2,p3,q1,q2,q3,l1,t0,t1,r1,r2,r3,r4,Nat.zero_add,Nat.reduceMul,Nat.reduceAdd,b1,b2,b3,b4,b5,b6,i1,i2,i3,i4,i5,i6,Nat.reduceBEq,gk,cq,ej,ek,es,eV,p6,oY,rS,td,tX,pC,re,kJ,u9,uT,qq,sb,List.set_set,List.length_set,Nat.add_mod_mod,s6,tj,ny,kA,<-hT];exact rfl):p:=e.mpr k
theorem nf6 {p:Prop} (h:p:=by first | (refine aDs ?_;exact rfl) | exact rfl):p:=h
end acL
open acL in
theorem aJW (b ul ql:List Nat) (n s m q0 j:Nat) (kA:(ao (val b*2 ^ s)).length=n+2) (kK:n+2<=m) (oH:m<=1099511627776) (px:q0=m+1-(n+2)) (hk:j+1<=q0) (mW:ul.length=m+1) (jV:ql.length=q0) (gV:bY ul) (mO:bY ql) (uU:2147483648<=(ao (val b*2 ^ s)).getD (n+1) 0) (kD:0<(val b*2 ^ s)) (wc:(val b*2 ^ s)<4294967296 ^ (n+2)) (bH:val ul<(val b*2 ^ s)*4294967296 ^ (j+1)) {Q:ku->St->Prop} (L1:St)
  (hQ:∀ (x:Nat) (L2:St),(val ul/4294967296 ^ j/(val b*2 ^ s)<=x/\x<=val ul/4294967296 ^ j/(val b*2 ^ s)+1/\x<4294967296)->Q .normal ((((((((St.mk L2.slot (hp [(1001057,⟨1,ul.map bw,true⟩),(1001105,⟨1,(je ((ao (val b)).length+1) (val b*2 ^ s)).map bw,false⟩),(77,⟨1,ql.map bw,true⟩)])).put (some 4) (.ref 77 1 0 q0)).put (some 9) (ai s)).put (some 10) (.ref 1001057 1 0 (m+1))).put (some 11) (bj (val b*2 ^ s))).put (some 12) (ai (n+2))).put (some 13) (iL (((j+1:Nat):Int)-1))).put (some 15) (cS x))) :
  cP an ((abU afE [1,1,1,1,1,1,1,0,1,0,0,1,0,0,1,1,0]).getD .skip) Q (((((((((St.mk L1.slot (hp [(1001057,⟨1,ul.map bw,true⟩),(1001105,⟨1,(je ((ao (val b)).length+1) (val b*2 ^ s)).map bw,false⟩),(77,⟨1,ql.map bw,true⟩)])).put (some 4) (.ref 77 1 0 q0)).put (some 9) (ai s)).put (some 10) (.ref 1001057 1 0 (m+1))).put (some 11) (bj (val b*2 ^ s))).put (some 12) (ai (n+2))).put (some 13) (iL (((j+1:Nat):Int)-1))).put (some 15) (cS ((ul.getD (n+2+j) 0*4294967296+ul.getD (n+1+j) 0)/(ao (val b*2 ^ s)).getD (n+1) 0))).put (some 16) (cS ((ul.getD (n+2+j) 0*4294967296+ul.getD (n+1+j) 0) % (ao (val b*2 ^ s)).getD (n+1) 0))):=by
 have ej:True:=trivial
 have ek:True:=trivial
 have es:True:=trivial
 have eV:True:=trivial
 have p6:True:=trivial
 have oY:True:=trivial
 have rS:True:=trivial
 have td:True:=trivial
 have tX:True:=trivial
 have pC:True:=trivial
 have re:True:=trivial
 have kJ:True:=trivial
 have u9:True:=trivial
 have uT:True:=trivial
 have qq:True:=trivial
 have sb:True:=trivial
 have s6:True:=trivial
 have tj:True:=trivial
 have ny:True:=trivial
 have p6:((j:Int)+((n+2:Nat):Int)).toNat=n+2+j:=by omega
 have oY:((j:Int)+((n+2:Nat):Int)-1).toNat=n+1+j:=by omega
 have rS:((j:Int)+((n+2:Nat):Int)-2).toNat=n+j:=by omega
 have pC:(((n+2:Nat):Int)-1).toNat=n+1:=by omega
 have re:(((n+2:Nat):Int)-2).toNat=n:=by omega
 have ek:(((j+1:Nat):Int)-1)=(j:Int):=by omega
 have agG:=jc ((val b*2 ^ s)) (n+1)
 have aaI:=jc ((val b*2 ^ s)) n
 have hu0:=jo gV (n+2+j)
 have hu1:=jo gV (n+1+j)
 have w9:=jo gV (n+j)
 obtain⟨vl,rl,sN,nE,hVe,hRe,hRV⟩:=amQ (j:=j) kA ae gV bH
 have hun:=aJ0 hVe hRe sN aaI hRV
 have am9:=aIv hVe hRe nE w9 ae
 have hqB:val ul/4294967296 ^ j/(val b*2 ^ s)<4294967296:=by rw [ot kD,fA];exact hRV
 refine ae4 rfl ?_
 refine av ?_
 refine ma (fun(x rest:Nat) L=>(((((((((St.mk L.slot (hp [(1001057,⟨1,ul.map bw,true⟩),(1001105,⟨1,(je ((ao (val b)).length+1) (val b*2 ^ s)).map bw,false⟩),(77,⟨1,ql.map bw,true⟩)])).put (some 4) (.ref 77 1 0 q0)).put (some 9) (ai s)).put (some 10) (.ref 1001057 1 0 (m+1))).put (some 11) (bj (val b*2 ^ s))).put (some 12) (ai (n+2))).put (some 13) (iL (((j+1:Nat):Int)-1))).put (some 15) (cS x)).put (some 16) (cS rest))) (fun x rest=>val ul/4294967296 ^ j/(val b*2 ^ s)<=x/\x*(ao (val b*2 ^ s)).getD (n+1) 0+rest=(ul.getD (n+2+j) 0*4294967296+ul.getD (n+1+j) 0)/\rest<4294967296) (fun x rest=>x) ((ul.getD (n+2+j) 0*4294967296+ul.getD (n+1+j) 0)/(ao (val b*2 ^ s)).getD (n+1) 0) ((ul.getD (n+2+j) 0*4294967296+ul.getD (n+1+j) 0) % (ao (val b*2 ^ s)).getD (n+1) 0) ⟨am9,by rw [fA];exact ac1 _ _,Nat.lt_trans (mA _ ae) agG⟩ ?_
 rintro x rest L2 ⟨hx,xw,arL⟩
 have hxt:x<=x*(ao (val b*2 ^ s)).getD (n+1) 0:=Nat.le_mul_of_pos_right _ ae
 refine aT ?_
 refine a9 24 aq ?_
 refine aQ ?_
 refine ez 120 rfl ?_ ?_<;>intro aKN aKO
 ·have hxd:val ul/4294967296 ^ j/(val b*2 ^ s)<=x-1:=by omega
  have iO:1<=x:=by omega
  refine amL ?_
  have aec:(x-1)*(ao (val b*2 ^ s)).getD (n+1) 0+(rest+(ao (val b*2 ^ s)).getD (n+1) 0)=(ul.getD (n+2+j) 0*4294967296+ul.getD (n+1+j) 0):=by
   have e:(x-1)*(ao (val b*2 ^ s)).getD (n+1) 0+(ao (val b*2 ^ s)).getD (n+1) 0=x*(ao (val b*2 ^ s)).getD (n+1) 0:=by rw [<-v9];congr 1;omega
   omega
  refine wP ?_
  refine aH rfl ?_ ?_<;>intro aBH aFZ
  ·have lX:=ayb (u2:=ul.getD (n+j) 0) aec hun hu1 aaI ae
   refine aA ?_
   exact aum
  ·refine aQ ?_
   exact jh (x-1) (rest+(ao (val b*2 ^ s)).getD (n+1) 0) ⟨hxd,aec,ae⟩
 ·have hmul:=vI (show x<4294967296 by omega) aaI
  refine abi ?_
  refine aH rfl ?_ ?_<;>intro aLB aIf
  ·have iO:1<=x:=by
    rcases Nat.eq_zero_or_pos x with e | e
    ·rw [e,ad6] at aIf;omega
    ·exact e
   have hxd:val ul/4294967296 ^ j/(val b*2 ^ s)<=x-1:=by have:=aAt hVe hRe nE kD xw ae;omega
   refine aA ?_
   have aec:(x-1)*(ao (val b*2 ^ s)).getD (n+1) 0+(rest+(ao (val b*2 ^ s)).getD (n+1) 0)=(ul.getD (n+2+j) 0*4294967296+ul.getD (n+1+j) 0):=by
    have e:(x-1)*(ao (val b*2 ^ s)).getD (n+1) 0+(ao (val b*2 ^ s)).getD (n+1) 0=x*(ao (val b*2 ^ s)).getD (n+1) 0:=by rw [<-v9];congr 1;omega
    omega
   refine wP ?_
   refine aH rfl ?_ ?_<;>intro aBH aFZ
   ·have lX:=ayb (u2:=ul.getD (n+j) 0) aec hun hu1 aaI ae
    refine aA ?_
    exact aum
   ·refine aQ ?_
    exact jh (x-1) (rest+(ao (val b*2 ^ s)).getD (n+1) 0) ⟨hxd,aec,ae⟩
  ·refine aA ?_
   exact ack (hQ (x) _ ⟨hx,ar9 hVe hRe sN ae kD xw ae ae,ae⟩) (al (al (al (al (al (al (al (bK cl) cl) cl) cl) cl) cl) cl) cl)
open acL in
theorem aEI (b ul ql:List Nat) (n s m q0 j:Nat) (kA:(ao (val b*2 ^ s)).length=n+2) (kK:n+2<=m) (oH:m<=1099511627776) (px:q0=m+1-(n+2)) (hk:j+1<=q0) (mW:ul.length=m+1) (jV:ql.length=q0) (gV:bY ul) (mO:bY ql) (uU:2147483648<=(ao (val b*2 ^ s)).getD (n+1) 0) (kD:0<(val b*2 ^ s)) (wc:(val b*2 ^ s)<4294967296 ^ (n+2)) (bH:val ul<(val b*2 ^ s)*4294967296 ^ (j+1)) (x:Nat) (fh:val ul/4294967296 ^ j/(val b*2 ^ s)<=x) (hxB:x<4294967296) {Q:ku->St->Prop} (L1:St)
  (hQ:∀ (wl:List Nat) (c:Nat) (br:Nat) (L2:St),(wl.length=m+1/\bY wl/\c<4294967296/\br<=1/\val wl+4294967296 ^ j*(x*(val b*2 ^ s))=val ul+4294967296 ^ (n+2+j)*(c+br)/\∀ p,n+2+j<=p->wl.getD p 0=ul.getD p 0)->Q .normal ((((((((((St.mk L2.slot (hp [(1001057,⟨1,wl.map bw,true⟩),(1001105,⟨1,(je ((ao (val b)).length+1) (val b*2 ^ s)).map bw,false⟩),(77,⟨1,ql.map bw,true⟩)])).put (some 4) (.ref 77 1 0 q0)).put (some 9) (ai s)).put (some 10) (.ref 1001057 1 0 (m+1))).put (some 11) (bj (val b*2 ^ s))).put (some 12) (ai (n+2))).put (some 13) (iL (((j+1:Nat):Int)-1))).put (some 15) (cS x)).put (some 17) (cS br)).put (some 18) (cS c))) :
  cP an ((abU afE [1,1,1,1,1,1,1,0,1,0,0,1,0,0,1,1,1,1,0,1]).getD .skip) Q (((((((((((((St.mk L1.slot (hp [(1001057,⟨1,ul.map bw,true⟩),(1001105,⟨1,(je ((ao (val b)).length+1) (val b*2 ^ s)).map bw,false⟩),(77,⟨1,ql.map bw,true⟩)])).put (some 4) (.ref 77 1 0 q0)).put (some 9) (ai s)).put (some 10) (.ref 1001057 1 0 (m+1))).put (some 11) (bj (val b*2 ^ s))).put (some 12) (ai (n+2))).put (some 13) (iL (((j+1:Nat):Int)-1))).put (some 15) (cS x)).put (some 17) (cS 0)).put (some 18) (cS 0)).put (some 154) (bj (val b*2 ^ s))).put (some 155) (ai (n+2))).put (some 156) (ai 0)):=by
 have ej:True:=trivial
 have ek:True:=trivial
 have es:True:=trivial
 have eV:True:=trivial
 have p6:True:=trivial
 have oY:True:=trivial
 have rS:True:=trivial
 have td:True:=trivial
 have tX:True:=trivial
 have pC:True:=trivial
 have re:True:=trivial
 have kJ:True:=trivial
 have u9:True:=trivial
 have uT:True:=trivial
 have qq:True:=trivial
 have sb:True:=trivial
 have s6:True:=trivial
 have tj:True:=trivial
 have ny:True:=trivial
 have p6:((j:Int)+((n+2:Nat):Int)).toNat=n+2+j:=by omega
 have oY:((j:Int)+((n+2:Nat):Int)-1).toNat=n+1+j:=by omega
 have rS:((j:Int)+((n+2:Nat):Int)-2).toNat=n+j:=by omega
 have pC:(((n+2:Nat):Int)-1).toNat=n+1:=by omega
 have re:(((n+2:Nat):Int)-2).toNat=n:=by omega
 have ek:(((j+1:Nat):Int)-1)=(j:Int):=by omega
 have agG:=jc ((val b*2 ^ s)) (n+1)
 have aaI:=jc ((val b*2 ^ s)) n
 have hu0:=jo gV (n+2+j)
 have hu1:=jo gV (n+1+j)
 have w9:=jo gV (n+j)
 refine ae4 rfl ?_
 refine av ?_
 refine lp4 (fun(i:Nat) (wl:List Nat) (c br:Nat) L=>(((((((((((((St.mk L.slot (hp [(1001057,⟨1,wl.map bw,true⟩),(1001105,⟨1,(je ((ao (val b)).length+1) (val b*2 ^ s)).map bw,false⟩),(77,⟨1,ql.map bw,true⟩)])).put (some 4) (.ref 77 1 0 q0)).put (some 9) (ai s)).put (some 10) (.ref 1001057 1 0 (m+1))).put (some 11) (bj (val b*2 ^ s))).put (some 12) (ai (n+2))).put (some 13) (iL (((j+1:Nat):Int)-1))).put (some 15) (cS x)).put (some 17) (cS br)).put (some 18) (cS c)).put (some 154) (bj (val b*2 ^ s))).put (some 155) (ai (n+2))).put (some 156) (ai i))) (fun i wl c br=>i<=n+2/\wl.length=m+1/\bY wl/\c<4294967296/\br<=1/\val wl+4294967296 ^ j*(x*val ((ao (val b*2 ^ s)).take i))=val ul+4294967296 ^ (i+j)*(c+br)/\∀ p,n+2+j<=p->wl.getD p 0=ul.getD p 0) (fun i wl c br=>n+2-i) 0 ul 0 0 ⟨b8 _,mW,gV,ae,ae,by simp [val],fun _ _=>rfl⟩ (h0:=⟨_,az.of_eq (al (al (al (al (al (al (al (al (al (al (al (al (bK fv) fv) fv) fv) fv) fv) fv) fv) fv) fv) fv) fv) fv)⟩) ?_
 rintro i wl c br L3 ⟨hi,jb,iD,hc,oC,hv5,hz5⟩
 have kJ:((i:Int)+(j:Int)).toNat=i+j:=by omega
 have hvi:=jc (val b*2 ^ s) i
 have hmul:=vI hxB hvi
 have hwi:=jo iD (i+j)
 refine aC ?_
 refine aH rfl ?_ ?_<;>intro aLu aKW
 ·refine auh ?_
  refine ak rfl (.bin rfl rfl (aFi)) ?_
  refine ak rfl (.bin rfl rfl (ae7 ae)) ?_
  refine av ?_
  refine ak rfl (.bin rfl rfl (ae7 ae)) ?_
  refine auh ?_
  exact rP (i+1) (wl.set (i+j) (((18446744073709551616+(18446744073709551616+wl.getD (i+j) 0-(c+x*(ao (val b*2 ^ s)).getD i 0) % 4294967296) % 18446744073709551616-br) % 18446744073709551616) % 4294967296)) ((c+x*(ao (val b*2 ^ s)).getD i 0)/4294967296) (((18446744073709551616+(18446744073709551616+wl.getD (i+j) 0-(c+x*(ao (val b*2 ^ s)).getD i 0) % 4294967296) % 18446744073709551616-br) % 18446744073709551616)/9223372036854775808) (by
   obtain⟨g1,g2,g3⟩:=azQ ae iD oC hv5 (c1:=(c+x*(ao (val b*2 ^ s)).getD i 0)) rfl rfl
   exact⟨ae,by simp [jb],g2,ae,g1,g3,fun p hp=>by rw [Go.Lg.getD_set_ne _ _ _ _ ae];exact hz5 p hp⟩) (he:=az.of_eq (al (al (al (al (al (al (al (al (al (al (al (al (bK fv) fv) fv) fv) fv) fv) fv) fv) fv) fv) fv) fv) fv))
 ·obtain rfl:i=n+2:=by omega
  rw [dg ae,cq] at hv5
  refine aA ?_
  exact ack (hQ (wl) (c) (br) _ ⟨jb,iD,hc,oC,hv5,hz5⟩) (al (al (al (al (al (al (al (al (al (bK cl) cl) cl) cl) cl) cl) cl) cl) cl) cl)
open acL in
theorem aHi (b ul ql:List Nat) (n s m q0 j:Nat) (kA:(ao (val b*2 ^ s)).length=n+2) (kK:n+2<=m) (oH:m<=1099511627776) (px:q0=m+1-(n+2)) (hk:j+1<=q0) (mW:ul.length=m+1) (jV:ql.length=q0) (gV:bY ul) (mO:bY ql) (uU:2147483648<=(ao (val b*2 ^ s)).getD (n+1) 0) (kD:0<(val b*2 ^ s)) (wc:(val b*2 ^ s)<4294967296 ^ (n+2)) (bH:val ul<(val b*2 ^ s)*4294967296 ^ (j+1)) (x:Nat) (fh:val ul/4294967296 ^ j/(val b*2 ^ s)<=x) (pK:x<=val ul/4294967296 ^ j/(val b*2 ^ s)+1) (hxB:x<4294967296) (wl:List Nat) (c br:Nat) (jb:wl.length=m+1) (iD:bY wl) (hc:c<4294967296) (oC:br<=1) (hv5:val wl+4294967296 ^ j*(x*(val b*2 ^ s))=val ul+4294967296 ^ (n+2+j)*(c+br)) (hz5:∀ p,n+2+j<=p->wl.getD p 0=ul.getD p 0) {Q:ku->St->Prop} (L1:St)
  (hQ:∀ (w4:List Nat) (x4:Nat) (L2:St),(x4=val ul/4294967296 ^ j/(val b*2 ^ s)/\w4.length=m+1/\bY w4/\val w4+4294967296 ^ j*(x4*(val b*2 ^ s))=val ul)->Q .normal ((((((((St.mk L2.slot (hp [(1001057,⟨1,w4.map bw,true⟩),(1001105,⟨1,(je ((ao (val b)).length+1) (val b*2 ^ s)).map bw,false⟩),(77,⟨1,ql.map bw,true⟩)])).put (some 4) (.ref 77 1 0 q0)).put (some 9) (ai s)).put (some 10) (.ref 1001057 1 0 (m+1))).put (some 11) (bj (val b*2 ^ s))).put (some 12) (ai (n+2))).put (some 13) (iL (((j+1:Nat):Int)-1))).put (some 15) (cS x4))) :
  cP an ((abU afE [1,1,1,1,1,1,1,0,1,0,0,1,0,0,1,1,1,1,1,1,1,0,1]).getD .skip) Q ((((((((((St.mk L1.slot (hp [(1001057,⟨1,(wl.set (n+2+j) (((18446744073709551616+(18446744073709551616+wl.getD (n+2+j) 0-c) % 18446744073709551616-br) % 18446744073709551616) % 4294967296)).map bw,true⟩),(1001105,⟨1,(je ((ao (val b)).length+1) (val b*2 ^ s)).map bw,false⟩),(77,⟨1,ql.map bw,true⟩)])).put (some 4) (.ref 77 1 0 q0)).put (some 9) (ai s)).put (some 10) (.ref 1001057 1 0 (m+1))).put (some 11) (bj (val b*2 ^ s))).put (some 12) (ai (n+2))).put (some 13) (iL (((j+1:Nat):Int)-1))).put (some 15) (cS x)).put (some 22) (cS ((18446744073709551616+(18446744073709551616+wl.getD (n+2+j) 0-c) % 18446744073709551616-br) % 18446744073709551616))).put (some 211) (.v (.bool (((((18446744073709551616+(18446744073709551616+wl.getD (n+2+j) 0-c) % 18446744073709551616-br) % 18446744073709551616)/9223372036854775808:Nat):Int) != 0)))):=by
 have ej:True:=trivial
 have ek:True:=trivial
 have es:True:=trivial
 have eV:True:=trivial
 have p6:True:=trivial
 have oY:True:=trivial
 have rS:True:=trivial
 have td:True:=trivial
 have tX:True:=trivial
 have pC:True:=trivial
 have re:True:=trivial
 have kJ:True:=trivial
 have u9:True:=trivial
 have uT:True:=trivial
 have qq:True:=trivial
 have sb:True:=trivial
 have s6:True:=trivial
 have tj:True:=trivial
 have ny:True:=trivial
 have p6:((j:Int)+((n+2:Nat):Int)).toNat=n+2+j:=by omega
 have oY:((j:Int)+((n+2:Nat):Int)-1).toNat=n+1+j:=by omega
 have rS:((j:Int)+((n+2:Nat):Int)-2).toNat=n+j:=by omega
 have pC:(((n+2:Nat):Int)-1).toNat=n+1:=by omega
 have re:(((n+2:Nat):Int)-2).toNat=n:=by omega
 have ek:(((j+1:Nat):Int)-1)=(j:Int):=by omega
 have agG:=jc ((val b*2 ^ s)) (n+1)
 have aaI:=jc ((val b*2 ^ s)) n
 have hu0:=jo gV (n+2+j)
 have hu1:=jo gV (n+1+j)
 have w9:=jo gV (n+j)
 have hz:=aia (n:=n+2) (j:=j) wc bH
 obtain⟨ahw,xZ,hv6⟩:=apx (n:=n+2) ae iD oC hc hv5 rfl rfl
 have lj:=jo iD (n+2+j)
 refine ae4 rfl ?_
 refine aH rfl ?_ ?_<;>intro aLb aKY
 ·have ki:((18446744073709551616+(18446744073709551616+wl.getD (n+2+j) 0-c) % 18446744073709551616-br) % 18446744073709551616)/9223372036854775808=1:=by omega
  have hgt:=aDJ (V:=(val b*2 ^ s)) (n:=n+2) (j:=j) (x:=x) (ul:=(wl.set (n+2+j) (((18446744073709551616+(18446744073709551616+wl.getD (n+2+j) 0-c) % 18446744073709551616-br) % 18446744073709551616) % 4294967296))) (ul0:=ul) (by rw [hv6,ki,jR]) (aGe ahw (fun p hp=>by rw [Go.Lg.getD_set_ne _ _ _ _ ae,hz5 p ae];exact hz p hp)) kD
  have iO:1<=x:=uP (b8 _) hgt
  refine aQ ?_
  refine ak rfl (.bin rfl rfl (atm (show 1<=x by omega) ae)) ?_
  refine jI ?_
  refine uE (fun(ii:Nat) (w3:List Nat) (c3:Nat) L=>((((((((((((St.mk L.slot (hp [(1001057,⟨1,w3.map bw,true⟩),(1001105,⟨1,(je ((ao (val b)).length+1) (val b*2 ^ s)).map bw,false⟩),(77,⟨1,ql.map bw,true⟩)])).put (some 4) (.ref 77 1 0 q0)).put (some 9) (ai s)).put (some 10) (.ref 1001057 1 0 (m+1))).put (some 11) (bj (val b*2 ^ s))).put (some 12) (ai (n+2))).put (some 13) (iL (((j+1:Nat):Int)-1))).put (some 15) (cS (x-1))).put (some 18) (cS c3)).put (some 214) (bj (val b*2 ^ s))).put (some 215) (ai (n+2))).put (some 216) (ai ii))) (fun ii w3 c3=>ii<=n+2/\w3.length=m+1/\bY w3/\c3<=1/\val w3+4294967296 ^ (ii+j)*c3=val (wl.set (n+2+j) (((18446744073709551616+(18446744073709551616+wl.getD (n+2+j) 0-c) % 18446744073709551616-br) % 18446744073709551616) % 4294967296))+4294967296 ^ j*val ((ao (val b*2 ^ s)).take ii)/\∀ p,n+2+j+1<=p->w3.getD p 0=0) (fun ii w3 c3=>n+2-ii) 0 (wl.set (n+2+j) (((18446744073709551616+(18446744073709551616+wl.getD (n+2+j) 0-c) % 18446744073709551616-br) % 18446744073709551616) % 4294967296)) 0 ⟨b8 _,by simp [jb],ahw,ae,by simp [val],fun p hp=>by rw [Go.Lg.getD_set_ne _ _ _ _ ae,hz5 p ae];exact hz p hp⟩ (h0:=⟨_,az.of_eq (al (al (al (al (al (al (al (al (al (al (al (bK fv) fv) fv) fv) fv) fv) fv) fv) fv) fv) fv) fv)⟩) ?_
  rintro ii w3 c3 L4 ⟨hi3,hw3,nS,hc3,hv7,hz7⟩
  have u9:((ii:Int)+(j:Int)).toNat=ii+j:=by omega
  have aLK:=jc (val b*2 ^ s) ii
  have aLq:=jo nS (ii+j)
  refine aC ?_
  refine aH rfl ?_ ?_<;>intro aLl aLa
  ·refine aEo ?_
   exact ui (ii+1) (w3.set (ii+j) ((c3+(w3.getD (ii+j) 0+(ao (val b*2 ^ s)).getD ii 0)) % 4294967296)) ((c3+(w3.getD (ii+j) 0+(ao (val b*2 ^ s)).getD ii 0))/4294967296) (by
    obtain⟨g1,g2⟩:=azC ae nS hv7 (s:=(c3+(w3.getD (ii+j) 0+(ao (val b*2 ^ s)).getD ii 0))) rfl
    exact⟨ae,by simp [hw3],g1,ae,g2,fun p hp=>by rw [Go.Lg.getD_set_ne _ _ _ _ ae];exact hz7 p hp⟩) (he:=az.of_eq (al (al (al (al (al (al (al (al (al (al (al (bK fv) fv) fv) fv) fv) fv) fv) fv) fv) fv) fv) fv))
  ·obtain rfl:ii=n+2:=by omega
   rw [dg ae,cq] at hv7
   have aLf:=jo nS (n+2+j)
   have hxe:x-1=val ul/4294967296 ^ j/(val b*2 ^ s):=by omega
   have aDt:4294967296 ^ j*((x-1)*(val b*2 ^ s))<=val ul:=by rw [hxe];exact ba (kv _ (arh _ _)) (Nat.mul_div_le _ _)
   have lX:=aDR (ul:=(wl.set (n+2+j) (((18446744073709551616+(18446744073709551616+wl.getD (n+2+j) 0-c) % 18446744073709551616-br) % 18446744073709551616) % 4294967296))) (ul0:=ul) (n:=n+2) (j:=j) (x:=x) (V:=(val b*2 ^ s)) (ul3:=w3) (c:=c3) ae aDt (by rw [hv6,ki,jR]) ae nS hz7 hc3 hv7 rfl
   refine dM ?_
   refine ak rfl (.bin rfl rfl (aGw)) ?_
   refine aQ ?_
   exact ack (hQ (w3.set (n+2+j) ((w3.getD (n+2+j) 0+c3) % 4294967296)) (x-1) _ ⟨hxe,by simp [hw3],lX.1,lX.2⟩) (al (al (al (al (al (al (al (bK cl) cl) cl) cl) cl) cl) cl) cl)
 ·have jM:((18446744073709551616+(18446744073709551616+wl.getD (n+2+j) 0-c) % 18446744073709551616-br) % 18446744073709551616)/9223372036854775808=0:=by omega
  rw [jM,aap,mS] at hv6
  have hxF:x=val ul/4294967296 ^ j/(val b*2 ^ s):=by have:=aBw hv6 kD;omega
  refine av ?_
  exact ack (hQ ((wl.set (n+2+j) (((18446744073709551616+(18446744073709551616+wl.getD (n+2+j) 0-c) % 18446744073709551616-br) % 18446744073709551616) % 4294967296))) (x) _ ⟨hxF,by simp [jb],ahw,hv6⟩) (al (al (al (al (al (al (al (bK cl) cl) cl) cl) cl) cl) cl) cl)
open acL in
theorem aJ4 (b ul ql:List Nat) (n s m q0 j:Nat) (kA:(ao (val b*2 ^ s)).length=n+2) (kK:n+2<=m) (oH:m<=1099511627776) (px:q0=m+1-(n+2)) (hk:j+1<=q0) (mW:ul.length=m+1) (jV:ql.length=q0) (gV:bY ul) (mO:bY ql) (uU:2147483648<=(ao (val b*2 ^ s)).getD (n+1) 0) (kD:0<(val b*2 ^ s)) (wc:(val b*2 ^ s)<4294967296 ^ (n+2)) (bH:val ul<(val b*2 ^ s)*4294967296 ^ (j+1)) {Q:ku->St->Prop} (L1:St)
  (hQ:∀ (w4:List Nat) (x4:Nat) (L2:St),(x4=val ul/4294967296 ^ j/(val b*2 ^ s)/\w4.length=m+1/\bY w4/\val w4+4294967296 ^ j*(x4*(val b*2 ^ s))=val ul)->Q .normal (((((((St.mk L2.slot (hp [(1001057,⟨1,w4.map bw,true⟩),(1001105,⟨1,(je ((ao (val b)).length+1) (val b*2 ^ s)).map bw,false⟩),(77,⟨1,(ql.set j (x4 % 4294967296)).map bw,true⟩)])).put (some 4) (.ref 77 1 0 q0)).put (some 9) (ai s)).put (some 10) (.ref 1001057 1 0 (m+1))).put (some 11) (bj (val b*2 ^ s))).put (some 12) (ai (n+2))).put (some 13) (iL (((j+1:Nat):Int)-1)))) :
  cP an ((abU afE [1,1,1,1,1,1,1,0,1,0,0,1,0]).getD .skip) Q (((((((St.mk L1.slot (hp [(1001057,⟨1,ul.map bw,true⟩),(1001105,⟨1,(je ((ao (val b)).length+1) (val b*2 ^ s)).map bw,false⟩),(77,⟨1,ql.map bw,true⟩)])).put (some 4) (.ref 77 1 0 q0)).put (some 9) (ai s)).put (some 10) (.ref 1001057 1 0 (m+1))).put (some 11) (bj (val b*2 ^ s))).put (some 12) (ai (n+2))).put (some 13) (iL (((j+1:Nat):Int)-1))):=by
 have ej:True:=trivial
 have ek:True:=trivial
 have es:True:=trivial
 have eV:True:=trivial
 have p6:True:=trivial
 have oY:True:=trivial
 have rS:True:=trivial
 have td:True:=trivial
 have tX:True:=trivial
 have pC:True:=trivial
 have re:True:=trivial
 have kJ:True:=trivial
 have u9:True:=trivial
 have uT:True:=trivial
 have qq:True:=trivial
 have sb:True:=trivial
 have s6:True:=trivial
 have tj:True:=trivial
 have ny:True:=trivial
 have p6:((j:Int)+((n+2:Nat):Int)).toNat=n+2+j:=by omega
 have oY:((j:Int)+((n+2:Nat):Int)-1).toNat=n+1+j:=by omega
 have rS:((j:Int)+((n+2:Nat):Int)-2).toNat=n+j:=by omega
 have pC:(((n+2:Nat):Int)-1).toNat=n+1:=by omega
 have re:(((n+2:Nat):Int)-2).toNat=n:=by omega
 have ek:(((j+1:Nat):Int)-1)=(j:Int):=by omega
 have agG:=jc ((val b*2 ^ s)) (n+1)
 have aaI:=jc ((val b*2 ^ s)) n
 have hu0:=jo gV (n+2+j)
 have hu1:=jo gV (n+1+j)
 have w9:=jo gV (n+j)
 have hz:=aia (n:=n+2) (j:=j) wc bH
 refine ae4 rfl ?_
 refine aT ?_
 refine a9 18 aq ?_
 refine aaN ?_
 refine a9 18 aq ?_
 refine aZ ?_
 refine ak rfl (.bin rfl rfl (ai6 (by simp only [pC,gk];omega) ae)) ?_
 refine aZ ?_
 refine ak rfl (.bin rfl rfl (amk (by simp only [pC,gk];omega))) ?_
 refine bc ?_
 refine afb (S:=fun L=>(((((((((St.mk L.slot (hp [(1001057,⟨1,ul.map bw,true⟩),(1001105,⟨1,(je ((ao (val b)).length+1) (val b*2 ^ s)).map bw,false⟩),(77,⟨1,ql.map bw,true⟩)])).put (some 4) (.ref 77 1 0 q0)).put (some 9) (ai s)).put (some 10) (.ref 1001057 1 0 (m+1))).put (some 11) (bj (val b*2 ^ s))).put (some 12) (ai (n+2))).put (some 13) (iL (((j+1:Nat):Int)-1))).put (some 15) (cS ((ul.getD (n+2+j) 0*4294967296+ul.getD (n+1+j) 0)/(ao (val b*2 ^ s)).getD (n+1) 0))).put (some 16) (cS ((ul.getD (n+2+j) 0*4294967296+ul.getD (n+1+j) 0) % (ao (val b*2 ^ s)).getD (n+1) 0)))) (al (al (al (al (al (al (al (al (bK cl) cl) cl) cl) cl) cl) cl) cl) cl) ?_
 refine aJW b ul ql n s m q0 j kA kK oH px hk mW jV gV mO uU kD wc bH _ ?_
 rintro x LQ ⟨fh,pK,hxB⟩
 refine iE ?_
 refine afb (S:=fun L=>(((((((((((((St.mk L.slot (hp [(1001057,⟨1,ul.map bw,true⟩),(1001105,⟨1,(je ((ao (val b)).length+1) (val b*2 ^ s)).map bw,false⟩),(77,⟨1,ql.map bw,true⟩)])).put (some 4) (.ref 77 1 0 q0)).put (some 9) (ai s)).put (some 10) (.ref 1001057 1 0 (m+1))).put (some 11) (bj (val b*2 ^ s))).put (some 12) (ai (n+2))).put (some 13) (iL (((j+1:Nat):Int)-1))).put (some 15) (cS x)).put (some 17) (cS 0)).put (some 18) (cS 0)).put (some 154) (bj (val b*2 ^ s))).put (some 155) (ai (n+2))).put (some 156) (ai 0))) (al (al (al (al (al (al (al (al (al (al (al (al (bK cl) cl) cl) cl) cl) cl) cl) cl) cl) cl) cl) cl) cl) ?_
 refine aEI b ul ql n s m q0 j kA kK oH px hk mW jV gV mO uU kD wc bH x fh hxB _ ?_
 rintro wl c br LQ ⟨jb,iD,hc,oC,hv5,hz5⟩
 obtain⟨ahw,xZ,hv6⟩:=apx (n:=n+2) ae iD oC hc hv5 rfl rfl
 have lj:=jo iD (n+2+j)
 refine bC ?_
 refine ak rfl (.bin rfl rfl (ae7 ae)) ?_
 refine av ?_
 refine ak rfl (.bin rfl rfl (ae7 ae)) ?_
 refine abi ?_
 refine afb (S:=fun L=>((((((((((St.mk L.slot (hp [(1001057,⟨1,(wl.set (n+2+j) (((18446744073709551616+(18446744073709551616+wl.getD (n+2+j) 0-c) % 18446744073709551616-br) % 18446744073709551616) % 4294967296)).map bw,true⟩),(1001105,⟨1,(je ((ao (val b)).length+1) (val b*2 ^ s)).map bw,false⟩),(77,⟨1,ql.map bw,true⟩)])).put (some 4) (.ref 77 1 0 q0)).put (some 9) (ai s)).put (some 10) (.ref 1001057 1 0 (m+1))).put (some 11) (bj (val b*2 ^ s))).put (some 12) (ai (n+2))).put (some 13) (iL (((j+1:Nat):Int)-1))).put (some 15) (cS x)).put (some 22) (cS ((18446744073709551616+(18446744073709551616+wl.getD (n+2+j) 0-c) % 18446744073709551616-br) % 18446744073709551616))).put (some 211) (.v (.bool (((((18446744073709551616+(18446744073709551616+wl.getD (n+2+j) 0-c) % 18446744073709551616-br) % 18446744073709551616)/9223372036854775808:Nat):Int) != 0))))) (al (al (al (al (al (al (al (al (al (bK cl) cl) cl) cl) cl) cl) cl) cl) cl) cl) ?_
 refine aHi b ul ql n s m q0 j kA kK oH px hk mW jV gV mO uU kD wc bH x fh pK hxB wl c br jb iD hc oC hv5 hz5 _ ?_
 rintro w4 x4 LQ ⟨hx4,hw4,hl4,hv8⟩
 have hRV:val ul/4294967296 ^ j<(val b*2 ^ s)*4294967296:=by
  obtain⟨_,_,_,_,_,_,h⟩:=amQ (j:=j) kA ae gV bH
  exact h
 have hqB:val ul/4294967296 ^ j/(val b*2 ^ s)<4294967296:=by rw [ot kD,fA];exact hRV
 have aj3:x4<4294967296:=by rw [hx4];exact hqB
 have avz:x4 % 4294967296=x4:=iW aj3
 refine bM ?_
 exact ack (hQ (w4) (x4) _ ⟨hx4,hw4,hl4,hv8⟩) (al (al (al (al (al (al (bK cl) cl) cl) cl) cl) cl) cl)
open acL in
theorem aBG (b ul ql:List Nat) (s m q0 T:Nat) (um:s<32) (oH:m<=1099511627776) (mW:ul.length=m+1) (gV:bY ul) (hTm:T<=m+1) (hTz:∀ p,T<=p->ul.getD p 0=0) (abc:ul.getD 0 0 % 2 ^ s=0) {Q:ku->St->Prop} (L1:St)
  (hQ:∀ (w:List Nat) (L2:St),(w.length=m+1/\bY w/\2 ^ s*val (w.take T)=val (ul.take T)+4294967296 ^ T*(ul.getD T 0 % 2 ^ s))->Q .normal (((St.mk L2.slot (hp [(1001057,⟨1,w.map bw,true⟩),(1001105,⟨1,(je ((ao (val b)).length+1) (val b*2 ^ s)).map bw,false⟩),(77,⟨1,ql.map bw,true⟩)])).put (some 4) (.ref 77 1 0 q0)).put (some 5) (.ref 1001057 1 0 T))) :
  cP an ((abU afE [1,1,1,1,1,1,1,1,1,0,1]).getD .skip) Q (((((((St.mk L1.slot (hp [(1001057,⟨1,ul.map bw,true⟩),(1001105,⟨1,(je ((ao (val b)).length+1) (val b*2 ^ s)).map bw,false⟩),(77,⟨1,ql.map bw,true⟩)])).put (some 4) (.ref 77 1 0 q0)).put (some 5) (.ref 1001057 1 0 T)).put (some 9) (ai s)).put (some 260) (.ref 1001057 1 0 T)).put (some 261) (ai T)).put (some 262) (ai 0)):=by
 have ej:True:=trivial
 have ek:True:=trivial
 have es:True:=trivial
 have eV:True:=trivial
 have p6:True:=trivial
 have oY:True:=trivial
 have rS:True:=trivial
 have td:True:=trivial
 have tX:True:=trivial
 have pC:True:=trivial
 have re:True:=trivial
 have kJ:True:=trivial
 have u9:True:=trivial
 have uT:True:=trivial
 have qq:True:=trivial
 have sb:True:=trivial
 have s6:True:=trivial
 have tj:True:=trivial
 have ny:True:=trivial
 have kA:True:=trivial
 refine ae4 rfl ?_
 refine av ?_
 refine ma (fun(i:Nat) (w:List Nat) L=>(((((((St.mk L.slot (hp [(1001057,⟨1,w.map bw,true⟩),(1001105,⟨1,(je ((ao (val b)).length+1) (val b*2 ^ s)).map bw,false⟩),(77,⟨1,ql.map bw,true⟩)])).put (some 4) (.ref 77 1 0 q0)).put (some 5) (.ref 1001057 1 0 T)).put (some 9) (ai s)).put (some 260) (.ref 1001057 1 0 T)).put (some 261) (ai T)).put (some 262) (ai i))) (fun i w=>i<=T/\w.length=m+1/\bY w/\(∀ p,i<=p->w.getD p 0=ul.getD p 0)/\2 ^ s*val (w.take i)=val (ul.take i)+4294967296 ^ i*(ul.getD i 0 % 2 ^ s)) (fun i w=>T-i) 0 ul ⟨b8 _,mW,gV,fun _ _=>rfl,by rw [abc];simp [val]⟩ ?_
 rintro i w L5 ⟨hi,jb,iD,hz9,hv9⟩
 have ny:((i:Int)+1).toNat=i+1:=by omega
 have hwi:=jo iD i
 have aLI:=jo gV (i+1)
 have qq:=hz9 i (bq _)
 have sb:=hz9 (i+1) ae
 have hui:=jo gV i
 obtain⟨hh1,hh2⟩:=anq (z:=ul.getD (i+1) 0) (show s<=32 by omega) hui
 have hh3:ul.getD i 0/2 ^ s<4294967296:=by omega
 refine aC ?_
 refine aH rfl ?_ ?_<;>intro aLg aLh
 ·have s6:(w.set i (ul.getD i 0/2 ^ s)).getD i 0=ul.getD i 0/2 ^ s:=asA _ _ _ ae
  have tj:(w.set i (ul.getD i 0/2 ^ s)).getD (i+1) 0=ul.getD (i+1) 0:=by rw [Go.Lg.getD_set_ne _ _ _ _ ae];exact sb
  refine jI ?_
  refine ak rfl (.sh rfl rfl (aeL (m:=s) (by show s<=32;omega))) ?_
  refine bD ?_
  refine ez 274 rfl ?_ ?_<;>intro aLe aLt
  ·refine bo ?_
   refine aH rfl ?_ ?_<;>intro aLo aLR
   ·refine a9 14 aq ?_
    refine bC ?_
    refine ak rfl (.sh rfl rfl (aGY (s:=s) ae)) ?_
    refine ak rfl (.bin rfl rfl (aGR (by simp only [e1,e2,e3,e4,p1,p2,p3,q1,q2,q3,l1,t0,t1,r1,r2,r3,r4,fF,aoR,afi,b1,b2,b3,b4,b5,b6,i1,i2,i3,i4,i5,i6,wF,gk,qq,sb,s6,tj,ny];exact hh1) (by simp only [e1,e2,e3,e4,p1,p2,p3,q1,q2,q3,l1,t0,t1,r1,r2,r3,r4,fF,aoR,afi,b1,b2,b3,b4,b5,b6,i1,i2,i3,i4,i5,i6,wF,gk,qq,sb,s6,tj,ny];exact hh2))) ?_
    refine bM ?_
    exact jh (i+1) (w.set i (ul.getD (i+1) 0 % 2 ^ s*2 ^ (32-s)+ul.getD i 0/2 ^ s)) ⟨ae,by simp [jb],nB iD _ _ hh2,fun p hp=>by rw [Go.Lg.getD_set_ne _ _ _ _ ae];exact hz9 p ae,aj5 ae um qq hv9 (qB _ _)⟩
   ·refine bo ?_
    exact jh (i+1) (w.set i (ul.getD i 0/2 ^ s)) ⟨ae,by simp [jb],nB iD _ _ hh3,fun p hp=>by rw [Go.Lg.getD_set_ne _ _ _ _ ae];exact hz9 p ae,aj5 ae um qq hv9 (by rw [hTz (i+1) ae];simp)⟩
  ·refine jI ?_
   exact jh (i+1) (w.set i (ul.getD i 0/2 ^ s)) ⟨ae,by simp [jb],nB iD _ _ hh3,fun p hp=>by rw [Go.Lg.getD_set_ne _ _ _ _ ae];exact hz9 p ae,aj5 ae um qq hv9 (by rw [show s=0 by omega];simp [Nat.mod_one])⟩
 ·obtain rfl:i=T:=by omega
  refine aA ?_
  exact ack (hQ (w) _ ⟨jb,iD,hv9⟩) (al (al (bK cl) cl) cl)
open acL in
theorem ajN (a b:List Nat) (ha:bY a) (hb:bY b) (fV:a.length<=1099511627776) (mH:b.length<=1099511627776) (gE:0<val b):ax an 236 [fj a,fj b] (.bf [bj (val a/val b),bj (val a % val b),iL 0]):=by
 have abX:=acD a ha fV
 have agX:=acD b hb mH
 have aLJ:(ao (val b)).length≠0:=fun h=>by have:=tv.1 (nM h);omega
 refine aW Tryz.func236 ?_
 have ej:True:=trivial
 have ek:True:=trivial
 have es:True:=trivial
 have eV:True:=trivial
 have p6:True:=trivial
 have oY:True:=trivial
 have rS:True:=trivial
 have td:True:=trivial
 have tX:True:=trivial
 have pC:True:=trivial
 have re:True:=trivial
 have kJ:True:=trivial
 have u9:True:=trivial
 have uT:True:=trivial
 have qq:True:=trivial
 have sb:True:=trivial
 have s6:True:=trivial
 have tj:True:=trivial
 have ny:True:=trivial
 have kA:True:=trivial
 refine bM ?_
 refine cp aR (su _ jf uj) ?_
 refine av ?_
 refine cp aR (su _ jf uj) ?_
 refine dM ?_
 refine aH rfl ?_ ?_<;>intro ad8 h30
 ·exfalso
  omega
 ·refine aA ?_
  refine cp au (ago _ _ jf jf ae ae) ?_
  refine aA ?_
  refine aH rfl ?_ ?_<;>intro aiB h34
  ·have bH:val a<val b:=by
    apply pY
    intro hh
    rcases atr (Nat.le_of_not_lt hh) with h | h
    ·rw [tZ h] at h34;omega
    ·rw [uX h.symm] at h34;omega
   refine aQ ?_
   refine cp aR (aeY _ ae) ?_
   refine bo ?_
   rw [abn bH,iW bH]
   exact acp [] rfl rfl (.nil 1) rfl (.pure (zG _)) rfl (.pure rfl)
  ·have kM:val b<=val a:=by
    apply pY
    intro hh
    rw [rI ae] at h34;omega
   refine bo ?_
   refine aH rfl ?_ ?_<;>intro adM h41
   ·have anl:val b<4294967296:=uJ.1 ae
    have ki:ao (val b)=[val b]:=ady gE anl
    have sL:(ao (val b)).getD 0 0=val b:=by rw [ki];rfl
    have tX:=sL
    have xG:=mA (val a) gE
    refine aC ?_
    refine cp au (aJM _ _ (cT _) ae (by show 0<(ao (val b)).getD 0 0;rw [sL];exact gE) (jc _ _)) ?_
    refine bc ?_
    refine uf ux ?_
    refine aC ?_
    refine tz [55] tC (su [val a % val b] (aCH ae) aM) ?_
    refine aQ ?_
    refine uf nf2 ?_
    refine aA ?_
    exact aev
   ·obtain⟨n,hn⟩:∃ n,(ao (val b)).length=n+2:=⟨(ao (val b)).length-2,ae⟩
    obtain⟨m,hm⟩:∃ m,(ao (val a)).length=m:=⟨_,rfl⟩
    have td:=hm
    have oH:m<=1099511627776:=by omega
    have kK:n+1+1<=m:=by rw [<-hm];have:=oT kM;omega
    have ej:(((ao (val b)).length:Int)-1).toNat=n+1:=by omega
    obtain⟨s,hs⟩:∃ s,s=32-dJ ((ao (val b)).getD (n+1) 0):=⟨_,rfl⟩
    have aFT:dJ ((ao (val b)).getD (n+1) 0)<=32:=wo.2 (jc _ _)
    have es:(32:Int)-((dJ ((ao (val b)).getD (n+1) 0):Nat):Int)=((s:Nat):Int):=by rw [aqS aFT,hs]
    obtain⟨um,kA,aip,wc⟩:=ate (n:=n+1) hn hs
    have kD:0<val b*2 ^ s:=mG gE (my ae)
    have eV:val (je ((ao (val b)).length+1) (val b*2 ^ s))=val b*2 ^ s:=anD (by rw [hn];exact yU wc (mh ae ae))
    have uU:=avp kA aip
    have agG:=jc (val b*2 ^ s) (n+1)
    have aaI:=jc (val b*2 ^ s) n
    obtain⟨aEO,aze⟩:=azE (n:=n+1) um hm kK aip
    obtain⟨q0,px⟩:∃ q0,q0=m+1-(n+2):=⟨_,rfl⟩
    have uT:((m:Int)+1-((n+2:Nat):Int))=((q0:Nat):Int):=by omega
    have pC:(((n+2:Nat):Int)-1).toNat=n+1:=by omega
    have re:(((n+2:Nat):Int)-2).toNat=n:=by omega
    have hB1:val (je (m+1) (val a*2 ^ s))=val a*2 ^ s:=anD aze
    refine bC ?_
    refine cp aR (aKs _ (jc _ _)) ?_
    refine aZ ?_
    refine aba [] rfl rfl (.cons (.pure (kH _)) (.cons (.pure rfl) .nil)) (aul (val a) s ae um) (a7 gv _) rfl ?_
    refine aT ?_
    refine aba [] rfl rfl (.cons (.pure (kH _)) (.cons (.pure rfl) .nil)) (aul (val b) s ae um) (a7 gv _) rfl ?_
    refine aid [1001105] rfl rfl (.cons (fI gv rfl rfl (adz _ _).symm) .nil) (su (je ((ao (val b)).length+1) (val b*2 ^ s)) (aon _ _) (by rw [adz];omega)) ?_
    refine aT ?_
    refine uf nf3 ?_
    refine aC ?_
    refine uf nf4 ?_
    refine aZ ?_
    refine fL rfl rfl (.nh (n:=q0) (m:=q0) ml ml om om om) ?_
    refine dH ?_
    refine uE (fun(k:Nat) (ul ql:List Nat) L=>(((((((St.mk L.slot (hp [(1001057,⟨1,ul.map bw,true⟩),(1001105,⟨1,(je ((ao (val b)).length+1) (val b*2 ^ s)).map bw,false⟩),(77,⟨1,ql.map bw,true⟩)])).put (some 4) (.ref 77 1 0 q0)).put (some 9) (ai s)).put (some 10) (.ref 1001057 1 0 (m+1))).put (some 11) (bj (val b*2 ^ s))).put (some 12) (ai (n+2))).put (some 13) (iL ((k:Int)-1)))) (fun k ul ql=>k<=q0/\ul.length=m+1/\ql.length=q0/\bY ul/\bY ql/\val ul+(val b*2 ^ s)*4294967296 ^ k*val (ql.drop k)=val a*2 ^ s/\val ul<(val b*2 ^ s)*4294967296 ^ k) (fun k ul ql=>k) q0 (je (m+1) (val a*2 ^ s)) (ay q0 0) ⟨bq _,adz _ _,by simp,aon _ _,wi _,by rw [kg aM,hB1];simp [val],by rw [hB1,px];exact aEO⟩ (h0:=⟨_,az.of_eq (al (al (al (al (al (al (bK tQ) tQ) tQ) tQ) tQ) tQ) tQ)⟩) ?_
    rintro k ul ql L1 ⟨hk,mW,jV,gV,mO,hv,bH⟩
    refine aZ ?_
    refine aH rfl ?_ ?_<;>intro aKF h82
    ·obtain⟨j,rfl⟩:∃ j,k=j+1:=⟨k-1,ae⟩
     have ek:(((j+1:Nat):Int)-1)=(j:Int):=by omega
     refine aQ ?_
     refine afb (S:=fun L=>(((((((St.mk L.slot (hp [(1001057,⟨1,ul.map bw,true⟩),(1001105,⟨1,(je ((ao (val b)).length+1) (val b*2 ^ s)).map bw,false⟩),(77,⟨1,ql.map bw,true⟩)])).put (some 4) (.ref 77 1 0 q0)).put (some 9) (ai s)).put (some 10) (.ref 1001057 1 0 (m+1))).put (some 11) (bj (val b*2 ^ s))).put (some 12) (ai (n+2))).put (some 13) (iL (((j+1:Nat):Int)-1)))) (al (al (al (al (al (al (bK cl) cl) cl) cl) cl) cl) cl) ?_
     refine aJ4 b ul ql n s m q0 j kA kK oH px hk mW jV gV mO uU kD wc bH _ ?_
     rintro w4 x4 LQ ⟨hx4,hw4,hl4,hv8⟩
     have hRV:val ul/4294967296 ^ j<(val b*2 ^ s)*4294967296:=by
      obtain⟨_,_,_,_,_,_,h⟩:=amQ (j:=j) kA ae gV bH
      exact h
     have hqB:val ul/4294967296 ^ j/(val b*2 ^ s)<4294967296:=by rw [ot kD,fA];exact hRV
     have aj3:x4<4294967296:=by rw [hx4];exact hqB
     have avz:x4 % 4294967296=x4:=iW aj3
     obtain⟨nQ,nL⟩:=arR (j:=j) kD hx4 hv8 ae hv
     refine aZ ?_
     exact ui j w4 (ql.set j (x4 % 4294967296)) ⟨ae,hw4,by simp [jV],hl4,nB mO _ _ ae,by rw [avz];exact nQ,nL⟩ (he:=az.of_eq (al (al (al (al (al (al (bK tQ) tQ) tQ) tQ) tQ) tQ) tQ))
    ·obtain rfl:k=0:=by omega
     rw [mn,acv,jR] at hv
     rw [acv,jR] at bH
     obtain⟨hq,hr⟩:=asL gE hv bH
     obtain⟨T,hT⟩:∃ T,T=jA (m+1) ul:=⟨_,rfl⟩
     have hTm:T<=m+1:=by rw [hT];exact aln _ _
     have hTz:=aDj (l:=ul) (n:=m+1) mW.symm
     rw [<-hT] at hTz
     have abc:=aqP ae hr
     refine bo ?_
     refine ye 1001057 rfl rfl rfl (a7 gv _) (.cons .ref .nil) (.ref ae) (aET ul (m+1) mW.symm ae ae) rfl (a7 gv _) ?_
     refine av ?_
     refine uf nf6 ?_
     refine bD ?_
     refine afb (S:=fun L=>(((((((St.mk L.slot (hp [(1001057,⟨1,ul.map bw,true⟩),(1001105,⟨1,(je ((ao (val b)).length+1) (val b*2 ^ s)).map bw,false⟩),(77,⟨1,ql.map bw,true⟩)])).put (some 4) (.ref 77 1 0 q0)).put (some 5) (.ref 1001057 1 0 T)).put (some 9) (ai s)).put (some 260) (.ref 1001057 1 0 T)).put (some 261) (ai T)).put (some 262) (ai 0))) (al (al (al (al (al (al (bK cl) cl) cl) cl) cl) cl) cl) ?_
     refine aBG b ul ql s m q0 T um oH mW gV hTm hTz abc _ ?_
     rintro w LQ ⟨jb,iD,hv9⟩
     rw [hTz T (bq _),as9,aap,mS] at hv9
     have aci:val (w.take T)=val a % val b:=by
      have e1:=(aiZ ul.length ul (bq _)).2
      rw [nT,mW,<-hT,hr] at e1
      rw [e1,fA] at hv9
      exact Nat.eq_of_mul_eq_mul_right (my ae) hv9
     refine aA ?_
     refine tz [77] tC (su ql mO ae) ?_
     refine av ?_
     refine tz [1001057] tC (su (w.take T) (x6 iD _) bz) ?_
     refine aC ?_
     rw [<-hq,<-aci]
     exact aev
namespace asB
theorem aO {p q:Prop} (k:q) (e:p=q:=by simp only [e1,e2,e3,e4,p1,p2,p3,q1,q2,q3,l1,t0,t1,r1,r2,r3,r4,Nat.zero_add,Nat.reduceMul,Nat.reduceAdd,b1,b2,b3,b4,b5,b6,i1,i2,i3,i4,i5,i6,Nat.reduceBEq,gk,cq];exact rfl):p:=e.mpr k
end asB
open asB in
theorem am6 (a b:List Nat) (ha:bY a) (hb:bY b) (fV:a.length<=1099511627776) (mH:b.length<=1099511627776):ax an 148 [fj a,fj b] (bj (fX (val a) (val b))):=by
 have abX:=acD a ha fV
 have agX:=acD b hb mH
 refine aW Tryz.func148 ?_
 refine bo ?_
 refine cp aR (su _ jf uj) ?_
 refine cp aR (aeY _ ae) ?_
 refine av ?_
 refine cp aR (su _ jf uj) ?_
 refine cp aR (aeY _ ae) ?_
 refine aC ?_
 refine ma (fun(x y:Nat) L=>(((St.mk L.slot (hp [])).put (some 5) (bj x)).put (some 6) (bj y))) (fun x y=>fX x y=fX (val a) (val b)/\(ao x).length<=1099511627776/\(ao y).length<=1099511627776) (fun x y=>y) (val a) (val b) ⟨rfl,abX,agX⟩ ?_
 rintro x y L1 ⟨hg,hx,hy⟩
 refine bo ?_
 refine aH rfl ?_ ?_<;>intro tP sg
 ·have jE:0<y:=vD (fun h=>by rw [h,wN] at sg;simp at sg)
  refine aZ ?_
  refine cp au (ajN _ _ (cT _) (cT _) ae ae (by rw [cq];exact jE)) ?_
  refine jI ?_
  exact jh y (x % y) ⟨by rw [rD,<-aek,rD];exact hg,hy,ba (oT (yB (mA x jE))) hy⟩ (hm:=mA _ jE)
 ·refine dH ?_
  refine aH rfl ?_ ?_<;>intro zW h35
  ·have jE:y=0:=tv.1 (nM ae)
   refine bo ?_
   subst jE
   rw [<-hg,afa]
   exact eB
  ·have jE:0<y:=vD (fun h=>by rw [h,wN] at h35;simp at h35)
   refine bM ?_
   refine iM (fun L=>∃ (x2:Nat) (y2:Nat) (L1:St),(fX x2 y2=fX (val a) (val b)/\(ao x2).length<=2/\(ao y2).length<=2)/\L=(((St.mk L1.slot (hp [])).put (some 5) (bj x2)).put (some 6) (bj y2))) ?_ ?_
   ·refine aH rfl ?_ ?_<;>intro aK7 h39
    ·refine aA ?_
     refine cp au (ajN _ _ (cT _) (cT _) ae ae (by rw [cq];exact jE)) ?_
     refine oF ?_
     exact⟨y,x % y,_,⟨by rw [rD,<-aek,rD];exact hg,ae,ba (oT (yB (mA x jE))) ae⟩,((al (al (bK cl) cl) cl)).symm⟩
    ·refine aT ?_
     exact⟨x,y,_,⟨hg,ae,ae⟩,((al (al (bK cl) cl) cl)).symm⟩
   ·rintro _ ⟨x2,y2,aKX,⟨hg2,pK,hy2⟩,rfl⟩
    refine aA ?_
    refine cp aR (arA _ (cT _) ae) ?_
    refine av ?_
    refine cp aR (arA _ (cT _) ae) ?_
    refine aC ?_
    refine ma (fun(m n:Nat) L=>(((St.mk L.slot (hp [])).put (some 13) (cS m)).put (some 14) (cS n))) (fun m n=>fX m n=fX (val a) (val b)/\m<18446744073709551616/\n<18446744073709551616) (fun m n=>n) x2 y2 ⟨hg2,aas.1 pK,aas.1 hy2⟩ ?_
    rintro m n L2 ⟨zC,hm,hn⟩
    refine aZ ?_
    refine aH rfl ?_ ?_<;>intro aAd h54
    ·refine aQ ?_
     refine a9 6 aq ?_
     refine bD ?_
     exact jh n (m % n) ⟨by rw [rD,<-aek,rD];exact zC,hn,by have:=mA m (show n > 0 by omega);omega⟩ (hm:=mA _ ae)
    ·obtain rfl:n=0:=by omega
     refine bo ?_
     refine cp aR (aoq _ ae) ?_
     refine aA ?_
     rw [<-zC,afa]
     exact eB
open H0 in
theorem amK :ax an 196 [] (bj 1):=by
 refine aW Tryz.func196 ?_
 refine bG ?_
 rw [show bj 1=.list 1 ([1].map bw) from rfl]
 exact o4 [1] rfl rfl (fI gv rfl rfl rfl)
namespace aw6
theorem aO {p q:Prop} (k:q) (e:p=q:=by simp only [e1,e2,e3,e4,p1,p2,p3,q1,q2,q3,l1,t0,t1,r1,r2,r3,r4,Nat.zero_add,Nat.reduceMul,Nat.reduceAdd,b1,b2,b3,b4,b5,b6,i1,i2,i3,i4,i5,i6,Nat.reduceBEq,aV ar,cU];exact rfl):p:=e.mpr k
end aw6
open aw6 in
theorem yE (q:Rat):ax an 175 [ah q] (bj q.den):=by
 refine aW Tryz.func175 ?_
 refine iE ?_
 refine aH rfl ?_ ?_<;>intro x8 h6
 ·have ki:=aoo (show (ao (jT q)).length=0 by omega)
  refine aT ?_
  refine cp am0 (amK) ?_
  refine bc ?_
  rw [ki]
  exact eB
 ·have ki:=ajQ (q:=q) ae
  refine bM ?_
  rw [<-ki]
  exact eB
open agh in
theorem anw (a:List Nat) (h:bY a) (hl:a.length<=2):ax an 246 [fj a] (cS (val a)):=by
 unfold fj
 refine aW Tryz.func246 ?_
 have ej:True:=trivial
 refine pa ?_
 refine ma (fun(k n:Nat) L=>((((St.mk L.slot (hp [])).put (some 0) (.list 1 (a.map bw))).put (some 3) (cS n)).put (some 4) (iL ((k:Int)-1)))) (fun k n=>k<=a.length/\n=val (a.drop k)) (fun k n=>k) a.length 0 ⟨bq _,by simp [val]⟩ ?_
 rintro k n L1 ⟨hk,hn⟩
 refine aZ ?_
 refine aH rfl ?_ ?_<;>intro wQ h9
 ·obtain⟨j,rfl⟩:∃ j,k=j+1:=⟨k-1,ae⟩
  have ej:(((j+1:Nat):Int)-1).toNat=j:=by omega
  have ek:(((j+1:Nat):Int)-1)=j:=by omega
  have hj:=jo h j
  have hnB:=apj h (k:=j+1) (j:=1) ae
  rw [<-hn] at hnB
  refine abi ?_
  exact jh j (n*4294967296+a.getD j 0) ⟨ae,by rw [p9 ae,hn];omega⟩
 ·obtain rfl:k=0:=by omega
  rw [mn] at hn
  refine bG ?_
  rw [<-hn]
  exact eB
open H0 in
theorem aID (a b:Nat) (ha:a<18446744073709551616) (hb:b<18446744073709551616):ax an 281 [cS a,cS b] (cS (fX a b)):=by
 refine aW Tryz.func281 ?_
 refine aZ ?_
 refine ma (fun(m n:Nat) L=>(((St.mk L.slot (hp [])).put (some 0) (cS m)).put (some 1) (cS n))) (fun m n=>fX m n=fX a b/\m<18446744073709551616/\n<18446744073709551616) (fun m n=>n) a b ⟨rfl,ha,hb⟩ ?_
 rintro m n L1 ⟨zC,hm,hn⟩
 refine aZ ?_
 refine aH rfl ?_ ?_<;>intro x8 h6
 ·refine aQ ?_
  refine a9 6 aq ?_
  refine bD ?_
  exact jh n (m % n) ⟨by rw [rD,<-aek,rD];exact zC,hn,by have:=mA m (show n > 0 by omega);omega⟩ (hm:=mA _ ae)
 ·obtain rfl:n=0:=by omega
  refine bG ?_
  rw [<-zC,afa]
  exact eB
namespace atu
theorem aO {p q:Prop} (k:q) (e:p=q:=by simp only [e1,e2,e3,e4,p1,p2,p3,q1,q2,q3,l1,t0,t1,r1,r2,r3,r4,Nat.zero_add,Nat.reduceMul,Nat.reduceAdd,b1,b2,b3,b4,b5,b6,i1,i2,i3,i4,i5,i6,Nat.reduceBEq,gk,List.length_set,Nat.add_zero,eqm,eqz];exact rfl):p:=e.mpr k
end atu
open atu in
theorem aov (l:List Nat) (off len n:Nat) (hn:n<18446744073709551616) (h1:1<=len) (h2:4294967296<=n->2<=len) (hl:off+len<=l.length):nO an 282 ⟨1,l.map bw,true⟩ [.ref 0 1 off len,cS n] (ai (nn n)) ⟨1,(qX l off n).map bw,true⟩:=by
 refine xY Tryz.func282 ?_
 have eqm:True:=trivial
 have eqz:True:=trivial
 refine aol ?_
 refine aH rfl ?_ ?_<;>intro ajG h11
 ·have nQ:n<4294967296:=by omega
  have eqz:n % 4294967296=n:=iW nQ
  refine aZ ?_
  simp only [qX,nn,if_pos nQ,eqz]
  exact we rfl (.cF (.pure rfl)) rfl rfl (a7 gv _)
 ·have nQ:¬ n<4294967296:=by omega
  have eqm:n/4294967296 % 4294967296=n/4294967296:=iW ae
  refine qF ?_
  simp only [qX,nn,if_neg nQ]
  exact we rfl (.cF (.pure rfl)) rfl rfl (a7 gv _)
theorem aDQ:val []=0:=rfl
theorem aE7 (n:Nat):decide (((dJ n:Nat):Int)=0)=decide (n=0):=by
 rw [decide_eq_decide,<-xQ];omega
theorem abJ {n:Nat} (h:(ao n).length=1):(ao n).getD 0 0=n/\0<n:=by
 have h0:0<n:=vD (fun e=>by rw [e,wN] at h;cases h)
 rw [ady h0 (uJ.1 ae)];exact⟨rfl,h0⟩
namespace aqv
theorem aO {p q:Prop} (k:q) (e:p=q:=by simp only [e1,e2,e3,e4,p1,p2,p3,q1,q2,q3,l1,t0,t1,r1,r2,r3,r4,Nat.zero_add,Nat.reduceMul,Nat.reduceAdd,b1,b2,b3,b4,b5,b6,i1,i2,i3,i4,i5,i6,Nat.reduceBEq,aV ar,cU,gk,cq];exact rfl):p:=e.mpr k
end aqv
open aqv in
theorem abB (q:Rat):ax an 171 [ah q] (.bf [cS (pN q),cS (pD q),bL (yq q)]):=by
 have hdp:=q.den_pos
 have aHG:=xu q
 refine aW Tryz.func171 ?_
 refine oF ?_
 refine ez 9 rfl ?_ ?_<;>intro wQ h9
 ·have hs:yq q=false:=decide_eq_false (fun h=>by have:=uJ.2 h.1;omega)
  have lG:True:=trivial
  refine jI ?_
  simp only [pN,pD,hs,adL,if_false]
  exact acp [] rfl rfl (.pure rfl) rfl (.pure rfl) rfl (.pure rfl)
 ·have nQ:=uJ.1 (show (ao q.num.natAbs).length<=1 by omega)
  refine aZ ?_
  refine aH rfl ?_ ?_<;>intro qC lG
  ·have hs:yq q=false:=by first | exact hs | exact decide_eq_false (fun h=>by have:=aEe h.2;omega)
   refine bD ?_
   simp only [pN,pD,hs,adL,if_false]
   exact acp [] rfl rfl (.pure rfl) rfl (.pure rfl) rfl (.pure rfl)
  ·have ki:q.den<4294967296:=by
    have:=uJ.1 (show (ao (jT q)).length<=1 by omega)
    rw [aHG] at this;split at this<;>omega
   have hs:yq q=true:=decide_eq_true ⟨nQ,ki⟩
   refine oF ?_
   refine iM (fun L=>∃ (d:Nat) (L1:St),(d=q.den)/\L=(((St.mk L1.slot (hp [(1,⟨3,[ah q],true⟩)])).put (some 1) (.aD 1 3 0 0)).put (some 3) (cS d))) ?_ ?_
   ·refine aH rfl ?_ ?_<;>intro uO uY
    ·have kS:=ajQ (q:=q) ae
     have sL:(ao (jT q)).getD 0 0=q.den:=by rw [kS,ady hdp ki];rfl
     refine bD ?_
     exact⟨(ao (jT q)).getD 0 0,_,sL,((al (al (bK cl) cl) cl)).symm⟩
    ·have kS:=aoo (q:=q) ae
     refine aT ?_
     exact⟨1,_,kS.symm,((al (al (bK cl) cl) cl)).symm⟩
   ·rintro _ ⟨d,aKQ,rfl,rfl⟩
    refine bc ?_
    refine cp aR (anw _ (cT _) ae) ?_
    refine bD ?_
    simp only [pN,pD,hs,if_true]
    have gE:((q.den:Int) != 0)=true:=by simp;omega
    refine acp [] rfl rfl (.pure rfl) rfl (.pure rfl) (x'':=.v (.bool ((q.den:Int) != 0))) rfl ?_
    rw [gE]
    exact .pure rfl
namespace apb
theorem aO {p q:Prop} (k:q) (e:p=q:=by simp only [e1,e2,e3,e4,p1,p2,p3,q1,q2,q3,l1,t0,t1,r1,r2,r3,r4,Nat.zero_add,Nat.reduceMul,Nat.reduceAdd,b1,b2,b3,b4,b5,b6,i1,i2,i3,i4,i5,i6,Nat.reduceBEq,gk,Nat.sub_zero,Nat.zero_add,Nat.add_sub_cancel_left,Nat.add_zero];exact rfl):p:=e.mpr k
theorem wU {p q:Prop} (k:q) (e:p=q:=by simp only [e1,e2,e3,e4,p1,p2,p3,q1,q2,q3,l1,t0,t1,r1,r2,r3,r4,Nat.zero_add,Nat.reduceMul,Nat.reduceAdd,b1,b2,b3,b4,b5,b6,i1,i2,i3,i4,i5,i6,Nat.reduceBEq,gk,Nat.sub_zero,Nat.zero_add,Nat.add_sub_cancel_left,Nat.add_zero,<-hN,<-hD];exact rfl):p:=e.mpr k
theorem ux {p:Prop} (h:p:=by first | (refine wU ?_;exact rfl) | exact rfl):p:=h
end apb
open apb in
theorem adT (s:Bool) (n d:Nat) (hn:n<18446744073709551616) (jM:0<d) (hd:d<18446744073709551616):ax an 245 [bL s,cS n,cS d] (ah (qv s n d)):=by
 refine aW Tryz.func245 ?_
 refine bG ?_
 refine aH rfl ?_ ?_<;>intro ahH h13
 ·refine bo ?_
  obtain rfl:n=0:=by omega
  rw [af6,q8]
  exact adj
 ·have jn:0<n:=by omega
  have hg:0<fX n d:=amN _ jn
  have nL:0<n/fX n d:=ahM (acW jn (abg n d)) hg
  have xZ:0<d/fX n d:=ahM (acW jM (al0 n d)) hg
  have hn3:n/fX n d<18446744073709551616:=uP (vF _ _) hn
  have hd3:d/fX n d<18446744073709551616:=uP (vF _ _) hd
  have hE:=aeW s jn jM
  obtain⟨g,hgg⟩:∃ g,g=fX n d:=⟨_,rfl⟩
  obtain⟨N,hN⟩:∃ N,N=n/fX n d:=⟨_,rfl⟩
  obtain⟨D,hD⟩:∃ D,D=d/fX n d:=⟨_,rfl⟩
  rw [<-hN,<-hD] at hE
  rw [<-hN] at nL hn3
  rw [<-hD] at xZ hd3
  have vn:=agH nL hn3
  have nv:=agH xZ hd3
  obtain⟨kT,xr⟩:=aBy nL hn3 xZ hd3
  have dO:=aEX nL hn3
  have lY:(qX [0,0,0,0] 0 N).length=4:=akD _ _ _
  have oX:(qX (qX [0,0,0,0] 0 N) (nn N) D).length=4:=by rw [akD,akD];rfl
  refine aC ?_
  refine cp au (aID _ _ ae ae) ?_
  refine aA ?_
  refine a9 8 aq ?_
  refine aT ?_
  refine ak rfl agv ?_
  refine aT ?_
  refine ak rfl agv ?_
  refine aT ?_
  refine uf ux ?_
  refine aQ ?_
  refine fL rfl rfl (.nh (n:=4) (m:=4) ml ml om om om) ?_
  refine aZ ?_
  refine ye 24 rfl rfl rfl (a7 gv _) (.cons .ref (.cons (.cF (.pure rfl)) .nil)) (.ref aj) (aov [0,0,0,0] 0 4 N hn3 ae ae aM) rfl (a7 gv _) ?_
  refine bD ?_
  refine ak rfl (.af1 (a:=0) (h:=nn N) (mx:=nn N) rfl qx sQ (fun y hy=>by cases hy) (fun _=>rfl) rfl rfl ae ae ae ae) ?_
  refine bG ?_
  refine aH rfl ?_ ?_<;>intro zW h35
  ·refine bc ?_
   refine ak rfl (.wS (a:=nn N) (h:=4) rfl qx sQ (fun y hy=>by cases hy;exact⟨_,rfl⟩) (fun h=>by cases h) (fun y hy=>by cases hy) (fun _=>rfl) ae ae ae) ?_
   refine av ?_
   refine ye 24 rfl rfl rfl (a7 gv _) (.cons .ref (.cons (.cF (.pure rfl)) .nil)) (.ref ae) (aov (qX [0,0,0,0] 0 N) (0+nn N) (4-nn N) D hd3 ae ae ae) rfl (a7 gv _) ?_
   refine bD ?_
   refine ak rfl (.af1 (a:=nn N) (h:=nn N+nn D) (mx:=nn N+nn D) rfl qx sQ (fun y hy=>by cases hy;exact⟨_,rfl⟩) (fun h=>by cases h) rfl rfl ae ae ae ae) ?_
   refine bC ?_
   rw [hE,if_neg ae]
   exact iG [24] rfl rfl rfl rfl rfl db (.agg (.cons (.pure rfl) (.cons (amp gv rfl rfl ae kT) (.cons (amp gv rfl rfl ae xr) .nil))))
  ·refine bD ?_
   rw [hE,if_pos ae]
   exact iG [24] rfl rfl rfl rfl rfl db (.agg (.cons (.pure rfl) (.cons (amp gv rfl rfl ae dO) (.cons (.pure rfl) .nil))))
namespace aqk
theorem aO {p q:Prop} (k:q) (e:p=q:=by simp only [e1,e2,e3,e4,p1,p2,p3,q1,q2,q3,l1,t0,t1,r1,r2,r3,r4,Nat.zero_add,Nat.reduceMul,Nat.reduceAdd,b1,b2,b3,b4,b5,b6,i1,i2,i3,i4,i5,i6,Nat.reduceBEq,gk,cq,aDQ,Nat.add_zero];exact rfl):p:=e.mpr k
end aqk
open aqk in
theorem acr (s:Bool) (a b:List Nat) (ha:bY a) (hb:bY b) (fV:a.length<=1099511627776) (mH:b.length<=1099511627776):ax an 194 [bL s,fj a,fj b] (ah (qv s (val a) (val b))):=by
 have abX:=acD a ha fV
 have agX:=acD b hb mH
 refine aW Tryz.func194 ?_
 refine aZ ?_
 refine iM (fun L=>∃ (t:Bool) (L1:St),(t=decide (val a=0\/val b=0))/\L=((((((St.mk L1.slot (hp [(6,⟨3,[.agg [.v (.bool false),.list 1 [],.list 1 []]],true⟩)])).put (some 0) (bL s)).put (some 1) (fj a)).put (some 2) (fj b)).put (some 6) (.aD 6 3 0 0)).put (some 15) (bL t))) ?_ ?_
 ·refine aT ?_
  refine cp aR (aeh _ jf ae) ?_
  refine aT ?_
  refine ez 11 rfl ?_ ?_<;>intro ajG h11
  ·have hz:val a=0:=xQ.1 ae
   refine aC ?_
   exact⟨true,_,(decide_eq_true (.inl hz)).symm,((al (al (al (al (al (bK cl) cl) cl) cl) cl) cl)).symm⟩
  ·have zk:val a≠0:=fun h=>by rw [xQ.2 h] at h11;exact h11 rfl
   refine av ?_
   refine cp aR (aeh _ jf ae) ?_
   refine aA ?_
   exact⟨decide (((dJ (val b):Nat):Int)=0),_,by show decide _=_;rw [aE7];simp [zk],((al (al (al (al (al (bK cl) cl) cl) cl) cl) cl)).symm⟩
 ·rintro _ ⟨t,LR1,ht,rfl⟩
  refine av ?_
  refine aH rfl ?_ ?_<;>intro qI nG
  ·have hq:qv s (val a) (val b)=0:=by
    rw [ht,decide_eq_true_eq] at qI
    rcases qI with h | h
    ·rw [h];exact af6 _ _
    ·rw [h];exact al5 _ _
   refine bo ?_
   rw [hq,q8]
   exact adj
  ·rw [ht,decide_eq_false_iff_not,not_or] at qI
   have ha0:0<val a:=vD qI.1
   have gE:0<val b:=vD qI.2
   have hg:0<fX (val a) (val b):=amN _ ha0
   have hE:=aeW s ha0 gE
   have hgl:(ao (fX (val a) (val b))).length<=1099511627776:=ba (oT (acW ha0 (abg _ _))) abX
   have hqa:(ao (val a/fX (val a) (val b))).length<=1099511627776:=ba (oT (vF _ _)) abX
   have hqb:(ao (val b/fX (val a) (val b))).length<=1099511627776:=ba (oT (vF _ _)) agX
   refine aA ?_
   refine iM (fun L=>∃ (t:Bool) (L1:St),(t=decide (a.length<=2/\b.length<=2))/\L=((((((St.mk L1.slot (hp [(6,⟨3,[.agg [.v (.bool false),.list 1 [],.list 1 []]],true⟩)])).put (some 0) (bL s)).put (some 1) (fj a)).put (some 2) (fj b)).put (some 6) (.aD 6 3 0 0)).put (some 24) (bL t))) ?_ ?_
   ·refine bc ?_
    refine ez 20 rfl ?_ ?_<;>intro aaL h20
    ·refine aC ?_
     exact⟨decide (((b.length:Nat):Int)<=2),_,by rw [decide_eq_decide];omega,((al (al (al (al (al (bK cl) cl) cl) cl) cl) cl)).symm⟩
    ·refine aC ?_
     exact⟨false,_,by symm;rw [decide_eq_false_iff_not];omega,((al (al (al (al (al (bK cl) cl) cl) cl) cl) cl)).symm⟩
   ·rintro _ ⟨t,LR3,ht2,rfl⟩
    refine av ?_
    refine aH rfl ?_ ?_<;>intro tN xp
    ·rw [ht2,decide_eq_true_eq] at tN
     have aLM:=tN.1
     have aKx:=tN.2
     refine aA ?_
     have hva:=uI ha (k:=2) ae
     have hvb:=uI hb (k:=2) ae
     refine cp aR (anw a ha ae) ?_
     refine av ?_
     refine cp aR (anw b hb ae) ?_
     refine cp ig (adT _ _ _ hva gE hvb) ?_
     refine bc ?_
     exact gy
    ·refine aZ ?_
     refine cp au (am6 _ _ jf jf ae ae) ?_
     refine aC ?_
     refine cp aR (aeh _ jf ae) ?_
     refine aQ ?_
     refine iM (fun L=>∃ (x:List Nat) (y:List Nat) (L1:St),(bY x/\bY y/\x.length<=1099511627776/\y.length<=1099511627776/\val x=val a/fX (val a) (val b)/\val y=val b/fX (val a) (val b))/\L=(((((St.mk L1.slot (hp [(6,⟨3,[.agg [.v (.bool false),.list 1 [],.list 1 []]],true⟩)])).put (some 0) (bL s)).put (some 1) (fj x)).put (some 2) (fj y)).put (some 6) (.aD 6 3 0 0))) ?_ ?_
     ·refine aH rfl ?_ ?_<;>intro awa h36
      ·refine aA ?_
       refine cp au (ajN _ _ jf jf ae ae (by rw [cq];exact hg)) ?_
       refine bM ?_
       refine cp au (ajN _ _ jf jf ae ae (by rw [cq];exact hg)) ?_
       refine aZ ?_
       exact⟨ao (val a/fX (val a) (val b)),ao (val b/fX (val a) (val b)),_,⟨cT _,cT _,hqa,hqb,cq _,cq _⟩,((al (al (al (al (bK cl) cl) cl) cl) cl)).symm⟩
      ·have oh:fX (val a) (val b)=1:=aDM.1 (by have:=xQ (n:=fX (val a) (val b));omega)
       refine aT ?_
       exact⟨a,b,_,⟨ha,hb,fV,mH,by rw [oh,afh],by rw [oh,afh]⟩,((al (al (al (al (bK cl) cl) cl) cl) cl)).symm⟩
     ·rintro _ ⟨x,y,aLE,⟨hx,hy,hlx,hly,hvx,hvy⟩,rfl⟩
      rw [<-hvx,<-hvy] at hE
      have jE:0<val y:=by rw [hvy];exact ahM (acW gE (al0 _ _)) hg
      refine aA ?_
      refine cp au (ald x [] hx (by intro y hy;cases hy) hlx aM) ?_
      refine av ?_
      refine cp au (ald y [] hy (by intro y hy;cases hy) hly aM) ?_
      refine bC ?_
      refine ez 58 rfl ?_ ?_<;>intro aw5 h58
      ·refine aZ ?_
       refine aH rfl ?_ ?_<;>intro anU gU
       ·have ke:val y=1:=by have:=(abJ (n:=val y) ae).1;omega
        refine dM ?_
        rw [hE,if_pos ke]
        exact iG [] rfl rfl rfl rfl rfl db (.agg (.cons (.pure rfl) (.cons (.pure (kH _)) (.cons (.nil 1) .nil))))
       ·have ke:val y≠1:=by have:=(abJ (n:=val y) ae).1;omega
        refine bG ?_
        rw [hE,if_neg ke]
        exact afn
      ·have ke:val y≠1:=fun e=>by rw [e,aje] at h58;exact h58 rfl
       refine pa ?_
       rw [hE,if_neg ke]
       exact afn
open H0 in
theorem ane (n:Int) (h1:-9223372036854775808<=n) (h2:n<=9223372036854775807):ax an 195 [iL n] (bj n.natAbs):=by
 refine aW Tryz.func195 ?_
 refine bG ?_
 refine aH rfl ?_ ?_<;>intro h4r h4
 ·refine aT ?_
  refine cp aR (aoq 9223372036854775808 ae) ?_
  refine bc ?_
  rw [show n.natAbs=9223372036854775808 by omega]
  exact eB
 ·refine aC ?_
  refine ak rfl (.neg rfl) ?_
  refine av ?_
  refine ak rfl (.ajl (n:=n.natAbs) aiw ajE (by simp only [e1,p1,p2,wF];rw [aCr ae ae]) ae) ?_
  refine cp aR (aoq n.natAbs ae) ?_
  refine aA ?_
  exact eB
theorem vW {P:Program} {L:St} {a u:Nat} {T:TypeId} {b sz:Nat} {x y x' y':LV} {m:Bool} {n:Nat} {ag:Bool} (bs:List Nat) (h0:bs.contains 0=false) (h:L.slot a=.aD b sz 0 0) (hb:L.heap b=some ⟨sz,[x],m⟩)
  (hx:x.aw=sz) (cm:x.at 0 n ag=some x) (hT:bE P T n ag) (hi:cY (L.cd bs).heap x y) (h':L.slot u=x') (n5:cY (L.cd bs).heap x' y'):qc P [.cell a T,.tmp u] L (.bf [y,y']) [] :=
 ⟨[x,x'],[y,y'],(L.cd bs).heap,[],.cons ⟨b,sz,0,0,_,x,n,ag,h,hb,rfl,rfl,hx,cm,hT⟩ (.cons h' .nil),tb bs h0,.cons (.cF hi) (.cons (.cF n5) .nil),List.nodup_nil,rfl,fun k b h=>by simp at h,rfl⟩
namespace ajO
theorem aO {p q:Prop} (k:q) (e:p=q:=by simp only [e1,e2,e3,e4,p1,p2,p3,q1,q2,q3,l1,t0,t1,r1,r2,r3,r4,Nat.zero_add,Nat.reduceMul,Nat.reduceAdd,b1,b2,b3,b4,b5,b6,i1,i2,i3,i4,i5,i6,Nat.reduceBEq,cq];exact rfl):p:=e.mpr k
end ajO
open ajO in
theorem xx (n:Int) (h1:-9223372036854775808<=n) (h2:n<=9223372036854775807):ax an 107 [iL n] (ah (n:Rat)):=by
 refine aW Tryz.func107 ?_
 refine bM ?_
 refine cp aR (ane _ ae ae) ?_
 refine cp am0 (amK) ?_
 refine cp ig (acr (decide (n<0)) (ao n.natAbs) (ao 1) (cT _) (cT _) (ba (aas.2 ae) ae) (by rw [aje];decide)) ?_
 refine aA ?_
 rw [<-aeF n]
 exact gy
open ajO in
theorem alc (n d:Int) (h1:-9223372036854775808<=n) (h2:n<=9223372036854775807) (h3:-9223372036854775808<=d) (h4:d<=9223372036854775807) (hd:d≠0):ax an 294 [iL n,iL d] (.bf [ah ((n:Rat)/(d:Rat)),iL 0]):=by
 refine aW Tryz.func294 ?_
 refine dH ?_
 refine aH rfl ?_ ?_<;>intro h7r h7
 ·exact absurd h7 hd
 ·refine bM ?_
  refine cp aR (ane _ ae ae) ?_
  refine av ?_
  refine cp aR (ane _ ae ae) ?_
  refine cp ig (acr (decide (n<0) != decide (d<0)) (ao n.natAbs) (ao d.natAbs) (cT _) (cT _) (ba (aas.2 ae) ae) (ba (aas.2 ae) ae)) ?_
  refine bc ?_
  rw [<-afs]
  exact agD
theorem abH {q:Rat} (h:yq q=true):pN q=q.num.natAbs/\pD q=q.den/\q.num.natAbs<4294967296/\q.den<4294967296:=by
 have h2:=of_decide_eq_true h
 exact⟨by simp [pN,h],by simp [pD,h],h2.1,h2.2⟩
theorem eU {x y k l:Nat} (hx:(ao x).length<=k) (hy:(ao y).length<=l):(ao (x*y)).length<=k+l :=
 yc (aaK (vm hx) (vm hy))
theorem an1 {x y k:Nat} (hx:(ao x).length<=k) (hy:(ao y).length<=k):(ao (x+y)).length<=k+1 :=
 yc (ao6 (vm hx) (vm hy))
def aef (x y:Nat):List Nat:=if x<y then [] else ao (x-y)
def abY (x y:Nat):Int:=if x<y then 7 else 0
theorem avs (x y:Nat) (hx:(ao x).length<=1099511627776) (hy:(ao y).length<=1099511627776):ax an 249 [bj x,bj y] (.bf [fj (aef x y),iL (abY x y)]):=by
 unfold aef abY
 by_cases h:x<y
 ·rw [if_pos h,if_pos h]
  exact aCW _ _ (cT _) (cT _) hx hy (by rw [cq,cq];exact h)
 ·rw [if_neg h,if_neg h]
  have:=aEk _ _ (cT x) (cT y) hx hy (by rw [cq,cq];omega)
  rw [cq,cq] at this
  exact this
theorem ali {x y:Nat}:abY x y=0↔y<=x:=by unfold abY;split<;>omega
theorem agJ {x y:Nat} (h:y<=x):aef x y=ao (x-y):=by unfold aef;rw [if_neg ae]
section
variable {a b:Rat} {s:Bool} {x y d k:Nat}
theorem add_same (hk:0<k) (hx:x*k=a.num.natAbs*b.den) (hy:y*k=b.num.natAbs*a.den) (hd:d*k=a.den*b.den) (h:decide (a<0)=s):a+xa s b=qv s (x+y) d:=by
 have:=ayG s (n:=a.num.natAbs) (m:=b.num.natAbs) a.den_pos b.den_pos
 rw [<-hx,<-hy,<-hd,<-iA,anz s hk] at this
 rw [<-this,xa]
 subst h
 rw [nx]
theorem amh (hk:0<k) (hx:x*k=a.num.natAbs*b.den) (hy:y*k=b.num.natAbs*a.den) (hd:d*k=a.den*b.den) (h:decide (a<0)≠s) (hle:y<=x):a+xa s b=qv (decide (a<0)) (x-y) d:=by
 have:=asw (decide (a<0)) s (n:=a.num.natAbs) (m:=b.num.natAbs) a.den_pos b.den_pos h (by rw [<-hx,<-hy];exact fU _ hle)
 rw [<-hx,<-hy,<-hd,<-axj,anz _ hk] at this
 rw [<-this,xa,nx]
theorem amf (hk:0<k) (hx:x*k=a.num.natAbs*b.den) (hy:y*k=b.num.natAbs*a.den) (hd:d*k=a.den*b.den) (h:decide (a<0)≠s) (hle:x<=y):a+xa s b=qv s (y-x) d:=by
 have:=awt (decide (a<0)) s (n:=a.num.natAbs) (m:=b.num.natAbs) a.den_pos b.den_pos h (by rw [<-hx,<-hy];exact fU _ hle)
 rw [<-hx,<-hy,<-hd,<-axj,anz _ hk] at this
 rw [<-this,xa,nx]
end
theorem amI {a b:Rat} (h:ao (jT a)=ao (jT b)):a.den=b.den:=by
 have h2:jT a=jT b:=by rw [<-cq (jT a),h,cq]
 rw [xu,xu] at h2
 have:=a.den_pos
 have:=b.den_pos
 split at h2<;>split at h2<;>omega
theorem aCO {x y k:Nat} (hk:0<k):kt (x*k) (y*k)=kt x y:=by
 simp only [kt,Nat.mul_lt_mul_right hk]
theorem an3 {a b:Rat} (ha:¬ a<0) (hb:¬ b<0):a<b↔a.num.natAbs*b.den<b.num.natAbs*a.den:=by
 rw [agP] at ha hb
 rw [atX]
 have h1:a.num=(a.num.natAbs:Int):=by omega
 have h2:b.num=(b.num.natAbs:Int):=by omega
 rw [h1,h2]
 simp only [Int.natAbs_natCast]
 exact_mod_cast Iff.rfl
theorem auR {a b:Rat} (ha:a<0) (hb:b<0):a<b↔b.num.natAbs*a.den<a.num.natAbs*b.den:=by
 have:=an3 (a:=-b) (b:=-a) cj cj
 rw [anO,anO,akq,akq,aky,aky] at this
 rw [<-this]
 grind
theorem ai1 {a b:Rat} (h:cW a=cW b):gJ a b=if a<0 then-kt (a.num.natAbs*b.den) (b.num.natAbs*a.den) else kt (a.num.natAbs*b.den) (b.num.natAbs*a.den):=by
 have hs:(a<0)↔(b<0):=by
  unfold cW at h
  split at h<;>split at h<;>(try split at h)<;>(try split at h)<;>grind
 by_cases ha:a<0
 ·have hb:=hs.1 ha
  rw [if_pos ha]
  simp only [gJ,kt,auR ha hb,auR hb ha]
  split<;>split<;>omega
 ·have hb:=fun h=>ha (hs.2 h)
  rw [if_neg ha]
  simp only [gJ,kt,an3 ha hb,an3 hb ha]
theorem apl {a b:Rat} (h:cW a<cW b):gJ a b=-1:=by
 have:a<b:=by unfold cW at h;split at h<;>split at h<;>(try split at h)<;>(try split at h)<;>grind
 simp [gJ,this]
theorem avV {a b:Rat} (h:cW b<cW a):gJ a b=1:=by
 have h1:b<a:=by unfold cW at h;split at h<;>split at h<;>(try split at h)<;>(try split at h)<;>grind
 have h2:¬ a<b:=by grind
 simp [gJ,h1,h2]
theorem aaD {q:Rat} (h:(ao q.num.natAbs).length=0):q=0:=by
 have:=tv.1 (nM h)
 exact ayI.1 ae
theorem ayn {c:Int} {x y:Nat} (h:c=kt x y):IntKind.i64.wrap (0-c)=-c:=by
 have:c=-1\/c=0\/c=1:=by rw [h];unfold kt;split<;>(try split)<;>simp
 rw [IntWalk.i64_in _ ae];omega
end Go.Proofs.YtckppbhafancnaaGreat
namespace Go.Lg
open Go.Proofs.YtckppbhafancnaaGreat in
theorem g7.aAv {P:Program} {L:St} {dst:Option Nat} {T:TypeId} {p x:Operand} {b:Nat} {q q0:Rat} (hp:L.ev p=.aD b 3 0 0) (hb:L.heap b=some ⟨3,[ah q0],true⟩) (hx:L.ev x=ah q) (hT:bE P T 3 true) :
  g7 P L dst (.store T p x) ((L.bO b (some ⟨3,[ah q],true⟩)).put dst .any):=by
 have h0:LV.put (ah q0) 0 (L.ev x)=some (ah q):=by
  rw [hx,wz q0]
  have e1:∀ n,(bj n).aw=1:=fun _=>rfl
  simp [LV.put,ar.aw,ar.isAgg,da,LV.aw,e1]
 have h:=g7.store (P:=P) (dst:=dst) (T:=T) (p:=p) (x:=x) (y:=ah q0) (y':=ah q) hp hb rfl rfl rfl (ar.aw _) h0 (by rw [hx,ar.aw,ar.isAgg];exact hT)
  (by rw [hx];exact⟨LV.fp (ar.pure q),LV.eW (ar.pure q)⟩)
 exact h
end Go.Lg
namespace Go.Proofs.YtckppbhafancnaaGreat
open Go.Lg
open ajO in
theorem yu (q:Rat) (h:rl q<=1099511627776):ax an 38 [ah q] (iL (cW q)):=by
 have h1:=nd q
 have hq:=axY q
 refine aW Tryz.func38 ?_
 refine bG ?_
 refine cp aR (aeh _ jf ae) ?_
 refine aA ?_
 refine aH rfl ?_ ?_<;>intro h3r h3
 ·have hz:q.num.natAbs=0:=xQ.1 ae
  refine bo ?_
  rw [hq,if_pos hz]
  exact eB
 ·have hz:q.num.natAbs≠0:=fun e=>by rw [xQ.2 e] at h3;exact h3 rfl
  refine aZ ?_
  refine aH rfl ?_ ?_<;>intro pZ h8
  ·refine bo ?_
   rw [hq,if_neg hz,if_pos h8]
   exact eB
  ·refine bD ?_
   rw [hq,if_neg hz,if_neg h8]
   exact eB
open H0 in
theorem ajW (q:Rat) (h:rl q<=1099511627776):ax an 244 [ah q] (ah q):=by
 have h1:=nd q
 have h2:=n8 q
 refine aW Tryz.func244 ?_
 refine aZ ?_
 refine a9 9 aq ?_
 refine aA ?_
 refine cp aR (aeY _ ae) ?_
 refine aT ?_
 refine cp aR (aeY _ ae) ?_
 refine bc ?_
 rw [wz]
 exact afn
namespace ayJ
theorem aO {p q:Prop} (k:q) (e:p=q:=by simp only [e1,e2,e3,e4,p1,p2,p3,q1,q2,q3,l1,t0,t1,r1,r2,r3,r4,Nat.zero_add,Nat.reduceMul,Nat.reduceAdd,b1,b2,b3,b4,b5,b6,i1,i2,i3,i4,i5,i6,Nat.reduceBEq,cq];exact rfl):p:=e.mpr k
theorem wU {p q:Prop} (k:q) (e:p=q:=by simp only [e1,e2,e3,e4,p1,p2,p3,q1,q2,q3,l1,t0,t1,r1,r2,r3,r4,Nat.zero_add,Nat.reduceMul,Nat.reduceAdd,b1,b2,b3,b4,b5,b6,i1,i2,i3,i4,i5,i6,Nat.reduceBEq,cq,rE,rR,sn,rY];exact rfl):p:=e.mpr k
theorem ux {p:Prop} (h:p:=by first | (refine wU ?_;exact rfl) | exact rfl):p:=h
end ayJ
open ayJ in
theorem n7 (a b:Rat) (h:rl a+rl b<=1099511627776):ax an 92 [ah a,ah b] (iL (gJ a b)):=by
 have a1:=nd a
 have a2:=oO a
 have a3:=n8 a
 have c1:=nd b
 have c2:=oO b
 have c3:=n8 b
 have a0:=a.den_pos
 have c0:=b.den_pos
 have m1:=eU a1 c2
 have m2:=eU c1 a2
 have m3:=eU a2 c2
 have m4:=eU a1 c1
 have m5:=eU a2 c1
 have m6:=eU c2 a2
 refine aW Tryz.func92 ?_
 refine bD ?_
 refine a9 6 aq ?_
 refine av ?_
 refine cp aR (yu _ ae) ?_
 refine av ?_
 refine cp aR (yu _ ae) ?_
 refine bC ?_
 refine aH rfl ?_ ?_<;>intro aaL h20
 ·refine bo ?_
  refine aH rfl ?_ ?_<;>intro tP sg
  ·refine bo ?_
   rw [apl sg]
   exact eB
  ·refine bD ?_
   rw [avV ae]
   exact eB
 ·have oM:cW a=cW b:=by omega
  refine bC ?_
  refine cp aR (abB _) ?_
  refine iE ?_
  refine cp au (ahy _ _ ae ae) ?_
  refine aT ?_
  refine iM (fun L=>∃ (c:Int) (L1:St),(c=kt (a.num.natAbs*b.den) (b.num.natAbs*a.den))/\L=(((St.mk L1.slot (hp [(2,⟨3,[ah a],true⟩),(3,⟨3,[ah b],true⟩)])).put (some 2) (.aD 2 3 0 0)).put (some 7) (iL c))) ?_ ?_
  ·refine aH rfl ?_ ?_<;>intro aiB h34
   ·refine bc ?_
    refine cp au (ago _ _ (cT _) (cT _) yR yR) ?_
    refine aQ ?_
    exact⟨kt a.num.natAbs b.num.natAbs,_,by rw [amI h34];exact(aCO b.den_pos).symm,((al (al (bK cl) cl) cl)).symm⟩
   ·refine aQ ?_
    refine cp aR (abB _) ?_
    refine bM ?_
    refine iM (fun L=>∃ (t:Bool) (L1:St),(t=(yq a && yq b))/\L=(((((((((St.mk L1.slot (hp [(2,⟨3,[ah a],true⟩),(3,⟨3,[ah b],true⟩)])).put (some 2) (.aD 2 3 0 0)).put (some 3) (.aD 3 3 0 0)).put (some 7) (iL 0)).put (some 8) (cS (pN a))).put (some 9) (cS (pD a))).put (some 11) (cS (pN b))).put (some 12) (cS (pD b))).put (some 49) (bL t))) ?_ ?_
    ·refine aQ ?_
     refine ez 47 rfl ?_ ?_<;>intro afJ h47
     ·refine aA ?_
      exact⟨yq b,_,by rw [afJ];rfl,((al (al (al (al (al (al (al (al (bK cl) cl) cl) cl) cl) cl) cl) cl) cl)).symm⟩
     ·refine aA ?_
      exact⟨false,_,by rw [afJ];rfl,((al (al (al (al (al (al (al (al (bK cl) cl) cl) cl) cl) cl) cl) cl) cl)).symm⟩
    ·rintro _ ⟨t,aHw,ht,rfl⟩
     refine av ?_
     refine aH rfl ?_ ?_<;>intro acK h49
     ·rw [ht,Bool.and_eq_true] at acK
      obtain⟨rE,rR,k3,k4⟩:=abH acK.1
      obtain⟨sn,rY,k7,k8⟩:=abH acK.2
      have n1:=vI k3 k8
      have n2:=vI k7 k4
      have n3:=n1
      have n4:=n2
      rw [<-rE,<-rY] at n1
      rw [<-sn,<-rR] at n2
      refine aA ?_
      refine ak rfl (.bin rfl rfl (acY ae)) ?_
      refine aT ?_
      refine ak rfl (.bin rfl rfl (acY ae)) ?_
      refine av ?_
      refine uf ux ?_
      refine av ?_
      refine aH rfl ?_ ?_<;>intro aKy h56
      ·refine aA ?_
       exact⟨-1,_,(rI ae).symm,((al (al (bK cl) cl) cl)).symm⟩
      ·refine aA ?_
       refine ak rfl (.bin rfl rfl (acY ae)) ?_
       refine aT ?_
       refine ak rfl (.bin rfl rfl (acY ae)) ?_
       refine av ?_
       refine uf ux ?_
       refine av ?_
       refine aH rfl ?_ ?_<;>intro anU gU
       ·refine aA ?_
        exact⟨1,_,(tZ ae).symm,((al (al (bK cl) cl) cl)).symm⟩
       ·refine aT ?_
        exact⟨0,_,(uX ae).symm,((al (al (bK cl) cl) cl)).symm⟩
     ·refine a9 12 aq ?_
      refine aQ ?_
      refine cp aR (yE _) ?_
      refine cp au (aad _ _ (cT _) (cT _) ae ae) ?_
      refine aQ ?_
      refine cp aR (yE _) ?_
      refine cp au (aad _ _ (cT _) (cT _) ae ae) ?_
      refine cp au (ago _ _ (cT _) (cT _) yR yR) ?_
      refine aQ ?_
      exact⟨kt (a.num.natAbs*b.den) (b.num.natAbs*a.den),_,rfl,((al (al (bK cl) cl) cl)).symm⟩
  ·rintro _ ⟨c,aLL,hc,rfl⟩
   refine bo ?_
   refine aH rfl ?_ ?_<;>intro aIU h76
   ·refine bD ?_
    rw [ai1 oM,if_pos h76,<-hc,<-ayn hc]
    exact eB
   ·refine bD ?_
    rw [ai1 oM,if_neg h76,<-hc]
    exact eB
namespace akZ
theorem aO {p q:Prop} (k:q) (e:p=q:=by simp only [e1,e2,e3,e4,p1,p2,p3,q1,q2,q3,l1,t0,t1,r1,r2,r3,r4,Nat.zero_add,Nat.reduceMul,Nat.reduceAdd,b1,b2,b3,b4,b5,b6,i1,i2,i3,i4,i5,i6,Nat.reduceBEq,cq,rE,rR,sn,rY];exact rfl):p:=e.mpr k
end akZ
open akZ in
theorem iR (a b:Rat) (h:rl a+rl b<=1099511627776):ax an 191 [ah a,ah b] (ah (a*b)):=by
 have a1:=nd a
 have a2:=oO a
 have a3:=n8 a
 have c1:=nd b
 have c2:=oO b
 have c3:=n8 b
 have a0:=a.den_pos
 have c0:=b.den_pos
 have m1:=eU a1 c2
 have m2:=eU c1 a2
 have m3:=eU a2 c2
 have m4:=eU a1 c1
 have m5:=eU a2 c1
 have m6:=eU c2 a2
 have hE:=ajR (decide (a<0)) (decide (b<0)) a.num.natAbs a.den b.num.natAbs b.den
 rw [nx,nx] at hE
 refine aW Tryz.func191 ?_
 have rE:True:=trivial
 have rR:True:=trivial
 have sn:True:=trivial
 have rY:True:=trivial
 refine iE ?_
 refine ez 15 rfl ?_ ?_<;>intro qI nG
 ·have hz:a*b=0:=by rw [aaD (q:=a) ae,Rat.zero_mul]
  refine oF ?_
  rw [hz,q8]
  exact adj
 ·refine aZ ?_
  refine aH rfl ?_ ?_<;>intro aaL h20
  ·have hz:a*b=0:=by rw [aaD (q:=b) ae,Rat.mul_zero]
   refine bo ?_
   rw [hz,q8]
   exact adj
  ·refine aC ?_
   refine cp aR (abB _) ?_
   refine dM ?_
   refine iM (fun L=>∃  (L1:St),(True)/\L=((((St.mk L1.slot (hp [(2,⟨3,[ah a],true⟩),(3,⟨3,[ah b],true⟩),(4,⟨3,[.agg [.v (.bool false),.list 1 [],.list 1 []]],true⟩)])).put (some 2) (.aD 2 3 0 0)).put (some 3) (.aD 3 3 0 0)).put (some 4) (.aD 4 3 0 0))) ?_ ?_
   ·refine aH rfl ?_ ?_<;>intro xU qN
    ·obtain⟨rE,rR,k3,k4⟩:=abH xU
     refine aQ ?_
     refine cp aR (abB _) ?_
     refine dM ?_
     refine aH rfl ?_ ?_<;>intro zW h35
     ·obtain⟨sn,rY,k7,k8⟩:=abH zW
      have n1:=vI k3 k7
      have n2:=vI k4 k8
      have np:=mG a0 c0
      refine bD ?_
      refine ak rfl adp ?_
      refine aT ?_
      refine ak rfl adp ?_
      refine cp ig (adT _ _ _ abh (by first | exact np | (simp only [rE,rR,sn,rY];exact np)) abh) ?_
      refine aC ?_
      rw [hE]
      exact gy
     ·refine aT ?_
      exact⟨_,trivial,((al (al (al (bK cl) cl) cl) cl)).symm⟩
    ·refine aT ?_
     exact⟨_,trivial,((al (al (al (bK cl) cl) cl) cl)).symm⟩
   ·rintro _ ⟨aH5,-,rfl⟩
    refine aT ?_
    refine a9 16 aq ?_
    refine bD ?_
    refine cp au (aad _ _ (cT _) (cT _) ae ae) ?_
    refine av ?_
    refine cp aR (yE _) ?_
    refine av ?_
    refine cp aR (yE _) ?_
    refine cp au (aad _ _ (cT _) (cT _) ae ae) ?_
    refine cp ig (acr _ _ _ (cT _) (cT _) yR yR) ?_
    refine aA ?_
    rw [hE]
    exact gy
open akZ in
theorem wY (a b:Rat) (h:rl a+rl b<=1099511627776):ax an 169 [ah a,ah b] (.bf [ah (a/b),iL (if b=0 then 3 else 0)]):=by
 have a1:=nd a
 have a2:=oO a
 have a3:=n8 a
 have c1:=nd b
 have c2:=oO b
 have c3:=n8 b
 have a0:=a.den_pos
 have c0:=b.den_pos
 have m1:=eU a1 c2
 have m2:=eU c1 a2
 have m3:=eU a2 c2
 have m4:=eU a1 c1
 have m5:=eU a2 c1
 have m6:=eU c2 a2
 have hE:=ahL (decide (a<0)) (decide (b<0)) a.num.natAbs a.den b.num.natAbs b.den
 rw [nx,nx] at hE
 refine aW Tryz.func169 ?_
 have rE:True:=trivial
 have rR:True:=trivial
 have sn:True:=trivial
 have rY:True:=trivial
 refine bG ?_
 refine cp aR (yu _ ae) ?_
 refine aQ ?_
 refine aH rfl ?_ ?_<;>intro qC lG
 ·have hz:b=0:=by
   unfold cW at lG;split at lG
   ·assumption
   ·split at lG<;>omega
  refine bD ?_
  subst hz
  rw [show a/0=0 by rw [iV];simp,q8]
  exact vW [] rfl rfl rfl rfl rfl db (.pure rfl) rfl (.pure rfl)
 ·have hz:b≠0:=by rintro rfl;exact lG rfl
  have hbn:0<b.num.natAbs:=vD (fun h=>hz (ayI.1 ae))
  refine aC ?_
  refine cp aR (abB _) ?_
  refine dM ?_
  refine iM (fun L=>∃  (L1:St),(True)/\L=(((((St.mk L1.slot (hp [(2,⟨3,[ah a],true⟩),(3,⟨3,[ah b],true⟩),(4,⟨3,[.agg [.v (.bool false),.list 1 [],.list 1 []]],true⟩)])).put (some 2) (.aD 2 3 0 0)).put (some 3) (.aD 3 3 0 0)).put (some 4) (.aD 4 3 0 0)).put (some 5) (iL 0))) ?_ ?_
  ·refine aH rfl ?_ ?_<;>intro aeH h22
   ·obtain⟨rE,rR,k3,k4⟩:=abH aeH
    refine aQ ?_
    refine cp aR (abB _) ?_
    refine dM ?_
    refine aH rfl ?_ ?_<;>intro abN h29
    ·obtain⟨sn,rY,k7,k8⟩:=abH abN
     have n1:=vI k3 k8
     have n2:=vI k4 k7
     have np:=mG a0 hbn
     refine bD ?_
     refine ak rfl adp ?_
     refine aT ?_
     refine ak rfl adp ?_
     refine cp ig (adT _ _ _ abh (by first | exact np | (simp only [rE,rR,sn,rY];exact np)) abh) ?_
     refine aZ ?_
     rw [hE,if_neg hz]
     exact agD
    ·refine aT ?_
     exact aeS
   ·refine aT ?_
    exact aeS
  ·rintro _ ⟨aLA,-,rfl⟩
   refine aT ?_
   refine a9 16 aq ?_
   refine bo ?_
   refine cp aR (yE _) ?_
   refine cp au (aad _ _ (cT _) (cT _) ae ae) ?_
   refine av ?_
   refine cp aR (yE _) ?_
   refine aT ?_
   refine cp au (aad _ _ (cT _) (cT _) ae ae) ?_
   refine cp ig (acr _ _ _ (cT _) (cT _) yR yR) ?_
   refine bc ?_
   rw [hE,if_neg hz]
   exact agD
theorem ac9 {p s:Bool} (h:(p==s)=false):p≠s:=by simpa using h
namespace ao2
theorem aO {p q:Prop} (k:q) (e:p=q:=by simp only [e1,e2,e3,e4,p1,p2,p3,q1,q2,q3,l1,t0,t1,r1,r2,r3,r4,Nat.zero_add,Nat.reduceMul,Nat.reduceAdd,b1,b2,b3,b4,b5,b6,i1,i2,i3,i4,i5,i6,Nat.reduceBEq,cq,Nat.one_mul,Nat.mul_one,eS,eK,eSb,eSc,rE,rR,sn,rY];exact rfl):p:=e.mpr k
end ao2
open ao2 in
theorem ard (a b:Rat) (s:Bool) (h:rl a+rl b<=549755813888):ax an 180 [ah a,ah b,bL s] (ah (a+xa s b)):=by
 have a1:=nd a
 have a2:=oO a
 have a3:=n8 a
 have c1:=nd b
 have c2:=oO b
 have c3:=n8 b
 have a0:=a.den_pos
 have c0:=b.den_pos
 have m1:=eU a1 c2
 have m2:=eU c1 a2
 have m3:=eU a2 c2
 have m4:=eU a1 c1
 have m5:=eU a2 c1
 have m6:=eU c2 a2
 have mm:=an1 (k:=rl a+rl b) m1 ae
 refine aW Tryz.func180 ?_
 have eS:True:=trivial
 have eK:True:=trivial
 have eSb:True:=trivial
 have eSc:True:=trivial
 have rE:True:=trivial
 have rR:True:=trivial
 have sn:True:=trivial
 have rY:True:=trivial
 refine bC ?_
 refine cp aR (abB _) ?_
 refine dM ?_
 refine iM (fun L=>∃  (L1:St),(True)/\L=(((((St.mk L1.slot (hp [(3,⟨3,[ah a],true⟩),(4,⟨3,[ah b],true⟩),(6,⟨3,[.agg [.v (.bool false),.list 1 [],.list 1 []]],true⟩)])).put (some 2) (bL s)).put (some 3) (.aD 3 3 0 0)).put (some 4) (.aD 4 3 0 0)).put (some 6) (.aD 6 3 0 0))) ?_ ?_
 ·refine aH rfl ?_ ?_<;>intro xU qN
  ·obtain⟨rE,rR,k3,k4⟩:=abH xU
   refine aQ ?_
   refine cp aR (abB _) ?_
   refine dM ?_
   refine aH rfl ?_ ?_<;>intro zW h35
   ·obtain⟨sn,rY,k7,k8⟩:=abH zW
    have n1:=vI k3 k8
    have n2:=vI k7 k4
    have n3:=vI k4 k8
    have np:=mG a0 c0
    refine aA ?_
    refine ak rfl adp ?_
    refine aT ?_
    refine ak rfl adp ?_
    refine bc ?_
    have eS:(((a.num.natAbs*b.den:Nat):Int)+((b.num.natAbs*a.den:Nat):Int)+0) % 18446744073709551616=(((a.num.natAbs*b.den+b.num.natAbs*a.den) % 18446744073709551616:Nat):Int):=by omega
    have eK:(((a.num.natAbs*b.den:Nat):Int)+((b.num.natAbs*a.den:Nat):Int)+0)/18446744073709551616=(((a.num.natAbs*b.den+b.num.natAbs*a.den)/18446744073709551616:Nat):Int):=by omega
    refine aQ ?_
    refine ak rfl (.abj Tryz.func247 rfl rfl rfl rfl (vs:=[.int .u64 ((a.num.natAbs*b.den:Nat):Int),.int .u64 ((b.num.natAbs*a.den:Nat):Int),.int .u64 0]) rfl (fun w=>run_add64 _ _ _ ae ae ae ae w) rfl rfl) ?_
    refine iE ?_
    refine ez 53 rfl ?_ ?_<;>intro tM h53
    ·refine aC ?_
     refine aH rfl ?_ ?_<;>intro aJR h48
     ·refine aZ ?_
      refine cp ig (adT s ((a.num.natAbs*b.den+b.num.natAbs*a.den) % 18446744073709551616) (a.den*b.den) ae np ae) ?_
      refine aZ ?_
      have wH:a.num.natAbs*b.den+b.num.natAbs*a.den<18446744073709551616:=by omega
      rw [add_same (k:=1) (x:=a.num.natAbs*b.den) (y:=b.num.natAbs*a.den) (d:=a.den*b.den) ae (jR _) (jR _) (jR _) (eq_of_beq tM),show qv s (a.num.natAbs*b.den+b.num.natAbs*a.den) (a.den*b.den)=qv s ((a.num.natAbs*b.den+b.num.natAbs*a.den) % 18446744073709551616) (a.den*b.den) by rw [iW wH]]
      exact gy
     ·refine aZ ?_
      refine ze (aP (v:=false) rfl rfl ((by rw [tM];rfl)) rfl) ?_
      refine ze (aP (v:=false) rfl rfl ((by rw [tM];rfl)) rfl) ?_
      refine ze (aP (v:=false) rfl rfl ((by rw [tM];rfl)) rfl) ?_
      refine ak rfl (.ox rfl ((by rw [tM];rfl))) ?_
      refine dH ?_
      refine ff (b:=_) rfl (by rw [tM];rfl) ?_
      refine aQ ?_
      exact aeS
    ·refine dM ?_
     refine ak (aP (v:=true) rfl rfl ((by rw [tM];rfl)) rfl) (.move _) ?_
     refine ak (aP (v:=true) rfl rfl ((by rw [tM];rfl)) rfl) (.move _) ?_
     refine ak (aP (v:=true) rfl rfl ((by rw [tM];rfl)) rfl) (.bin rfl rfl rfl) ?_
     refine ak rfl (.ou rfl ((by rw [tM];rfl))) ?_
     refine aQ ?_
     refine aH rfl ?_ ?_<;>intro anU gU
     ·refine bM ?_
      refine cp ig (adT _ _ _ abh (by first | exact np | (simp only [rE,rR,sn,rY];exact np)) abh) ?_
      refine aZ ?_
      rw [amh (k:=1) (x:=a.num.natAbs*b.den) (y:=b.num.natAbs*a.den) (d:=a.den*b.den) ae (jR _) (jR _) (jR _) (ac9 tM) ae]
      exact gy
     ·refine bD ?_
      refine cu (b:=_) rfl (by rw [tM];rfl) ?_
      refine bD ?_
      refine cp ig (adT _ _ _ abh (by first | exact np | (simp only [rE,rR,sn,rY];exact np)) abh) ?_
      refine aZ ?_
      rw [amf (k:=1) (x:=a.num.natAbs*b.den) (y:=b.num.natAbs*a.den) (d:=a.den*b.den) ae (jR _) (jR _) (jR _) (ac9 tM) ae]
      exact gy
   ·refine aT ?_
    exact aeS
  ·refine aT ?_
   exact aeS
 ·rintro _ ⟨aH5,-,rfl⟩
  refine aT ?_
  refine a9 9 aq ?_
  refine bc ?_
  refine cp aR (yE _) ?_
  refine bG ?_
  refine cp au (ahy _ _ ae ae) ?_
  refine aQ ?_
  refine iM (fun L=>∃ (x:Nat) (y:Nat) (d:Nat) (L1:St),(∃ k,0<k/\x*k=a.num.natAbs*b.den/\y*k=b.num.natAbs*a.den/\d*k=a.den*b.den/\0<d/\(ao x).length<=rl a+rl b/\(ao y).length<=rl a+rl b/\(ao d).length<=rl a+rl b)/\L=((((((((St.mk L1.slot (hp [(3,⟨3,[ah a],true⟩),(4,⟨3,[ah b],true⟩),(6,⟨3,[.agg [.v (.bool false),.list 1 [],.list 1 []]],true⟩)])).put (some 2) (bL s)).put (some 3) (.aD 3 3 0 0)).put (some 4) (.aD 4 3 0 0)).put (some 6) (.aD 6 3 0 0)).put (some 15) (bj x)).put (some 16) (bj y)).put (some 17) (bj d))) ?_ ?_
  ·refine aH rfl ?_ ?_<;>intro aKD aIm
   ·refine a9 15 aq ?_
    refine aT ?_
    refine cp aR (yE _) ?_
    refine cp au (aad _ _ (cT _) (cT _) ae ae) ?_
    refine aT ?_
    refine cp aR (yE _) ?_
    refine cp au (aad _ _ (cT _) (cT _) ae ae) ?_
    refine aT ?_
    refine cp aR (yE _) ?_
    refine cp au (aad _ _ (cT _) (cT _) ae ae) ?_
    refine bc ?_
    exact⟨a.num.natAbs*b.den,b.num.natAbs*a.den,a.den*b.den,_,⟨1,ae,jR _,jR _,jR _,mG a0 c0,m1,ae,m3⟩,((al (al (al (al (al (al (al (bK cl) cl) cl) cl) cl) cl) cl) cl)).symm⟩
   ·have hde:=amI aIm
    refine aT ?_
    exact⟨a.num.natAbs,b.num.natAbs,a.den,_,⟨a.den,a0,by rw [hde],rfl,by rw [hde],a0,ae,ae,ae⟩,((al (al (al (al (al (al (al (bK cl) cl) cl) cl) cl) cl) cl) cl)).symm⟩
  ·rintro _ ⟨x,y,d,aLy,⟨k,hk,hx,hy,hd,jM,lx,ly,ld⟩,rfl⟩
   have lxy:=an1 lx ly
   have lxs:(ao (x-y)).length<=rl a+rl b:=ba (oT (agK _ _)) lx
   have lys:(ao (y-x)).length<=rl a+rl b:=ba (oT (agK _ _)) ly
   refine bM ?_
   refine aH rfl ?_ ?_<;>intro al8 aKM
   ·refine bc ?_
    refine cp au (ald _ _ (cT _) (cT _) ae ae) ?_
    refine av ?_
    refine cp ig (acr _ _ _ (cT _) (cT _) yR yR) ?_
    refine bc ?_
    rw [add_same hk hx hy hd (eq_of_beq al8)]
    exact gy
   ·refine aZ ?_
    refine cp au (avs _ _ ae ae) ?_
    refine dH ?_
    refine aH rfl ?_ ?_<;>intro amo amF
    ·have hle:=ali.1 (show abY x y=0 by omega)
     have eSb:=agJ hle
     refine aC ?_
     refine cp ig (acr _ _ _ (by rw [eSb];exact cT _) (cT _) (by rw [eSb];omega) ae) ?_
     refine bc ?_
     rw [amh hk hx hy hd (ac9 al8) hle]
     exact gy
    ·have hle:x<=y:=by
      rcases alK x y with h | h
      ·exact h
      ·have:=ali.2 h;omega
     have eSc:=agJ hle
     refine aC ?_
     refine cp au (avs _ _ ae ae) ?_
     refine bG ?_
     refine cp ig (acr _ _ _ (cT _) (cT _) ae ae) ?_
     refine aA ?_
     rw [amf hk hx hy hd (ac9 al8) hle]
     exact gy
theorem aeI {a b:Rat}:gJ b a<0↔b<a:=by unfold gJ;split<;>(try split)<;>grind
theorem vB {a b:Rat}:gJ b a > 0↔a<b:=by unfold gJ;split<;>(try split)<;>grind
open H0 in
theorem jJ (a b:Rat) (h:rl a+rl b<=549755813888):ax an 95 [ah a,ah b] (ah (a+b)):=by
 refine aW Tryz.func95 ?_
 refine dH ?_
 refine cp ig (ard _ _ _ ae) ?_
 refine aA ?_
 exact iG [] rfl rfl rfl (ar.aw _) (rh _) db (by rw [aja];exact .pure (ar.pure _))
open H0 in
theorem sw (a b:Rat) (h:rl a+rl b<=549755813888):ax an 170 [ah a,ah b] (ah (a-b)):=by
 refine aW Tryz.func170 ?_
 refine dM ?_
 refine cp ig (ard _ _ _ ae) ?_
 refine aA ?_
 rw [af3]
 exact iG [] rfl rfl rfl (ar.aw _) (rh _) db (by rw [aF2];exact .pure (ar.pure _))
open H0 in
theorem ajx (a b:Rat) (h:rl a+rl b<=549755813888):ax an 167 [ah a,ah b] (ah (if b<a then b else a)):=by
 refine aW Tryz.func167 ?_
 refine bG ?_
 refine cp au (n7 _ _ ae) ?_
 refine aQ ?_
 refine iM (fun L=>∃ (q:Rat) (L1:St),(q=(if b<a then b else a)/\rl q<=549755813888)/\L=(((St.mk L1.slot (hp [(2,⟨3,[ah q],true⟩),(3,⟨3,[ah b],true⟩),(4,⟨3,[.agg [.v (.bool false),.list 1 [],.list 1 []]],true⟩)])).put (some 2) (.aD 2 3 0 0)).put (some 4) (.aD 4 3 0 0))) ?_ ?_
 ·refine aH rfl ?_ ?_<;>intro pZ h8
  ·refine bc ?_
   exact⟨b,_,⟨by rw [if_pos (aeI.1 h8)],ae⟩,((al (al (bK cl) cl) cl)).symm⟩
  ·refine aT ?_
   exact⟨a,_,⟨by rw [if_neg (fun h=>h8 (aeI.2 h))],ae⟩,((al (al (bK cl) cl) cl)).symm⟩
 ·rintro _ ⟨q,LC8,⟨hq,jV⟩,rfl⟩
  refine aA ?_
  refine cp aR (ajW _ ae) ?_
  refine aA ?_
  rw [<-hq]
  exact gy
open H0 in
theorem ais (a b:Rat) (h:rl a+rl b<=549755813888):ax an 168 [ah a,ah b] (ah (if a<b then b else a)):=by
 refine aW Tryz.func168 ?_
 refine bG ?_
 refine cp au (n7 _ _ ae) ?_
 refine aQ ?_
 refine iM (fun L=>∃ (q:Rat) (L1:St),(q=(if a<b then b else a)/\rl q<=549755813888)/\L=(((St.mk L1.slot (hp [(2,⟨3,[ah q],true⟩),(3,⟨3,[ah b],true⟩),(4,⟨3,[.agg [.v (.bool false),.list 1 [],.list 1 []]],true⟩)])).put (some 2) (.aD 2 3 0 0)).put (some 4) (.aD 4 3 0 0))) ?_ ?_
 ·refine aH rfl ?_ ?_<;>intro pZ h8
  ·refine bc ?_
   exact⟨b,_,⟨by rw [if_pos (vB.1 h8)],ae⟩,((al (al (bK cl) cl) cl)).symm⟩
  ·refine aT ?_
   exact⟨a,_,⟨by rw [if_neg (fun h=>h8 (vB.2 h))],ae⟩,((al (al (bK cl) cl) cl)).symm⟩
 ·rintro _ ⟨q,LC8,⟨hq,jV⟩,rfl⟩
  refine aA ?_
  refine cp aR (ajW _ ae) ?_
  refine aA ?_
  rw [<-hq]
  exact gy
theorem at5 {o:List Nat} {N:Nat} (hL:bY o) (hv:val o=N) (h:o.length=0\/4294967296 ^ (o.length-1)<=N):o=ao N:=by
 have h1:(ao N).length<=o.length:=by rw [<-hv];exact ax2 hL
 have h2:o.length<=(ao N).length:=by
  rcases h with h | h
  ·omega
  ·rcases gC (ao N).length o.length with bH | kM
   ·have:=vm (n:=N) (k:=o.length-1) ae
    omega
   ·exact kM
 have e1:=ajz hL rfl
 have e2:=ajz (cT N) rfl
 rw [e1,e2,cq,hv]
 congr 1;omega
theorem aEg {m:Nat} (h:(ao m).length=2):m=(ao m).getD 1 0*4294967296+(ao m).getD 0 0:=by
 have e:=cq m
 generalize ao m=l at h e
 match l,h with
 | [x,y],_=>rw [val_two] at e;simp;omega
theorem orC {a b:Nat} (hb:b<4294967296) (hx:a<4294967296):dN .or .u64 (b:Nat) ((a*4294967296:Nat):Int)=some (.int .u64 ((a*4294967296+b:Nat):Int)):=orV (s:=32) hb ae
theorem zZ:(0:Int).toNat=0:=rfl
theorem tz1:(1:Int).toNat=1:=rfl
theorem nt {α β:Type} (f:α->β) (o:List α):(o.map f).take o.length=o.map f:=by rw [dg aM]
theorem nm {α β:Type} (f:α->β) (o:List α) (x:α):o.map f++[f x]=(o++[x]).map f:=by simp
theorem jK {α:Type} (o:List α) (x:α):(o++[x]).length=o.length+1:=by simp
theorem ak6 (o:List Nat) (x:Nat):val (o++[x])=val o+4294967296 ^ o.length*x:=by rw [aez];simp [val]
theorem alF {o:List Nat} (h:bY o) {x:Nat} (hx:x<4294967296):bY (o++[x]):=aqH h (fun y hy=>by simp at hy;omega)
section
variable {m n c s:Nat} {o:List Nat}
theorem aHx (hv:val o+4294967296 ^ o.length*c=val ((ao m).take o.length)+val ((ao n).take o.length)) (hs:s=c+(ao m).getD o.length 0+(ao n).getD o.length 0) :
  val (o++[s % 4294967296])+4294967296 ^ (o.length+1)*(s/4294967296)=val ((ao m).take (o.length+1))+val ((ao n).take (o.length+1)):=by
 rw [ak6,qz,qz,jt]
 have h1:=acs (4294967296 ^ o.length) s
 have h2:4294967296 ^ o.length*s=4294967296 ^ o.length*c+4294967296 ^ o.length*(ao m).getD o.length 0+4294967296 ^ o.length*(ao n).getD o.length 0:=by rw [hs,eJ,eJ]
 omega
theorem af7 {m k:Nat} (h:(ao m).length<=k):val ((ao m).take k)=m:=by rw [dg h,cq]
theorem aF8 (hv:val o+4294967296 ^ o.length*c=val ((ao m).take o.length)+val ((ao n).take o.length)) (de:o.length<=max (ao m).length (ao n).length\/(o.length=max (ao m).length (ao n).length+1/\c=0))
  (hg:o.length<max (ao m).length (ao n).length\/c≠0):o.length+1=max (ao m).length (ao n).length+1->4294967296 ^ (o.length+1-1)<=m+n:=by
 intro h
 rw [af7 ae,af7 ae] at hv
 have:4294967296 ^ o.length*1<=4294967296 ^ o.length*c:=kv _ ae
 rw [mi];omega
theorem ahb {m:Nat} (h:0<(ao m).length):4294967296 ^ ((ao m).length-1)<=m:=by
 rcases gC m (4294967296 ^ ((ao m).length-1)) with h1 | h1
 ·have:=yc h1;omega
 ·exact h1
theorem aIV (hc:c<=1) (de:o.length<=max (ao m).length (ao n).length\/(o.length=max (ao m).length (ao n).length+1/\c=0)) (hg:o.length<max (ao m).length (ao n).length\/c≠0)
  (hs:s=c+(ao m).getD o.length 0+(ao n).getD o.length 0):o.length+1<=max (ao m).length (ao n).length\/(o.length+1=max (ao m).length (ao n).length+1/\s/4294967296=0):=by
 by_cases h:o.length<max (ao m).length (ao n).length
 ·exact rB
 ·rw [vq (ao m) _ ae,vq (ao n) _ ae] at hs
  exact .inr ⟨ae,ae⟩
theorem aEb (hc:c<=1) (cg:bY o) (de:o.length<=max (ao m).length (ao n).length\/(o.length=max (ao m).length (ao n).length+1/\c=0)) (hv:val o+4294967296 ^ o.length*c=val ((ao m).take o.length)+val ((ao n).take o.length))
  (kM:o.length=max (ao m).length (ao n).length+1->4294967296 ^ (o.length-1)<=m+n) (hg:¬ (o.length<max (ao m).length (ao n).length\/c≠0)):ao (m+n)=o:=by
 rw [af7 ae,af7 ae,show c=0 by omega] at hv
 refine(at5 cg ae ?_).symm
 by_cases h0:o.length=0
 ·exact .inl h0
 refine .inr ?_
 rcases de with h | h
 ·rcases alK (ao m).length (ao n).length with hh | hh
  ·have:=ahb (m:=n) ae
   rw [show o.length=(ao n).length by omega];omega
  ·have:=ahb (m:=m) ae
   rw [show o.length=(ao m).length by omega];omega
 ·exact kM h.1
end
theorem aEH {k br y2 yS x:Nat} {a b o:List Nat} (de:k<o.length) (cg:bY o) (oC:br<=1) (hxl:a.getD k 0<4294967296) (zT:b.getD k 0<4294967296) (hv:val (o.take k)+val (b.take k)=val (a.take k)+4294967296 ^ k*br) (hx:x=br+b.getD k 0)
  (h:(a.getD k 0<x/\y2=a.getD k 0+4294967296/\yS=1)\/(x<=a.getD k 0/\y2=a.getD k 0/\yS=0)) :
  x<=y2/\yS<=1/\bY (o.set k ((y2-x) % 4294967296))/\val ((o.set k ((y2-x) % 4294967296)).take (k+1))+val (b.take (k+1))=val (a.take (k+1))+4294967296 ^ (k+1)*yS:=by
 rcases h with⟨h1,rfl,rfl⟩ | ⟨h1,rfl,rfl⟩
 ·refine⟨ae,ae,nB cg _ _ ae,?_⟩
  rw [show (a.getD k 0+4294967296-x) % 4294967296=4294967296+a.getD k 0-x by omega]
  exact at2 de hv hx h1 ae
 ·refine⟨ae,ae,nB cg _ _ ae,?_⟩
  rw [iW (by omega:a.getD k 0-x<4294967296)]
  exact ass de hv hx h1
namespace aqe
theorem aO {p q:Prop} (k:q) (e:p=q:=by simp only [e1,e2,e3,e4,p1,p2,p3,q1,q2,q3,l1,t0,t1,r1,r2,r3,r4,Nat.zero_add,Nat.reduceMul,Nat.reduceAdd,b1,b2,b3,b4,b5,b6,i1,i2,i3,i4,i5,i6,Nat.reduceBEq,ej,ek,gk,List.take_zero,List.take_nil,List.nil_append,aV gv,LV.kill];exact rfl):p:=e.mpr k
end aqe
open aqe in
theorem vU (l:List Nat) (h:bY l) (hl:l.length<=4398046511104):ax an 146 [fj l] (bj (val l)):=by
 unfold fj bj
 rw [<-vY h]
 unfold yo
 refine aW Tryz.func146 ?_
 have ej:True:=trivial
 have ek:True:=trivial
 refine dM ?_
 refine dV (fun(k:Nat) L=>(((St.mk L.slot (hp [])).put (some 0) (.list 1 (l.map bw))).put (some 3) (ai k))) (fun k=>k<=l.length/\jA l.length l=jA k l) (fun k=>k) l.length ⟨bq _,rfl⟩ ?_
 rintro k L1 ⟨hk,xz⟩
 refine aC ?_
 refine ez 8 rfl ?_ ?_<;>intro pZ h8
 ·obtain⟨j,rfl⟩:∃ j,k=j+1:=⟨k-1,ae⟩
  have ej:(((j+1:Nat):Int)-1).toNat=j:=by omega
  have ek:(((j+1:Nat):Int)-1)=j:=by omega
  refine bD ?_
  refine aH rfl ?_ ?_<;>intro qI nG
  ·refine bM ?_
   exact jL j ⟨ae,xz.trans (by simp only [jA];rw [if_pos (by simpa using nG)])⟩
  ·refine bM ?_
   refine ak rfl adX ?_
   refine bS rfl aym ?_
   refine aA ?_
   rw [xz,jA,if_neg (show ¬ l.getD j 0=0 by omega)]
   exact o4 [22] rfl rfl (fI gv rfl rfl rfl)
 ·have lS:k=0:=by omega
  subst lS
  refine pa ?_
  refine ak rfl adX ?_
  refine bS rfl aym ?_
  refine aA ?_
  rw [xz,show jA 0 l=0 from rfl]
  exact o4 [22] rfl rfl (fI gv rfl rfl rfl)
open H0 in
theorem abM (n:Nat) (hn:n<18446744073709551616):ax an 79 [cS n] (bj n):=by
 have hL:bY [n % 4294967296,n/4294967296 % 4294967296]:=by
  intro x hx;simp at hx;omega
 have hV:val [n % 4294967296,n/4294967296 % 4294967296]=n:=by rw [val_two];omega
 refine aW Tryz.func79 ?_
 refine dH ?_
 refine tz [8] tC (vU _ jf uj) ?_
 refine aA ?_
 exact dT rfl (by rw [hV];exact .pure (kH _))
namespace apq
theorem aO {p q:Prop} (k:q) (e:p=q:=by simp only [e1,e2,e3,e4,p1,p2,p3,q1,q2,q3,l1,t0,t1,r1,r2,r3,r4,Nat.zero_add,Nat.reduceMul,Nat.reduceAdd,b1,b2,b3,b4,b5,b6,i1,i2,i3,i4,i5,i6,Nat.reduceBEq,gk,zZ,tz1];exact rfl):p:=e.mpr k
end apq
open apq in
theorem aha (m:Nat) (hl:(ao m).length<=1099511627776):ax an 258 [bj m] (.bf [cS (if m<18446744073709551616 then m else 0),bL (decide (m<18446744073709551616))]):=by
 have jM:=jc m 0
 have ki:=jc m 1
 refine aW Tryz.func258 ?_
 refine pa ?_
 refine aH rfl ?_ ?_<;>intro x8 h6
 ·have hm:m=0:=tv.1 (nM ae)
  refine bD ?_
  subst hm
  exact yI
 ·refine aC ?_
  refine aH rfl ?_ ?_<;>intro pZ h8
  ·have hm:=abJ (n:=m) ae
   have fe:=uJ.1 (show (ao m).length<=1 by omega)
   refine dH ?_
   rw [if_pos ae,decide_eq_true ae]
   refine xm (x:=cS ((ao m).getD 0 0)) rfl ?_ rfl (.pure rfl)
   rw [hm.1]
   exact .pure rfl
  ·refine aC ?_
   refine aH rfl ?_ ?_<;>intro qC lG
   ·have h2v:m=(ao m).getD 1 0*4294967296+(ao m).getD 0 0:=aEg ae
    have fe:=aas.1 (show (ao m).length<=2 by omega)
    refine av ?_
    refine a9 12 aq ?_
    refine bo ?_
    refine ak rfl (.sh rfl rfl (ae3 (by simp only [gk,zZ,tz1];omega))) ?_
    refine ak rfl (.bin rfl rfl (orC (by simp only [gk,zZ,tz1];omega) (by simp only [gk,zZ,tz1];omega))) ?_
    refine aZ ?_
    rw [if_pos fe,decide_eq_true fe]
    refine xm (x:=cS ((ao m).getD 1 0*4294967296+(ao m).getD 0 0)) rfl ?_ rfl (.pure rfl)
    rw [<-h2v]
    exact .pure rfl
   ·have fe:¬ m<18446744073709551616:=fun h=>by have:=aas.2 h;omega
    refine bM ?_
    rw [if_neg fe,decide_eq_false fe]
    exact yI
open ad5 in
theorem acH (m n:Nat) (fV:(ao m).length<=1099511627776) (mH:(ao n).length<=1099511627776):ax an 66 [bj m,bj n] (iL (kt m n)):=by
 refine aW Tryz.func66 ?_
 have ej:True:=trivial
 have ek:True:=trivial
 refine iE ?_
 refine aH rfl ?_ ?_<;>intro ob qf
 ·refine bM ?_
  refine aH rfl ?_ ?_<;>intro qI nG
  ·have hE:=ahi (m:=m) (n:=n) ae
   refine bo ?_
   first | (rw [rI hE];exact dT rfl (.pure rfl)) | (rw [tZ hE];exact dT rfl (.pure rfl)) | (rw [uX hE];exact dT rfl (.pure rfl))
  ·have hE:=ahi (m:=n) (n:=m) ae
   refine bD ?_
   first | (rw [rI hE];exact dT rfl (.pure rfl)) | (rw [tZ hE];exact dT rfl (.pure rfl)) | (rw [uX hE];exact dT rfl (.pure rfl))
 ·have hlen:(ao m).length=(ao n).length:=by omega
  clear qf ob
  refine bG ?_
  refine dV (fun(k:Nat) L=>((((St.mk L.slot (hp [])).put (some 0) (bj m)).put (some 1) (bj n)).put (some 5) (iL ((k:Int)-1)))) (fun k=>k<=(ao m).length/\(ao m).drop k=(ao n).drop k) (fun k=>k) ((ao m).length) ⟨bq _,by rw [aeo,kg ae]⟩ ?_
  rintro k L1 ⟨hk,hd⟩
  refine aZ ?_
  refine aH rfl ?_ ?_<;>intro aaL h20
  ·obtain⟨j,rfl⟩:∃ j,k=j+1:=⟨k-1,ae⟩
   have ej:(((j+1:Nat):Int)-1).toNat=j:=by omega
   have ek:(((j+1:Nat):Int)-1)=j:=by omega
   refine aC ?_
   refine a9 9 aq ?_
   refine bC ?_
   refine aH rfl ?_ ?_<;>intro amP h31
   ·have hE:=ajh (cT m) (k:=j) ae ae hd ae
    rw [cq,cq] at hE
    refine bG ?_
    first | (rw [rI hE];exact dT rfl (.pure rfl)) | (rw [tZ hE];exact dT rfl (.pure rfl)) | (rw [uX hE];exact dT rfl (.pure rfl))
   ·refine aQ ?_
    refine a9 9 aq ?_
    refine bC ?_
    refine aH rfl ?_ ?_<;>intro aml xd
    ·have hE:=ajh (cT n) (k:=j) ae ae hd.symm ae
     rw [cq,cq] at hE
     refine bC ?_
     first | (rw [rI hE];exact dT rfl (.pure rfl)) | (rw [tZ hE];exact dT rfl (.pure rfl)) | (rw [uX hE];exact dT rfl (.pure rfl))
    ·refine bD ?_
     exact jL j ⟨ae,ari ae ae hd ae⟩
  ·obtain rfl:k=0:=by omega
   rw [mn,mn] at hd
   have hE:m=n:=by have:=congrArg val hd;rwa [cq,cq] at this
   refine bC ?_
   first | (rw [rI hE];exact dT rfl (.pure rfl)) | (rw [tZ hE];exact dT rfl (.pure rfl)) | (rw [uX hE];exact dT rfl (.pure rfl))
namespace amt
theorem aO {p q:Prop} (k:q) (e:p=q:=by simp only [e1,e2,e3,e4,p1,p2,p3,q1,q2,q3,l1,t0,t1,r1,r2,r3,r4,Nat.zero_add,Nat.reduceMul,Nat.reduceAdd,b1,b2,b3,b4,b5,b6,i1,i2,i3,i4,i5,i6,Nat.reduceBEq,gk,List.take_zero,List.take_nil,List.nil_append,aV gv,LV.kill,nt,nm,jK,List.length_cons,List.length_nil];exact rfl):p:=e.mpr k
end amt
open amt in
theorem aBJ (m n:Nat) (fV:(ao m).length<=1099511627776) (mH:(ao n).length<=1099511627776):ax an 139 [bj m,bj n] (bj (m+n)):=by
 refine aW Tryz.func139 ?_
 refine aol ?_
 refine lR (az.own (t:=5) 50 1 rfl rfl) ?_
 refine ma (fun(o:List Nat) (c:Nat) L=>((((((St.mk L.slot (hp [(50,⟨1,o.map bw,true⟩)])).put (some 0) (bj m)).put (some 1) (bj n)).put (some 5) (.ref 50 1 0 o.length)).put (some 6) (cS c)).put (some 7) (ai o.length))) (fun o c=>c<=1/\bY o/\(o.length<=max (ao m).length (ao n).length\/(o.length=max (ao m).length (ao n).length+1/\c=0))/\val o+4294967296 ^ o.length*c=val ((ao m).take o.length)+val ((ao n).take o.length)/\(o.length=max (ao m).length (ao n).length+1->4294967296 ^ (o.length-1)<=m+n)) (fun o c=>max (ao m).length (ao n).length+2-o.length) ([]) 0 ⟨ae,(by intro x hx;cases hx),.inl (b8 _),by simp [val],by simp⟩ ?_
 rintro o c L1 ⟨hc,cg,de,hv,kM⟩
 have uN:=jc m o.length
 have hyk:=jc n o.length
 refine aT ?_
 refine iM (fun L=>∃ (t:Bool) (L1:St),(t=decide (o.length<max (ao m).length (ao n).length\/c≠0))/\L=(((((((St.mk L1.slot (hp [(50,⟨1,o.map bw,true⟩)])).put (some 0) (bj m)).put (some 1) (bj n)).put (some 5) (.ref 50 1 0 o.length)).put (some 6) (cS c)).put (some 7) (ai o.length)).put (some 21) (bL t))) ?_ ?_
 ·refine aC ?_
  refine ez 12 rfl ?_ ?_<;>intro adI h12
  ·refine bC ?_
   exact⟨true,_,by symm;rw [decide_eq_true_iff];omega,((al (al (al (al (al (al (bK cl) cl) cl) cl) cl) cl) cl)).symm⟩
  ·refine aC ?_
   refine ez 18 rfl ?_ ?_<;>intro uO uY
   ·refine bc ?_
    exact⟨true,_,by symm;rw [decide_eq_true_iff];omega,((al (al (al (al (al (al (bK cl) cl) cl) cl) cl) cl) cl)).symm⟩
   ·refine bc ?_
    exact⟨((c:Int) != 0),_,by rw [aep,bne_iff_ne,decide_eq_true_iff];omega,((al (al (al (al (al (al (bK cl) cl) cl) cl) cl) cl) cl)).symm⟩
 ·rintro _ ⟨t,LR4,ht,rfl⟩
  refine av ?_
  refine aH rfl ?_ ?_<;>intro aa0 h21
  ·rw [ht,decide_eq_true_iff] at aa0
   have hg:=aa0
   refine dH ?_
   refine iM (fun L=>∃ (s1:Nat) (L1:St),(s1=c+(ao m).getD o.length 0)/\L=((((((St.mk L1.slot (hp [(50,⟨1,o.map bw,true⟩)])).put (some 0) (bj m)).put (some 1) (bj n)).put (some 5) (.ref 50 1 0 o.length)).put (some 6) (cS s1)).put (some 7) (ai o.length))) ?_ ?_
   ·refine aH rfl ?_ ?_<;>intro zu h27
    ·refine bC ?_
     exact⟨c+(ao m).getD o.length 0,_,rfl,((al (al (al (al (al (bK cl) cl) cl) cl) cl) cl)).symm⟩
    ·refine aT ?_
     exact⟨c,_,by rw [vq (ao m) o.length ae];rfl,((al (al (al (al (al (bK cl) cl) cl) cl) cl) cl)).symm⟩
   ·rintro _ ⟨s1,aCL,kT,rfl⟩
    refine bM ?_
    refine iM (fun L=>∃ (s:Nat) (L1:St),(s=c+(ao m).getD o.length 0+(ao n).getD o.length 0)/\L=((((((St.mk L1.slot (hp [(50,⟨1,o.map bw,true⟩)])).put (some 0) (bj m)).put (some 1) (bj n)).put (some 5) (.ref 50 1 0 o.length)).put (some 6) (cS s)).put (some 7) (ai o.length))) ?_ ?_
    ·refine aH rfl ?_ ?_<;>intro ah5 h38
     ·refine bC ?_
      exact⟨s1+(ao n).getD o.length 0,_,by rw [kT],((al (al (al (al (al (bK cl) cl) cl) cl) cl) cl)).symm⟩
     ·refine aT ?_
      exact⟨s1,_,by rw [kT,vq (ao n) o.length ae];rfl,((al (al (al (al (al (bK cl) cl) cl) cl) cl) cl)).symm⟩
    ·rintro _ ⟨s,aJI,hs,rfl⟩
     refine aZ ?_
     refine bS rfl (.app (news:=[bw (s % 4294967296)]) rfl rfl rfl rfl rfl aM (.inl rfl) aj qx qx aca sQ rfl acF (.inl ⟨49,0,_,rfl,by decide,rfl,rfl,by simp,rfl,rfl⟩) bz bz aj) ?_
     refine aQ ?_
     refine cM (az.kill _ 49) ?_
     refine bG ?_
     exact jh (o++[s % 4294967296]) (s/4294967296) ⟨ae,alF cg ae,by rw [jK];exact aIV hc de hg hs,by rw [jK];exact aHx hv hs,by rw [jK];exact aF8 hv de hg⟩ (hm:=by rw [jK];omega)
  ·rw [ht,decide_eq_false_iff_not] at aa0
   have hN:=aEb hc cg de hv kM aa0
   refine bG ?_
   skip
   exact o4 [50] rfl rfl (by rw [show bj (m+n)=.list 1 (o.map bw) by rw [<-hN];rfl];exact fI gv rfl rfl rfl)
open acZ in
theorem alb (m n:Nat) (fV:(ao m).length<=1099511627776) (mH:(ao n).length<=1099511627776) (hle:n<=m):ax an 231 [bj m,bj n] (bj (m-n)):=by
 have tp:=oT hle
 refine aW Tryz.func231 ?_
 refine bD ?_
 refine fL rfl rfl (.nh (n:=(ao m).length) (m:=(ao m).length) ml ml om om om) ?_
 refine iE ?_
 refine uE (fun(k:Nat) (o:List Nat) (br:Nat) L=>((((((St.mk L.slot (hp [(12,⟨1,o.map bw,true⟩)])).put (some 0) (bj m)).put (some 1) (bj n)).put (some 5) (.ref 12 1 0 (ao m).length)).put (some 6) (cS br)).put (some 7) (ai k))) (fun k o br=>k<=(ao m).length/\o.length=(ao m).length/\br<=1/\bY o/\val (o.take k)+val ((ao n).take k)=val ((ao m).take k)+4294967296 ^ k*br) (fun k o br=>(ao m).length-k) 0 (ay (ao m).length 0) 0 ⟨b8 _,by simp,ae,wi _,by simp [val]⟩ ?_
 rintro k o br L1 ⟨hk,de,oC,cg,hv⟩
 have uN:=jc m k
 have hyk:=jc n k
 refine bD ?_
 refine aH rfl ?_ ?_<;>intro abC zd
 ·refine pU ?_
  refine iM (fun L=>∃ (x:Nat) (L1:St),(x=br+(ao n).getD k 0)/\L=(((((((St.mk L1.slot (hp [(12,⟨1,o.map bw,true⟩)])).put (some 0) (bj m)).put (some 1) (bj n)).put (some 5) (.ref 12 1 0 (ao m).length)).put (some 6) (cS br)).put (some 7) (ai k)).put (some 8) (cS x))) ?_ ?_
  ·refine aH rfl ?_ ?_<;>intro tP sg
   ·refine bC ?_
    exact⟨br+(ao n).getD k 0,_,rfl,((al (al (al (al (al (al (bK cl) cl) cl) cl) cl) cl) cl)).symm⟩
   ·refine aT ?_
    exact⟨br,_,by rw [vq _ k ae];rfl,((al (al (al (al (al (al (bK cl) cl) cl) cl) cl) cl) cl)).symm⟩
  ·rintro _ ⟨x,aK3,hx,rfl⟩
   refine aaJ ?_
   refine iM (fun L=>∃ (y2:Nat) (yS:Nat) (L1:St),(((ao m).getD k 0<x/\y2=(ao m).getD k 0+4294967296/\yS=1)\/(x<=(ao m).getD k 0/\y2=(ao m).getD k 0/\yS=0))/\L=((((((((St.mk L1.slot (hp [(12,⟨1,o.map bw,true⟩)])).put (some 0) (bj m)).put (some 1) (bj n)).put (some 5) (.ref 12 1 0 (ao m).length)).put (some 6) (cS yS)).put (some 7) (ai k)).put (some 8) (cS x)).put (some 9) (cS y2))) ?_ ?_
   ·refine aH rfl ?_ ?_<;>intro ah5 h38
    ·refine bC ?_
     exact⟨(ao m).getD k 0+4294967296,1,_,.inl ⟨ae,rfl,rfl⟩,((al (al (al (al (al (al (al (bK cl) cl) cl) cl) cl) cl) cl) cl)).symm⟩
    ·refine aT ?_
     exact⟨(ao m).getD k 0,0,_,.inr ⟨ae,rfl,rfl⟩,((al (al (al (al (al (al (al (bK cl) cl) cl) cl) cl) cl) cl) cl)).symm⟩
   ·rintro _ ⟨y2,yS,aJI,hf,rfl⟩
    obtain⟨hf1,rO,vv,hf4⟩:=aEH ae cg oC uN hyk hv hx hf
    refine pU ?_
    exact ui (k+1) (o.set k ((y2-x) % 4294967296)) yS ⟨ae,by simp [de],rO,vv,hf4⟩
 ·obtain rfl:k=(ao m).length:=by omega
  refine bo ?_
  refine tz [12] tC (vU _ jf uj) ?_
  refine aA ?_
  have e:=asQ (cT m) cg de tp (by rw [cq,cq];exact hle) hv
  rw [vY cg,cq,cq] at e
  have e2:=congrArg val e
  rw [cq,cq] at e2
  rw [<-e2]
  exact eB
open H0 in
theorem aqO (m n:Nat) (fV:(ao m).length<=1099511627776) (mH:(ao n).length<=1099511627776):ax an 140 [bj m,bj n] (.bf [fj (aef m n),iL (abY m n)]):=by
 refine aW Tryz.func140 ?_
 refine bC ?_
 refine cp au (acH _ _ ae ae) ?_
 refine aQ ?_
 refine aH rfl ?_ ?_<;>intro wQ h9
 ·have bH:m<n:=by unfold kt at h9;split at h9;assumption;split at h9<;>omega
  refine bo ?_
  rw [aef,if_pos bH,abY,if_pos bH]
  exact xm rfl (.nil 1) rfl (.pure rfl)
 ·have hle:n<=m:=by
   rcases gC m n with h | h
   ·rw [rI h] at h9;omega
   ·exact h
  refine aC ?_
  refine cp au (alb _ _ ae ae ae) ?_
  refine bc ?_
  rw [agJ hle,ali.2 hle]
  exact xm rfl (.pure (kH _)) rfl (.pure rfl)
theorem aFF {x:Nat} (h:0<x):dJ x=dJ (x/2 ^ 1)+1:=by
 have:=ajm (n:=x) (k:=1)
 rcases gC x 2 with h1 | h1
 ·obtain rfl:x=1:=by omega
  rfl
 ·rw [this ae];omega
open anj in
theorem y5 (m n:Nat) (fV:(ao m).length<=1099511627776) (mH:(ao n).length<=1099511627776):ax an 136 [bj m,bj n] (bj (m*n)):=by
 refine aW Tryz.func136 ?_
 have kJ:True:=trivial
 refine bG ?_
 refine fL rfl rfl (.nh (n:=(ao m).length+(ao n).length) (m:=(ao m).length+(ao n).length) ml ml om om om) ?_
 refine bM ?_
 refine ma (fun(i:Nat) (o:List Nat) L=>(((((St.mk L.slot (hp [(14,⟨1,o.map bw,true⟩)])).put (some 0) (bj m)).put (some 1) (bj n)).put (some 5) (.ref 14 1 0 ((ao m).length+(ao n).length))).put (some 6) (ai i))) (fun i o=>i<=(ao m).length/\o.length=(ao m).length+(ao n).length/\bY o/\val o=val ((ao m).take i)*val (ao n)/\∀ p,i+(ao n).length<=p->o.getD p 0=0) (fun i o=>(ao m).length-i) 0 (ay ((ao m).length+(ao n).length) 0) ⟨b8 _,by simp,wi _,by simp [val,ajy],fun p _=>apH _ _⟩ ?_
 rintro i o L1 ⟨hi,de,cg,hv,hz⟩
 have hxi:=jc m i
 refine bD ?_
 refine aH rfl ?_ ?_<;>intro uO uY
 ·refine oF ?_
  refine uE (fun(j:Nat) (o:List Nat) (c:Nat) L=>(((((((St.mk L.slot (hp [(14,⟨1,o.map bw,true⟩)])).put (some 0) (bj m)).put (some 1) (bj n)).put (some 5) (.ref 14 1 0 ((ao m).length+(ao n).length))).put (some 6) (ai i)).put (some 7) (cS c)).put (some 8) (ai j))) (fun j o c=>j<=(ao n).length/\o.length=(ao m).length+(ao n).length/\bY o/\c<4294967296/\val o+4294967296 ^ (i+j)*c=val ((ao m).take i)*val (ao n)+4294967296 ^ i*((ao m).getD i 0*val ((ao n).take j))/\∀ p,i+(ao n).length<=p->o.getD p 0=0) (fun j o c=>(ao n).length-j) 0 o 0 ⟨b8 _,de,cg,ae,by rw [hv];simp [val],hz⟩ ?_
  rintro j o c L2 ⟨hj,de,cg,hc,hv,hz⟩
  have hyj:=jc n j
  have hzj:=jo cg (i+j)
  have hs:=ay5 hc hxi hyj hzj
  have kJ:((i:Int)+(j:Int)).toNat=i+j:=by omega
  refine bD ?_
  refine aH rfl ?_ ?_<;>intro tN xp
  ·refine bc ?_
   refine a9 22 aq ?_
   refine aKl ?_
   exact ui (j+1) (o.set (i+j) ((c+((ao m).getD i 0*(ao n).getD j 0+o.getD (i+j) 0)) % 4294967296)) ((c+((ao m).getD i 0*(ao n).getD j 0+o.getD (i+j) 0))/4294967296) ⟨ae,by simp [de],nB cg _ _ (mA _ ae),ae,awV ae hv rfl,aoC ae hz⟩
  ·obtain rfl:j=(ao n).length:=by omega
   have aCX:((i:Int)+((ao n).length:Int)).toNat=i+(ao n).length:=by omega
   refine aaJ ?_
   exact jh (i+1) (o.set (i+(ao n).length) (c % 4294967296)) ⟨ae,by simp [de],nB cg _ _ (mA _ ae),by rw [iW hc];exact aqV ae ae (hz _ (bq _)) rfl rfl hv,asv hz⟩
 ·obtain rfl:i=(ao m).length:=by omega
  refine bo ?_
  refine tz [14] tC (vU _ jf uj) ?_
  refine aA ?_
  rw [nT,cq,cq] at hv
  rw [<-hv]
  exact eB
open H0 in
theorem aER (m d:Nat) (fV:(ao m).length<=549755813888) (hd:d<4294967296):ax an 272 [bj m,rn d] (bj (m*d)):=by
 have hld:(ao d).length<=1:=uJ.2 hd
 refine aW Tryz.func272 ?_
 refine bM ?_
 refine cp aR (abM _ ae) ?_
 refine cp au (y5 _ _ ae ae) ?_
 refine aA ?_
 exact eB
open ad5 in
theorem az7 (m d:Nat) (fV:(ao m).length<=1099511627776) (jM:0<d) (hd:d<4294967296):ax an 268 [bj m,rn d] (.bf [bj (m/d),rn (m % d)]):=by
 refine aW Tryz.func268 ?_
 have ej:True:=trivial
 have ek:True:=trivial
 refine bM ?_
 refine fL rfl rfl (.nh (n:=(ao m).length) (m:=(ao m).length) ml ml om om om) ?_
 refine qF ?_
 refine uE (fun(k:Nat) (q:List Nat) (r:Nat) L=>((((((St.mk L.slot (hp [(11,⟨1,q.map bw,true⟩)])).put (some 0) (bj m)).put (some 1) (rn d)).put (some 6) (.ref 11 1 0 (ao m).length)).put (some 7) (cS r)).put (some 8) (iL ((k:Int)-1)))) (fun k q r=>k<=(ao m).length/\q.length=(ao m).length/\bY q/\r<d/\val (q.drop k)*d+r=val ((ao m).drop k)) (fun k q r=>k) ((ao m).length) (ay (ao m).length 0) 0 ⟨bq _,by simp,wi _,jM,by simp [val]⟩ ?_
 rintro k q r L1 ⟨hk,jV,mO,hr,hv⟩
 refine aZ ?_
 refine aH rfl ?_ ?_<;>intro abC zd
 ·obtain⟨j,rfl⟩:∃ j,k=j+1:=⟨k-1,ae⟩
  have ej:(((j+1:Nat):Int)-1).toNat=j:=by omega
  have ek:(((j+1:Nat):Int)-1)=j:=by omega
  have hxj:=jc m j
  refine aaJ ?_
  refine ak rfl agv ?_
  refine pa ?_
  exact ui j (q.set j ((r*4294967296+(ao m).getD j 0)/d % 4294967296)) ((r*4294967296+(ao m).getD j 0) % d) ⟨ae,by simp [jV],nB mO _ _ (mA _ ae),mA _ jM,by rw [iW (ape hr hxj)];exact aqg ae jV hv rfl⟩
 ·obtain rfl:k=0:=by omega
  refine bo ?_
  refine tz [11] tC (vU _ jf uj) ?_
  refine aZ ?_
  obtain⟨E1,E2⟩:=arD jM hr mO hv
  rw [vY mO] at E1
  have E3:=congrArg val E1
  rw [cq,cq,cq] at E3
  rw [cq] at E2
  rw [<-E3,<-E2]
  have E4:r % 4294967296=r:=iW ae
  refine xm rfl (.pure (kH _)) rfl ?_
  show cY _ (rn (r % 4294967296)) (rn r)
  rw [E4]
  exact .pure rfl
open agh in
theorem aKu (m:Nat) (fV:(ao m).length<=1099511627776):ax an 269 [bj m] (iL (dJ m)):=by
 refine aW Tryz.func269 ?_
 have ej:True:=trivial
 refine dH ?_
 refine aH rfl ?_ ?_<;>intro h7r h7
 ·have hz:m=0:=tv.1 (nM ae)
  subst hz
  refine aZ ?_
  exact eB
 ·have ni:0<(ao m).length:=by omega
  have ej:(((ao m).length:Int)-1).toNat=(ao m).length-1:=by omega
  have hz:=apd ni
  have acj:=jc m ((ao m).length-1)
  have anl:dJ ((ao m).getD ((ao m).length-1) 0)<=32:=wo.2 acj
  refine aaJ ?_
  refine ma (fun(x q:Nat) L=>(((St.mk L.slot (hp [])).put (some 3) (ai q)).put (some 4) (rn x))) (fun x q=>q+dJ x=dJ m/\x<4294967296/\dJ m<=35184372088832) (fun x q=>x) ((ao m).getD ((ao m).length-1) 0) (32*((ao m).length-1)) ⟨hz,acj,ae⟩ ?_
  rintro x q L1 ⟨hq,hx,hbm⟩
  refine aZ ?_
  refine aH rfl ?_ ?_<;>intro agV h19
  ·have iO:0<x:=by omega
   refine dH ?_
   refine ak rfl (.sh rfl rfl (aeL (m:=1) aj)) ?_
   refine aQ ?_
   exact jh (x/2 ^ 1) (q+1) ⟨by have:=aFF iO;omega,ae,hbm⟩
  ·obtain rfl:x=0:=by omega
   have gE:dJ 0=0:=rfl
   obtain rfl:q=dJ m:=by omega
   refine bG ?_
   exact eB
end Go.Proofs.YtckppbhafancnaaGreat
namespace Go.Lg
open Go.Proofs.YtckppbhafancnaaGreat in
theorem az.mv {L:St} {t b sz off len:Nat} {blk:bg} (d:Nat) (gE:b≠0) (jM:d≠0) (gz:b≠d) (h:L.slot t=.ref b sz off len) (hb:L.heap b=some blk) (hd:L.heap d=none) :
  az L (((L.kill b).bO d (some ⟨blk.sz,bX b blk.vals,blk.mt⟩)).put (some t) (.ref d sz off len)):=by
 rintro n W X Z0 a w ⟨ey,bI,μ,Z,hc,hr⟩
 have acE:=u4 hc hd
 have hk:=hc.kill b gE
 have kN:=aeA b hr
 let bm:Nat->Option Nat:=fun c=>if c=d then μ b else kO μ b c
 have hm:∀ c id,kO μ b c=some id->bm c=some id:=fun c id hh=>by
  have:c≠d:=by
   rintro rfl
   unfold kO at hh;split at hh
   ·cases hh
   ·rw [acE] at hh;cases hh
  simp only [bm,if_neg this];exact hh
 have hinv:∀ c id,bm c=some id->(c=d/\μ b=some id)\/(c≠d/\kO μ b c=some id):=fun c id hh=>by
  simp only [bm] at hh;split at hh
  ·rename_i e;exact .inl ⟨e,hh⟩
  ·rename_i e;exact .inr ⟨e,hh⟩
 have im:∀ c id,kO μ b c=some id->c≠b/\μ c=some id:=fun c id h=>by
  unfold kO at h;split at h
  ·cases h
  ·exact⟨by assumption,h⟩
 have hbb:∀ id,kO μ b b=some id->False:=fun id hh=>(im b id hh).1 rfl
 have an6:∀ {bk:bg} {id:Nat},u7 Z (kO μ b) w bk id->u7 Z bm w bk id:=fun hh=>u7.mono (fun _ h=>h) hm (Frame.refl _ _ _) rfl hh
 refine⟨ey,bI,bm,Z,?_,fun s=>?_⟩
 ·rw [mb]
  refine⟨hc.cE,hc.mc,hc.jS,hc.me,?_,?_,?_,hc.oZ,?_,?_,?_,?_⟩
  ·intro c c' id h1 h2
   rcases hinv c id h1 with⟨e1,g1⟩ | ⟨e1,g1⟩<;>rcases hinv c' id h2 with⟨e2,g2⟩ | ⟨e2,g2⟩
   ·rw [e1,e2]
   ·have:=im c' id g2;exact absurd (hc.inj _ _ id this.2 g1) this.1
   ·have:=im c id g1;exact absurd (hc.inj _ _ id this.2 g2) this.1
   ·exact hc.inj c c' id (im c id g1).2 (im c' id g2).2
  ·intro c id h1
   rcases hinv c id h1 with⟨e1,g1⟩ | ⟨e1,g1⟩
   ·exact hc.own b id g1
   ·exact hc.own c id (im c id g1).2
  ·intro c id h1 hx
   rcases hinv c id h1 with⟨e1,g1⟩ | ⟨e1,g1⟩
   ·exact absurd (hc.x0 b id g1 hx) gE
   ·exact hc.x0 c id (im c id g1).2 hx
  ·intro id hx
   have h0:=hk.x1 id hx
   exact hm 0 id h0
  ·intro c id bk h1 lX fQ
   rcases hinv c id h1 with⟨e1,g1⟩ | ⟨e1,g1⟩
   ·subst e1
    simp only [St.bO,if_true,fB] at lX
    subst lX
    exact hc.jD b id blk g1 hb fQ
   ·simp only [St.bO,if_neg e1] at lX
    exact hk.jD c id bk g1 lX fQ
  ·intro c id bk h1 lX fQ
   rcases hinv c id h1 with⟨e1,g1⟩ | ⟨e1,g1⟩
   ·subst e1
    simp only [St.bO,if_true,fB] at lX
    subst lX
    exact hc.cd b id blk g1 hb fQ
   ·simp only [St.bO,if_neg e1] at lX
    exact hk.cd c id bk g1 lX fQ
  ·intro c id h1
   rcases hinv c id h1 with⟨e1,g1⟩ | ⟨e1,g1⟩
   ·subst e1
    obtain⟨bk,q1,cc,T,part,rest,q2,q3,q4⟩:=hc.heap b id g1
    rw [hb] at q1;cases q1
    refine⟨⟨blk.sz,bX b blk.vals,blk.mt⟩,by simp [St.bO],an6 ⟨cc,T,part,rest,q2,q3,?_⟩⟩
    exact aS.kill (fun _ h=>h) (fun k id hk h=>by simp [kO,hk,h]) (Frame.refl _ _ _) _ _ q4
   ·obtain⟨bk,q1,q2⟩:=hk.heap c id g1
    exact⟨bk,by simp only [St.bO,if_neg e1];exact q1,an6 q2⟩
 ·rw [iz]
  split
  ·rename_i dj
   subst dj
   have e:=hr s
   rw [h] at e
   refine⟨by simp [LV.isAgg],fun hh=>?_⟩
   have e2:=e.2 rfl
   simp only [aB] at e2 ⊢
   rcases e2 with e2 | ⟨id,cap,c,T,fz,q1,q2,q3⟩
   ·exact .inl e2
   ·exact .inr ⟨id,cap,c,T,fz,q1,by simp only [bm,if_true];exact q2,q3⟩
  ·exact bh.mono (fun _ h=>h) hm (Frame.refl _ _ _) (kN s)
end Go.Lg
namespace Go.Proofs.YtckppbhafancnaaGreat
open Go.Lg
theorem ale {s:Nat} (h:s<32):dN .quo .i64 (s:Nat) 32=some (.int .i64 0):=by
 have:((s:Int)).tdiv 32=0:=by rw [Int.tdiv_eq_ediv_of_nonneg ae];omega
 simp [dN,this,IntWalk.i64_in]
theorem aya {s:Nat} (h:s<32):dN .rem .i64 (s:Nat) 32=some (.int .i64 (s:Nat)):=by
 have:((s:Int)).tmod 32=s:=by rw [Int.tmod_eq_emod_of_nonneg ae];omega
 simp [dN,this]
theorem aC9 {m s c x:Nat} {o:List Nat} (hv:val o+4294967296 ^ o.length*c=val ((ao m).take o.length)*2 ^ s) (hx:x=(ao m).getD o.length 0*2 ^ s+c) :
  val (o++[x % 4294967296])+4294967296 ^ (o.length+1)*(x/4294967296)=val ((ao m).take (o.length+1))*2 ^ s:=by
 rw [ak6,qz,jt,iA,fM (4294967296 ^ o.length) ((ao m).getD o.length 0)]
 have h1:=acs (4294967296 ^ o.length) x
 have h2:4294967296 ^ o.length*x=4294967296 ^ o.length*((ao m).getD o.length 0*2 ^ s)+4294967296 ^ o.length*c:=by rw [hx,eJ]
 omega
theorem aGE {m s c:Nat} {o:List Nat} (hv:val o+4294967296 ^ o.length*c=val ((ao m).take o.length)*2 ^ s) (ho:o.length=(ao m).length) (hc:c<4294967296):val (o++[c % 4294967296])=m*2 ^ s:=by
 rw [ak6,iW hc,hv,af7 ae]
theorem aFm {s x y:Nat} (hs:s<32) (hx:x<4294967296):(y*4294967296+x)/2 ^ s % 4294967296=x/2 ^ s+y % 2 ^ s*2 ^ (32-s):=by
 have hd:4294967296=2 ^ (32-s)*2 ^ s:=by rw [<-mg,show 32-s+s=32 by omega]
 have hp:0<2 ^ s:=my ae
 obtain⟨_,h2⟩:=anq (z:=y) (show s<=32 by omega) hx
 have e1:(y*4294967296+x)/2 ^ s=y*2 ^ (32-s)+x/2 ^ s:=by
  rw [show y*4294967296+x=x+(y*2 ^ (32-s))*2 ^ s by rw [fM,<-hd];omega,Nat.add_mul_div_right _ _ hp];omega
 have e2:y*2 ^ (32-s)=y % 2 ^ s*2 ^ (32-s)+4294967296*(y/2 ^ s):=by
  have e3:y*2 ^ (32-s)=(2 ^ s*(y/2 ^ s)+y % 2 ^ s)*2 ^ (32-s):=by rw [ac1]
  rw [e3,iA,hd,Nat.mul_right_comm,fA (2 ^ s) (2 ^ (32-s))];omega
 rw [e1,e2,show y % 2 ^ s*2 ^ (32-s)+4294967296*(y/2 ^ s)+x/2 ^ s=(y % 2 ^ s*2 ^ (32-s)+x/2 ^ s)+4294967296*(y/2 ^ s) by omega,Nat.add_mul_mod_self_left,iW h2]
 omega
theorem aD8 {i s:Nat} {w o:List Nat} (hi:i<w.length) (hs:s<32) (hv:2 ^ s*val (w.take i)=val (o.take i)+4294967296 ^ i*(o.getD i 0 % 2 ^ s)) :
  2 ^ s*val ((w.set i (o.getD i 0/2 ^ s+o.getD (i+1) 0 % 2 ^ s*2 ^ (32-s))).take (i+1))=val (o.take (i+1))+4294967296 ^ (i+1)*(o.getD (i+1) 0 % 2 ^ s):=by
 have hd:4294967296=2 ^ s*2 ^ (32-s):=by rw [<-mg,show s+(32-s)=32 by omega]
 rw [abz _ _ _ hi,eJ,hv,qz,jt]
 have h1:=ac1 (o.getD i 0) (2 ^ s)
 generalize o.getD i 0/2 ^ s=q at *
 generalize o.getD i 0 % 2 ^ s=t at *
 generalize o.getD (i+1) 0 % 2 ^ s=u at *
 generalize 4294967296 ^ i=p at *
 rw [<-h1]
 have e1:2 ^ s*(p*(q+u*2 ^ (32-s)))=p*(2 ^ s*q)+p*4294967296*u:=by
  rw [hd,eJ,eJ]
  simp only [fM,Nat.mul_left_comm,fA]
 rw [e1,eJ]
 omega
theorem aAb {r s:Nat} {o:List Nat} (de:o.length=(ao (r*2 ^ s)).length) (hv:2 ^ s*val (o.take (ao (r*2 ^ s)).length)=val ((ao (r*2 ^ s)).take (ao (r*2 ^ s)).length)+4294967296 ^ (ao (r*2 ^ s)).length*((ao (r*2 ^ s)).getD (ao (r*2 ^ s)).length 0 % 2 ^ s)):val o=r:=by
 rw [vq _ _ (bq _),as9,aap,mS,nT,<-de,nT,cq,fA r] at hv
 exact Nat.eq_of_mul_eq_mul_left (my ae) hv
theorem aKf (k:Nat):((ay k 0).map bw).take k=(ay k 0).map bw:=by rw [dg aM]
theorem aJD {m:Nat} (k:Nat) (h:0<(ao m).length):ao (m*4294967296 ^ k)=ay k 0++ao m:=by
 have hv:val (ay k 0++ao m)=m*4294967296 ^ k:=by rw [aez,ajy,cq];simp [fA]
 refine(at5 (aqH (wi k) (cT m)) hv (.inr ?_)).symm
 have:=ahb h
 simp only [List.length_append,List.length_replicate]
 rw [show k+(ao m).length-1=(ao m).length-1+k by omega,mg]
 exact fU _ this
open amt in
theorem ap1 (m s:Nat) (fV:(ao m).length<=549755813888) (hs:s<32):ax an 270 [bj m,ai s] (bj (m*2 ^ s)):=by
 obtain⟨kE,sE⟩:=agw hs
 refine aW Tryz.func270 ?_
 refine bo ?_
 refine ak rfl (.bin rfl rfl (ale hs)) ?_
 refine fL rfl rfl (.nh (n:=0) (m:=0) ml ml om om om) ?_
 refine iE ?_
 refine lR (az.mv (t:=5) (b:=10) 31 aj aj aj rfl rfl rfl) ?_
 refine ma (fun(o:List Nat) (c:Nat) L=>((((((St.mk L.slot (hp [(31,⟨1,o.map bw,true⟩)])).put (some 0) (bj m)).put (some 1) (ai s)).put (some 5) (.ref 31 1 0 o.length)).put (some 6) (cS c)).put (some 7) (ai o.length))) (fun o c=>o.length<=(ao m).length/\c<2 ^ s/\bY o/\val o+4294967296 ^ o.length*c=val ((ao m).take o.length)*2 ^ s) (fun o c=>(ao m).length-o.length) ([]) 0 ⟨b8 _,sE,(by intro x hx;cases hx),by simp [val]⟩ ?_
 rintro o c L1 ⟨de,hc,cg,hv⟩
 have uN:=jc m o.length
 have vL:=aoA uN kE
 refine bD ?_
 refine aH rfl ?_ ?_<;>intro qC lG
 ·refine dH ?_
  refine ak rfl (.bin rfl rfl (aya hs)) ?_
  refine ak rfl (.sh rfl rfl (awc ae (by(try simp only [t1,gk]);omega))) ?_
  refine ak rfl (.bin rfl rfl (orV hc (by(try simp only [t1,gk]);omega))) ?_
  refine bD ?_
  refine bS rfl (.app (news:=[bw (((ao m).getD o.length 0*2 ^ s+c) % 4294967296)]) rfl rfl rfl rfl rfl aM (.inl rfl) aj qx qx aca sQ rfl acF (.inl ⟨30,0,_,rfl,by decide,rfl,rfl,by simp,rfl,rfl⟩) bz bz aj) ?_
  refine aQ ?_
  refine cM (az.kill _ 30) ?_
  refine bG ?_
  exact jh (o++[((ao m).getD o.length 0*2 ^ s+c) % 4294967296]) (((ao m).getD o.length 0*2 ^ s+c)/4294967296) ⟨by rw [jK];omega,auI uN hc,alF cg ae,by rw [jK];exact aC9 hv rfl⟩ (hm:=by rw [jK];omega)
 ·have hoe:o.length=(ao m).length:=by omega
  have hV:=aGE hv hoe (show c<4294967296 by omega)
  refine bC ?_
  refine bS rfl (.app (news:=[bw (c % 4294967296)]) rfl rfl rfl rfl rfl aM (.inr rfl) aj qx qx aca sQ rfl acF (.inl ⟨37,0,_,rfl,by decide,rfl,rfl,by simp,rfl,rfl⟩) bz bz aj) ?_
  simp only [aV gv,nt,nm,jK,List.length_cons,List.length_nil]
  refine tz [38] tC (vU (o++[c % 4294967296]) (alF cg ae) (by rw [jK];omega)) ?_
  refine aA ?_
  rw [<-hV]
  exact eB
namespace ax1
theorem aO {p q:Prop} (k:q) (e:p=q:=by simp only [e1,e2,e3,e4,p1,p2,p3,q1,q2,q3,l1,t0,t1,r1,r2,r3,r4,Nat.zero_add,Nat.reduceMul,Nat.reduceAdd,b1,b2,b3,b4,b5,b6,i1,i2,i3,i4,i5,i6,Nat.reduceBEq,gk,List.drop_zero,ny,eyy];exact rfl):p:=e.mpr k
end ax1
open ax1 in
theorem aKj (r s:Nat) (fV:(ao (r*2 ^ s)).length<=549755813888) (hs:s<32):ax an 273 [bj (r*2 ^ s),ai s] (bj r):=by
 obtain⟨kE,sE⟩:=agw hs
 have abc:=aqP (l:=ao (r*2 ^ s)) (r:=r) (show s<=32 by omega) (cq _)
 refine aW Tryz.func273 ?_
 have ny:True:=trivial
 have eyy:True:=trivial
 refine bD ?_
 refine ak rfl (.bin rfl rfl (ale hs)) ?_
 refine bc ?_
 refine aH rfl ?_ ?_<;>intro adI h12
 ·have hm:r*2 ^ s=0:=tv.1 (nM ae)
  have uv:r=0:=by rcases Nat.mul_eq_zero.1 hm with h | h<;>omega
  subst uv
  refine aZ ?_
  exact dT rfl (.nil 1)
 ·refine aC ?_
  refine ak rfl (.bin rfl rfl (ale hs)) ?_
  refine ak rfl (.acn (a:=0) gv rfl qx sQ rfl om) ?_
  refine aZ ?_
  refine fL rfl rfl (.nh (n:=(ao (r*2 ^ s)).length) (m:=(ao (r*2 ^ s)).length) ml ml om om om) ?_
  refine bM ?_
  refine ma (fun(i:Nat) (o:List Nat) L=>(((((St.mk L.slot (hp [(19,⟨1,o.map bw,true⟩)])).put (some 0) (bj (r*2 ^ s))).put (some 1) (ai s)).put (some 5) (.ref 19 1 0 (ao (r*2 ^ s)).length)).put (some 6) (ai i))) (fun i o=>i<=(ao (r*2 ^ s)).length/\o.length=(ao (r*2 ^ s)).length/\bY o/\2 ^ s*val (o.take i)=val ((ao (r*2 ^ s)).take i)+4294967296 ^ i*((ao (r*2 ^ s)).getD i 0 % 2 ^ s)) (fun i o=>(ao (r*2 ^ s)).length-i) 0 (ay (ao (r*2 ^ s)).length 0) ⟨b8 _,by simp,wi _,by rw [abc];simp [val]⟩ ?_
  rintro i o L1 ⟨hi,de,cg,hv⟩
  have ny:((i:Int)+1).toNat=i+1:=by omega
  have hxi:=jc (r*2 ^ s) i
  have hyi:=jc (r*2 ^ s) (i+1)
  obtain⟨hh1,hh2⟩:=anq (z:=(ao (r*2 ^ s)).getD (i+1) 0) (show s<=32 by omega) hxi
  refine bD ?_
  refine aH rfl ?_ ?_<;>intro tP sg
  ·refine aaJ ?_
   refine iM (fun L=>∃ (y:Nat) (L1:St),(y=(ao (r*2 ^ s)).getD (i+1) 0*4294967296+(ao (r*2 ^ s)).getD i 0)/\L=((((((St.mk L1.slot (hp [(19,⟨1,o.map bw,true⟩)])).put (some 0) (bj (r*2 ^ s))).put (some 1) (ai s)).put (some 5) (.ref 19 1 0 (ao (r*2 ^ s)).length)).put (some 6) (ai i)).put (some 7) (cS y))) ?_ ?_
   ·refine aH rfl ?_ ?_<;>intro zW h35
    ·refine bo ?_
     refine ak rfl (.sh rfl rfl (ae3 (by(try simp only [t1,gk,ny]);omega))) ?_
     refine ak rfl (.bin rfl rfl (orC (by(try simp only [t1,gk]);omega) (by(try simp only [t1,gk,ny]);omega))) ?_
     refine aQ ?_
     exact⟨(ao (r*2 ^ s)).getD (i+1) 0*4294967296+(ao (r*2 ^ s)).getD i 0,_,rfl,((al (al (al (al (al (bK cl) cl) cl) cl) cl) cl)).symm⟩
    ·refine aT ?_
     exact⟨(ao (r*2 ^ s)).getD i 0,_,by rw [vq _ (i+1) ae,ad6,fF],((al (al (al (al (al (bK cl) cl) cl) cl) cl) cl)).symm⟩
   ·rintro _ ⟨y,aLv,hy,rfl⟩
    have eyy:y/2 ^ s % 4294967296=((ao (r*2 ^ s)).getD i 0/2 ^ s+(ao (r*2 ^ s)).getD (i+1) 0 % 2 ^ s*2 ^ (32-s)):=by rw [hy];exact aFm hs hxi
    refine aC ?_
    refine ak rfl (.bin rfl rfl (aya hs)) ?_
    refine ak rfl (.sh rfl rfl (aeL (m:=s) (by show s<=64;omega))) ?_
    refine bG ?_
    exact jh (i+1) (o.set i ((ao (r*2 ^ s)).getD i 0/2 ^ s+(ao (r*2 ^ s)).getD (i+1) 0 % 2 ^ s*2 ^ (32-s))) ⟨ae,by simp [de],nB cg _ _ ae,aD8 ae hs hv⟩
  ·obtain rfl:i=(ao (r*2 ^ s)).length:=by omega
   refine bo ?_
   refine tz [19] tC (vU _ jf uj) ?_
   refine aA ?_
   have hV:=aAb de hv
   rw [<-hV]
   exact eB
namespace axG
theorem aO {p q:Prop} (k:q) (e:p=q:=by simp only [e1,e2,e3,e4,p1,p2,p3,q1,q2,q3,l1,t0,t1,r1,r2,r3,r4,Nat.zero_add,Nat.reduceMul,Nat.reduceAdd,b1,b2,b3,b4,b5,b6,i1,i2,i3,i4,i5,i6,Nat.reduceBEq,List.take_zero,List.take_nil,List.nil_append,aV gv,LV.kill,nt,nm,jK,List.length_cons,List.length_nil,aKf,<-List.map_append];exact rfl):p:=e.mpr k
end axG
open axG in
theorem axA (m k:Nat) (fV:(ao m).length<=1099511627776) (hk:k<=1099511627776):ax an 271 [bj m,ai k] (bj (m*4294967296 ^ k)):=by
 refine aW Tryz.func271 ?_
 refine dH ?_
 refine aH rfl ?_ ?_<;>intro h7r h7
 ·have hm:m=0:=tv.1 (nM ae)
  subst hm
  refine aZ ?_
  rw [ad6]
  exact dT rfl (.nil 1)
 ·have hE:=aJD k (show 0<(ao m).length by omega)
  refine bc ?_
  refine fL rfl rfl (.nh (n:=k) (m:=k) ml ml om om om) ?_
  refine av ?_
  refine bS rfl (.app (news:=(ao m).map bw) rfl rfl rfl rfl rfl aM (.inr rfl) aj qx qx aca sQ rfl acF (.inr (.inl rfl)) bz bz aj) ?_
  refine aA ?_
  rw [show bj (m*4294967296 ^ k)=.list 1 ((ay k 0++ao m).map bw) by rw [<-hE];rfl]
  exact o4 [11] rfl rfl (fI gv rfl rfl aM)
theorem aCh (l:List Nat) (k:Nat):val l=val (l.take k)+4294967296 ^ k*val (l.drop k):=by
 rcases alK k l.length with h | h
 ·exact uw l k h
 ·rw [dg h,kg h];simp [val]
theorem arf (l:List Nat) (k:Nat):val (l.drop k)=l.getD k 0+4294967296*val (l.drop (k+1)):=by
 rcases gC k l.length with h | h
 ·exact p9 h
 ·rw [kg h,kg ae,vq _ _ h];rfl
theorem afV {a:Nat} (h:1<=a) (h2:a<=9223372036854775807):dN .sub .i64 (a:Nat) 1=some (.int .i64 ((a-1:Nat):Int)):=by
 rw [aaH ae ae];congr 2;omega
theorem aFk {n:Nat} (h:0<(ao n).length):(ao n).drop ((ao n).length-1)=ao ((ao n).getD ((ao n).length-1) 0):=by
 have h1:=afK (afB n) h
 have h2:=jc n ((ao n).length-1)
 rw [ady ae h2]
 rw [List.drop_eq_getElem_cons ae,kg ae,bp,List.getElem?_eq_getElem ae]
 rfl
theorem aAV {R V n j:Nat} (hn:(ao V).length=n+1) (bH:R<V*4294967296 ^ (j+1)) (hv:0<(ao V).getD n 0) :
  R/4294967296 ^ j/V<=min (((ao R).getD (j+(n+1)) 0*4294967296+(ao R).getD (j+n) 0)/(ao V).getD n 0) 4294967295:=by
 have kD:0<V:=vD (fun h=>by rw [h,wN] at hn;cases hn)
 have hVn:V<4294967296 ^ (n+1):=vm ae
 have hz:=aia (ul:=ao R) (n:=n+1) (j:=j) hVn (by rw [cq];exact bH)
 have hq2:R/4294967296 ^ j/V<4294967296:=by
  rw [ot kD,ot (vd j),fA 4294967296,fM,<-Nat.pow_succ']
  exact bH
 refine Nat.le_min.2 ⟨?_,ae⟩
 rw [zq hv]
 have hVs:=uw (ao V) n ae
 have hVd:val ((ao V).drop n)=(ao V).getD n 0:=by
  rw [p9 ae,kg ae];simp [val]
 rw [hVd,cq] at hVs
 have hR:R/4294967296 ^ (j+n)=(ao R).getD (j+(n+1)) 0*4294967296+(ao R).getD (j+n) 0:=by
  have e:=aCh (ao R) (j+n)
  rw [cq] at e
  have hl:val ((ao R).take (j+n))<4294967296 ^ (j+n):=uI (x6 (cT R) _) bz
  have hd:val ((ao R).drop (j+n))=(ao R).getD (j+(n+1)) 0*4294967296+(ao R).getD (j+n) 0:=by
   have z:val ((ao R).drop (j+n+2))=0:=agr (fun p=>by rw [afU];exact hz _ ae)
   rw [arf,arf,z,show j+n+1=j+(n+1) by omega];omega
  rw [<-hd]
  conv=>lhs;rw [e]
  rw [Nat.add_mul_div_left _ _ (vd _),abn hl,fF]
 rw [<-hR,mg,<-Nat.div_div_eq_div_mul,zq (vd n),fM]
 refine ba (kv _ ?_) (arh (R/4294967296 ^ j) V)
 rw [fA]
 omega
theorem aBu {R V j d:Nat} (hV:0<V) (h:R<V*d*4294967296 ^ j):R/4294967296 ^ j/V<d:=by
 rw [ot hV,ot (vd j),fA d V];exact h
theorem aAL {R V j d:Nat} (hV:0<V) (h:V*d*4294967296 ^ j<=R):d<=R/4294967296 ^ j/V:=by
 rw [zq hV,zq (vd j),fA d V];exact h
theorem aFp {R V j d A:Nat} {ql:List Nat} (hV:0<V) (hd:d=R/4294967296 ^ j/V) (hp:V*d*4294967296 ^ j<=R) (hj:j<ql.length) (hv:R+V*4294967296 ^ (j+1)*val (ql.drop (j+1))=A) :
  R-V*d*4294967296 ^ j+V*4294967296 ^ j*val ((ql.set j d).drop j)=A/\R-V*d*4294967296 ^ j<V*4294967296 ^ j:=by
 have:=arR (ul:=ao (R-V*d*4294967296 ^ j)) (ul0:=ao R) (ql:=ql) (x:=d) (j:=j) (U0:=A) hV (by rw [cq];exact hd) (by rw [cq,cq,fA d V,fA (4294967296 ^ j)];omega) hj (by rw [cq];exact hv)
 rw [cq] at this
 exact this
theorem azp {m n L K s:Nat} (hL:(ao (n*2 ^ s)).length=L) (h0:0<L) (hK:K+L=(ao (m*2 ^ s)).length+1):m*2 ^ s<n*2 ^ s*4294967296 ^ K:=by
 have h1:m*2 ^ s<4294967296 ^ (ao (m*2 ^ s)).length:=vm (bq _)
 have h2:=ahb (m:=n*2 ^ s) ae
 refine yU h1 ?_
 rw [show (ao (m*2 ^ s)).length=(L-1)+K by omega,mg,<-hL]
 exact fU _ h2
theorem azP {m s k:Nat} (h:(ao m).length<=k) (hs:s<32):(ao (m*2 ^ s)).length<=k+1 :=
 eU h (uJ.2 (by have:=agw hs;omega))
theorem ayg (k:Nat):(ao (4294967296 ^ k)).length<=k+1:=yc (Nat.pow_lt_pow_right ae ae)
theorem aDG {V j d:Nat} (h:1<=d):V*d*4294967296 ^ j-V*4294967296 ^ j=V*(d-1)*4294967296 ^ j:=by
 obtain⟨e,rfl⟩:∃ e,d=e+1:=⟨d-1,ae⟩
 rw [mi,eJ,jR,iA];omega
theorem aEK {V j d:Nat} (h:1<=d):V*4294967296 ^ j<=V*d*4294967296 ^ j:=by
 refine fU _ ?_
 have:=kv V h
 omega
namespace auV
theorem aO {p q:Prop} (k:q) (e:p=q:=by simp only [e1,e2,e3,e4,p1,p2,p3,q1,q2,q3,l1,t0,t1,r1,r2,r3,r4,Nat.zero_add,Nat.reduceMul,Nat.reduceAdd,b1,b2,b3,b4,b5,b6,i1,i2,i3,i4,i5,i6,Nat.reduceBEq,gk,cq,eln,edz,esm,esn,eLn,edm,ek,p6,oY,eL1,ed,zZ,edd,es];exact rfl):p:=e.mpr k
end auV
open auV in
theorem anJ (m n:Nat) (fV:(ao m).length<=68719476736) (mH:(ao n).length<=68719476736) (jn:0<n):ax an 230 [bj m,bj n] (.bf [bj (m/n),bj (m % n),iL 0]):=by
 refine aW Tryz.func230 ?_
 have eln:True:=trivial
 have edz:True:=trivial
 have esm:True:=trivial
 have esn:True:=trivial
 have eLn:True:=trivial
 have edm:True:=trivial
 have ek:True:=trivial
 have p6:True:=trivial
 have oY:True:=trivial
 have eL1:True:=trivial
 have ed:True:=trivial
 have edd:True:=trivial
 have es:True:=trivial
 refine iE ?_
 refine aH rfl ?_ ?_<;>intro aa0 h21
 ·have sY:=tv.1 (nM (show (ao n).length=0 by omega))
  omega
 ·refine aZ ?_
  refine cp au (acH _ _ ae ae) ?_
  refine aQ ?_
  refine aH rfl ?_ ?_<;>intro aiX h25
  ·have bH:m<n:=by unfold kt at h25;split at h25;assumption;split at h25<;>omega
   refine aQ ?_
   refine cp aR (vU _ jf ae) ?_
   refine aZ ?_
   rw [abn bH,iW bH]
   exact acp [] rfl rfl (.nil 1) rfl (.pure (kH _)) rfl (.pure rfl)
  ·have kM:n<=m:=by
    rcases gC m n with h | h
    ·rw [rI h] at h25;omega
    ·exact h
   have an6:=oT kM
   refine aC ?_
   refine cp aR (aha _ ae) ?_
   refine bG ?_
   refine aH rfl ?_ ?_<;>intro aen h33
   ·have aAH:m<18446744073709551616:=by simpa using aen
    have esm:(if m<18446744073709551616 then m else 0)=m:=if_pos aAH
    have esn:(if n<18446744073709551616 then n else 0)=n:=if_pos ae
    have aK6:m/n<=m:=vF _ _
    have aKL:=mA m jn
    refine aQ ?_
    refine cp aR (aha _ ae) ?_
    refine bo ?_
    refine a9 11 aq ?_
    refine aT ?_
    refine ak rfl agv ?_
    refine cp aR (abM _ ae) ?_
    refine aT ?_
    refine ak rfl (.bin rfl rfl (amk ae)) ?_
    refine cp aR (abM _ ae) ?_
    refine aZ ?_
    exact aev
   ·refine bM ?_
    refine aH rfl ?_ ?_<;>intro acK h49
    ·have nQ:=abJ (n:=n) ae
     have eLn:=nQ.1
     have nL:=uJ.1 (show (ao n).length<=1 by omega)
     have fu:=mA m jn
     refine aC ?_
     simp only [zZ,gk,eLn]
     refine cp au (az7 m n ae jn nL) ?_
     refine bG ?_
     refine cp aR (abM _ ae) ?_
     refine aZ ?_
     exact aev
    ·obtain⟨ln,hL⟩:∃ ln,(ao n).length=ln+1:=⟨(ao n).length-1,ae⟩
     have eL1:(ao n).length-1=ln:=by omega
     have nz:=aFk (n:=n) ae
     rw [eL1] at nz
     have am9:=afK (afB n) (show 0<(ao n).length by omega)
     rw [eL1] at am9
     have htl:=jc n ln
     have du:dJ ((ao n).getD ln 0)<=32:=wo.2 htl
     have aKU:(ao ((ao n).getD ln 0)).length<=1:=uJ.2 htl
     obtain⟨s,hs⟩:∃ s,s=32-dJ ((ao n).getD ln 0):=⟨_,rfl⟩
     have es:(32:Int)-((dJ ((ao n).getD ln 0):Nat):Int)=((s:Nat):Int):=by rw [aqS du,hs]
     obtain⟨um,kA,aip,wc⟩:=ate (n:=ln) hL hs
     have kD:0<n*2 ^ s:=mG jn (my ae)
     have uU:0<(ao (n*2 ^ s)).getD ln 0:=by have:=avp kA aip;omega
     have hUl:=azP fV um
     have hUV:(ao (n*2 ^ s)).length<=(ao (m*2 ^ s)).length:=oT (fU _ kM)
     obtain⟨K,hK⟩:∃ K,K+ln=(ao (m*2 ^ s)).length:=⟨(ao (m*2 ^ s)).length-ln,ae⟩
     have dj:=azp (m:=m) (n:=n) (s:=s) (K:=K) kA ae ae
     refine aZ ?_
     refine ak rfl lK ?_
     refine ak rfl (.acn (a:=(ao n).length-1) gv rfl qx sQ rfl om) ?_
     rw [eL1,nz]
     refine cp aR (aKu _ ae) ?_
     refine bo ?_
     refine cp au (ap1 _ _ ae um) ?_
     refine aT ?_
     refine cp au (ap1 _ _ ae um) ?_
     refine qF ?_
     refine fL rfl rfl (.nh (n:=K) (m:=K) ml ml om om om) ?_
     refine dM ?_
     refine uE (fun(k R:Nat) (ql:List Nat) L=>(((((((St.mk L.slot (hp [(82,⟨1,ql.map bw,true⟩)])).put (some 1) (bj (n*2 ^ s))).put (some 4) (.ref 82 1 0 K)).put (some 13) (ai s)).put (some 14) (ai (ln+1))).put (some 5) (bj R)).put (some 15) (iL ((k:Int)-1)))) (fun k R ql=>k<=K/\ql.length=K/\bY ql/\R<=m*2 ^ s/\R+(n*2 ^ s)*4294967296 ^ k*val (ql.drop k)=m*2 ^ s/\R<(n*2 ^ s)*4294967296 ^ k) (fun k R ql=>k) K (m*2 ^ s) (ay K 0) ⟨bq _,by simp,wi _,bq _,by rw [kg aM];simp [val],dj⟩ ?_
     rintro k R ql L1 ⟨hk,jV,mO,hRU,hv,bH⟩
     refine aZ ?_
     refine aH rfl ?_ ?_<;>intro aHd wm
     ·obtain⟨j,rfl⟩:∃ j,k=j+1:=⟨k-1,ae⟩
      have ek:(((j+1:Nat):Int)-1)=(j:Int):=by omega
      have p6:((j:Int)+((ln+1:Nat):Int)).toNat=j+(ln+1):=by omega
      have oY:((j:Int)+((ln+1:Nat):Int)-1).toNat=j+ln:=by omega
      have hRl:=oT hRU
      have eln:(((ln+1:Nat):Int)-1).toNat=ln:=by omega
      have fu:=jc R (j+(ln+1))
      have qj:=jc R (j+ln)
      have aur:=aAV (R:=R) (n:=ln) (j:=j) kA bH uU
      have sN:=jc (n*2 ^ s) ln
      refine pa ?_
      refine iM (fun L=>∃ (hi:Nat) (L1:St),(hi=(ao R).getD (j+(ln+1)) 0)/\L=((((((((St.mk L1.slot (hp [(82,⟨1,ql.map bw,true⟩)])).put (some 1) (bj (n*2 ^ s))).put (some 4) (.ref 82 1 0 K)).put (some 13) (ai s)).put (some 14) (ai (ln+1))).put (some 5) (bj R)).put (some 15) (iL (((j+1:Nat):Int)-1))).put (some 16) (cS hi))) ?_ ?_
      ·refine aH rfl ?_ ?_<;>intro aKI h96
       ·refine bC ?_
        exact⟨(ao R).getD (j+(ln+1)) 0,_,rfl,((al (al (al (al (al (al (al (bK cl) cl) cl) cl) cl) cl) cl) cl)).symm⟩
       ·refine aT ?_
        exact⟨0,_,(vq _ _ ae).symm,((al (al (al (al (al (al (al (bK cl) cl) cl) cl) cl) cl) cl) cl)).symm⟩
      ·rintro _ ⟨hi,aKw,iT,rfl⟩
       refine dH ?_
       refine iM (fun L=>∃ (top:Nat) (L1:St),(top=((ao R).getD (j+(ln+1)) 0*4294967296+(ao R).getD (j+ln) 0))/\L=((((((((St.mk L1.slot (hp [(82,⟨1,ql.map bw,true⟩)])).put (some 1) (bj (n*2 ^ s))).put (some 4) (.ref 82 1 0 K)).put (some 13) (ai s)).put (some 14) (ai (ln+1))).put (some 5) (bj R)).put (some 15) (iL (((j+1:Nat):Int)-1))).put (some 16) (cS top))) ?_ ?_
       ·refine aH rfl ?_ ?_<;>intro aK1 aKC
        ·refine aT ?_
         refine ak rfl (.sh rfl rfl (ae3 ae)) ?_
         refine bo ?_
         refine ak rfl (.bin rfl rfl (orU (by simp only [t1,gk,oY];omega) ae)) ?_
         refine aQ ?_
         exact⟨hi*4294967296+(ao R).getD (j+ln) 0,_,by rw [iT],((al (al (al (al (al (al (al (bK cl) cl) cl) cl) cl) cl) cl) cl)).symm⟩
        ·refine aT ?_
         refine ak rfl (.sh rfl rfl (ae3 ae)) ?_
         refine aQ ?_
         exact⟨hi*4294967296,_,by rw [iT,vq (ao R) (j+ln) ae];exact(mS _).symm,((al (al (al (al (al (al (al (bK cl) cl) cl) cl) cl) cl) cl) cl)).symm⟩
       ·rintro _ ⟨top,aLm,htp,rfl⟩
        have aLx:top/(ao (n*2 ^ s)).getD ln 0<=top:=vF _ _
        have edm:(if (4294967295:Int)<((top/(ao (n*2 ^ s)).getD ln 0:Nat):Int) then(4294967295:Int) else((top/(ao (n*2 ^ s)).getD ln 0:Nat):Int))=((min (top/(ao (n*2 ^ s)).getD ln 0) 4294967295:Nat):Int):=by split<;>omega
        subst htp
        obtain⟨d0,jM⟩:∃ d0,d0=min (((ao R).getD (j+(ln+1)) 0*4294967296+(ao R).getD (j+ln) 0)/(ao (n*2 ^ s)).getD ln 0) 4294967295:=⟨_,rfl⟩
        rw [<-jM] at aur edm
        have hdz:d0<4294967296:=by rw [jM];exact uP (aoU _ _) aj
        clear jM
        have edz:d0 % 4294967296=d0:=iW hdz
        have hlz:=eU (adY kA) (uJ.2 hdz)
        refine bM ?_
        refine ak rfl (.bin rfl rfl (ai6 (by simp only [t1,gk,eln];omega) ae)) ?_
        refine bD ?_
        refine cp au (aER _ _ ae ae) ?_
        refine av ?_
        refine cp au (axA _ _ (by rw [edz];omega) ae) ?_
        refine bc ?_
        refine dV (fun(d:Nat) L=>(((((((((St.mk L.slot (hp [(82,⟨1,ql.map bw,true⟩)])).put (some 1) (bj (n*2 ^ s))).put (some 4) (.ref 82 1 0 K)).put (some 13) (ai s)).put (some 14) (ai (ln+1))).put (some 5) (bj R)).put (some 15) (iL (((j+1:Nat):Int)-1))).put (some 17) (cS d)).put (some 18) (bj ((n*2 ^ s)*d*4294967296 ^ j)))) (fun d=>R/4294967296 ^ j/(n*2 ^ s)<=d/\d<4294967296) (fun d=>d) d0 ⟨aur,hdz⟩ ?_
        rintro d L2 ⟨hdq,hdB⟩
        have lY:=eU (adY kA) (uJ.2 hdB)
        have oX:=eU lY (ayg j)
        have nS:=eU (adY kA) (ayg j)
        refine bc ?_
        refine cp au (acH _ _ ae ae) ?_
        refine aQ ?_
        refine aH rfl ?_ ?_<;>intro aKV aio
        ·have hgt:R<n*2 ^ s*d*4294967296 ^ j:=by unfold kt at aio;split at aio;omega;split at aio;assumption;omega
         have hdq:=aBu kD hgt
         have jM:1<=d:=uP (b8 _) hdq
         have alv:=aEK (V:=n*2 ^ s) (j:=j) jM
         have edd:=aDG (V:=n*2 ^ s) (j:=j) jM
         refine dM ?_
         refine cp au (axA _ _ ae ae) ?_
         refine cp au (alb _ _ ae ae alv) ?_
         refine aA ?_
         exact jL (d-1) ⟨ae,ae⟩
        ·have gO:n*2 ^ s*d*4294967296 ^ j<=R:=by
          rcases gC R (n*2 ^ s*d*4294967296 ^ j) with h | h
          ·rw [tZ h] at aio;omega
          ·exact h
         have hdE:=Nat.le_antisymm (aAL kD gO) hdq
         obtain⟨nQ,nL⟩:=aFp kD hdE gO (show j<ql.length by omega) hv
         have ed:d % 4294967296=d:=iW hdB
         refine qF ?_
         refine cp au (alb _ _ ae ae gO) ?_
         refine bM ?_
         exact ui j (R-(n*2 ^ s)*d*4294967296 ^ j) (ql.set j d) ⟨ae,by simp [jV],nB mO _ _ hdB,ba (agK _ _) hRU,nQ,nL⟩
     ·obtain rfl:k=0:=by omega
      rw [mn,acv,jR] at hv
      rw [acv,jR] at bH
      have hRl:=oT hRU
      obtain⟨hqf,hRf⟩:=asL (ul:=ao R) (ql:=ql) (A:=m) (s:=s) jn (by rw [cq];exact hv) (by rw [cq];exact bH)
      rw [cq] at hRf
      refine bo ?_
      refine tz [82] tC (vU _ jf ae) ?_
      refine aT ?_
      rw [hRf]
      refine cp au (aKj (m % n) s (by rw [<-hRf];omega) um) ?_
      refine aC ?_
      rw [<-hqf]
      exact aev
namespace aqN
theorem aO {p q:Prop} (k:q) (e:p=q:=by simp only [e1,e2,e3,e4,p1,p2,p3,q1,q2,q3,l1,t0,t1,r1,r2,r3,r4,Nat.zero_add,Nat.reduceMul,Nat.reduceAdd,b1,b2,b3,b4,b5,b6,i1,i2,i3,i4,i5,i6,Nat.reduceBEq,gk,cq,esm,esn];exact rfl):p:=e.mpr k
end aqN
open aqN in
theorem aGt (m n:Nat) (fV:(ao m).length<=68719476736) (mH:(ao n).length<=68719476736):ax an 204 [bj m,bj n] (bj (fX m n)):=by
 refine aW Tryz.func204 ?_
 have esm:True:=trivial
 have esn:True:=trivial
 refine bo ?_
 refine cp aR (vU _ (cT _) ae) ?_
 refine av ?_
 refine cp aR (vU _ (cT _) ae) ?_
 refine aC ?_
 refine ma (fun(x y:Nat) L=>(((St.mk L.slot (hp [])).put (some 0) (bj x)).put (some 1) (bj y))) (fun x y=>fX x y=fX m n/\(ao x).length<=68719476736/\(ao y).length<=68719476736) (fun x y=>y) m n ⟨rfl,fV,mH⟩ ?_
 rintro x y L1 ⟨hg,hx,hy⟩
 refine bo ?_
 refine aH rfl ?_ ?_<;>intro uO uY
 ·have jE:0<y:=vD (fun h=>by rw [h,wN] at uY;simp at uY)
  refine aC ?_
  refine cp aR (aha _ ae) ?_
  refine bM ?_
  refine cp aR (aha _ ae) ?_
  refine bD ?_
  refine iM (fun L=>∃ (t:Bool) (L1:St),(t=decide (x<18446744073709551616/\y<18446744073709551616))/\L=((((((St.mk L1.slot (hp [])).put (some 0) (bj x)).put (some 1) (bj y)).put (some 5) (cS (if x<18446744073709551616 then x else 0))).put (some 7) (cS (if y<18446744073709551616 then y else 0))).put (some 32) (bL t))) ?_ ?_
  ·refine aQ ?_
   refine ez 30 rfl ?_ ?_<;>intro ad8 h30
   ·refine aA ?_
    exact⟨decide (y<18446744073709551616),_,by rw [decide_eq_decide];omega,((al (al (al (al (al (bK cl) cl) cl) cl) cl) cl)).symm⟩
   ·refine aA ?_
    exact⟨false,_,by symm;rw [decide_eq_false_iff_not];omega,((al (al (al (al (al (bK cl) cl) cl) cl) cl) cl)).symm⟩
  ·rintro _ ⟨t,LR5,ht,rfl⟩
   refine av ?_
   refine aH rfl ?_ ?_<;>intro ahd h32
   ·rw [ht,decide_eq_true_iff] at ahd
    obtain⟨ax5,arq⟩:=ahd
    have esm:(if x<18446744073709551616 then x else 0)=x:=if_pos ax5
    have esn:(if y<18446744073709551616 then y else 0)=y:=if_pos arq
    refine aT ?_
    refine ma (fun(p q:Nat) L=>(((St.mk L.slot (hp [])).put (some 5) (cS p)).put (some 7) (cS q))) (fun p q=>fX p q=fX m n/\p<18446744073709551616/\q<18446744073709551616) (fun p q=>q) x y ⟨hg,ax5,arq⟩ ?_
    rintro p q L2 ⟨zC,hm,hn⟩
    refine aZ ?_
    refine aH rfl ?_ ?_<;>intro aiB h34
    ·refine aQ ?_
     refine a9 6 aq ?_
     refine bD ?_
     exact jh q (p % q) ⟨by rw [rD,<-aek,rD];exact zC,hn,by have:=mA p (show q > 0 by omega);omega⟩ (hm:=mA _ ae)
    ·obtain rfl:q=0:=by omega
     refine bo ?_
     refine cp aR (abM _ ae) ?_
     refine bD ?_
     rw [<-zC,afa]
     exact eB
   ·refine aC ?_
    refine cp au (anJ _ _ ae ae (by first | assumption | omega)) ?_
    refine jI ?_
    exact jh y (x % y) ⟨by rw [rD,<-aek,rD];exact hg,hy,ba (oT (yB (mA x jE))) hy⟩ (hm:=mA _ jE)
 ·have jE:y=0:=tv.1 (nM ae)
  refine bG ?_
  subst jE
  rw [<-hg,afa]
  exact eB
section
variable {q a b:Rat}
theorem aAK:(-q<0)↔0<q:=by grind
theorem anc {n:Nat}:0<(ao n).length↔0<n:=by
 constructor
 ·intro h;exact vD (fun e=>by rw [e,wN] at h;cases h)
 ·intro h;exact List.length_pos_iff.2 (fun e=>by have:=tv.1 e;omega)
theorem aCs:0<q↔0<q.num:=by rw [atX];simp
theorem ahU (h:(!decide (q<0))=true):decide (((ao q.num.natAbs).length:Int) > 0)=decide (-q<0):=by
 rw [decide_eq_decide,aAK,aCs]
 have h1:¬ q<0:=by simpa using h
 rw [agP] at h1
 have:=anc (n:=q.num.natAbs)
 omega
theorem aiG (h:(!decide (q<0))=false):false=decide (-q<0):=by
 have h1:q<0:=by simpa using h
 symm;rw [decide_eq_false_iff_not];grind
theorem aJi (s:Bool) (h:s=decide (-q<0)):ah (-q)=.agg [.v (.bool s),bj q.num.natAbs,bj (jT q)]:=by
 rw [wz,h,xu,xu,anO,akq,aky]
theorem ai4:a=b↔decide (a<0)=decide (b<0)/\a.num.natAbs=b.num.natAbs/\jT a=jT b:=by
 constructor
 ·rintro rfl;exact⟨rfl,rfl,rfl⟩
 ·rintro⟨h1,h2,h3⟩
  have hd:a.den=b.den:=amI (by rw [h3])
  rw [<-nx a,<-nx b,h1,h2,hd]
theorem asF {m n:Nat}:(kt m n==0)=decide (m=n):=by
 rw [aep,beq_iff_eq,decide_eq_true_iff];unfold kt;split
 ·omega
 ·split<;>omega
theorem axl (h:(decide (a<0)==decide (b<0))=false):false=decide (a=b):=by
 symm;rw [decide_eq_false_iff_not,ai4];intro h2;rw [h2.1] at h;simp at h
theorem aHV (h2:(kt a.num.natAbs b.num.natAbs==0)=false):false=decide (a=b):=by
 rw [asF] at h2
 symm;rw [decide_eq_false_iff_not,ai4];intro h3;rw [decide_eq_false_iff_not] at h2;exact h2 h3.2.1
theorem aKp (h:(decide (a<0)==decide (b<0))=true) (h2:(kt a.num.natAbs b.num.natAbs==0)=true):(kt (jT a) (jT b)==0)=decide (a=b):=by
 rw [asF] at h2 ⊢
 rw [decide_eq_decide,ai4]
 exact⟨fun h3=>⟨eq_of_beq h,of_decide_eq_true h2,h3⟩,fun h3=>h3.2.2⟩
end
end Go.Proofs.YtckppbhafancnaaGreat
namespace Go.Lg
open Go.Proofs.YtckppbhafancnaaGreat in
theorem g7.ajd {P:Program} {L:St} {dst:Option Nat} {T:TypeId} {p x:Operand} {b:Nat} {q:Rat} {s:Bool} (hp:L.ev p=.aD b 3 0 0) (hb:L.heap b=some ⟨3,[ah q],true⟩) (hx:L.ev x=.v (.bool s)) (hT:bE P T 1 false)
  (hs:s=decide (-q<0)):g7 P L dst (.store T p x) ((L.bO b (some ⟨3,[ah (-q)],true⟩)).put dst .any):=by
 have h0:LV.put (ah q) 0 (L.ev x)=some (ah (-q)):=by
  rw [hx,aJi s hs,wz q]
  have e1:∀ n,(bj n).aw=1:=fun _=>rfl
  simp [LV.put,zg,da,LV.aw,LV.isAgg]
 exact g7.store (P:=P) (dst:=dst) (T:=T) (p:=p) (x:=x) (y:=ah q) (y':=ah (-q)) hp hb rfl rfl rfl (ar.aw _) h0 (by rw [hx];exact hT) (by rw [hx];exact⟨(fun h=>by cases h),(fun _ h=>by cases h)⟩)
end Go.Lg
namespace Go.Proofs.YtckppbhafancnaaGreat
open Go.Lg
theorem aGK {n:Int} (h1:-9223372036854775808<=n) (h2:n<0):IntKind.i64.wrap (0-(n+1))=(((-(n+1)).toNat:Nat):Int):=by
 rw [IntWalk.i64_in _ ae];omega
open H0 in
theorem zw (q:Rat):ax an 137 [ah q] (bj q.den):=by
 refine aW Tryz.func137 ?_
 refine iE ?_
 refine aH rfl ?_ ?_<;>intro x8 h6
 ·have ki:=aoo (show (ao (jT q)).length=0 by omega)
  refine bo ?_
  rw [ki,show bj 1=.list 1 ([1].map bw) from rfl]
  exact o4 [7] rfl rfl (fI gv rfl rfl rfl)
 ·have ki:=ajQ (q:=q) ae
  refine bM ?_
  rw [<-ki]
  exact eB
namespace atz
theorem aO {p q:Prop} (k:q) (e:p=q:=by simp only [e1,e2,e3,e4,p1,p2,p3,q1,q2,q3,l1,t0,t1,r1,r2,r3,r4,Nat.zero_add,Nat.reduceMul,Nat.reduceAdd,b1,b2,b3,b4,b5,b6,i1,i2,i3,i4,i5,i6,Nat.reduceBEq,gk,cq,zZ];exact rfl):p:=e.mpr k
end atz
open atz in
theorem adN (s:Bool) (m n:Nat) (fV:(ao m).length<=68719476736) (mH:(ao n).length<=68719476736) (jn:0<n):ax an 138 [bL s,bj m,bj n] (ah (qv s m n)):=by
 refine aW Tryz.func138 ?_
 refine bo ?_
 refine cp aR (vU _ (cT _) ae) ?_
 refine av ?_
 refine cp aR (vU _ (cT _) ae) ?_
 refine bG ?_
 refine aH rfl ?_ ?_<;>intro qC lG
 ·have hm:m=0:=tv.1 (nM ae)
  refine bo ?_
  rw [hm,af6,q8]
  exact adj
 ·have iB:0<m:=anc.1 ae
  have hg:0<fX m n:=amN _ iB
  have hE:=aeW s iB jn
  have hgl:(ao (fX m n)).length<=68719476736:=ba (oT (acW iB (abg _ _))) fV
  have hqa:(ao (m/fX m n)).length<=68719476736:=ba (oT (vF _ _)) fV
  have hqb:(ao (n/fX m n)).length<=68719476736:=ba (oT (vF _ _)) mH
  have aCC:=abJ (n:=fX m n)
  refine aC ?_
  refine cp au (aGt _ _ ae ae) ?_
  refine bc ?_
  refine iM (fun L=>∃ (t:Bool) (L1:St),(t=decide (fX m n≠1))/\L=(((((((St.mk L1.slot (hp [(6,⟨3,[.agg [.v (.bool false),.list 1 [],.list 1 []]],true⟩)])).put (some 0) (bL s)).put (some 1) (bj m)).put (some 2) (bj n)).put (some 6) (.aD 6 3 0 0)).put (some 7) (bj (fX m n))).put (some 27) (bL t))) ?_ ?_
  ·refine bc ?_
   refine ez 22 rfl ?_ ?_<;>intro aeH h22
   ·refine aZ ?_
    exact⟨true,_,by symm;rw [decide_eq_true_iff];intro e;rw [e,aje] at h22;exact h22 rfl,((al (al (al (al (al (al (bK cl) cl) cl) cl) cl) cl) cl)).symm⟩
   ·refine aZ ?_
    exact⟨(((ao (fX m n)).getD 0 0:Int) != 1),_,by have:=(aCC ae).1;rw [aep,bne_iff_ne,decide_eq_true_iff];omega,((al (al (al (al (al (al (bK cl) cl) cl) cl) cl) cl) cl)).symm⟩
  ·rintro _ ⟨t,LR5,ht,rfl⟩
   refine av ?_
   refine iM (fun L=>∃ (x:Nat) (y:Nat) (L1:St),(x=m/fX m n/\y=n/fX m n)/\L=(((((St.mk L1.slot (hp [(6,⟨3,[.agg [.v (.bool false),.list 1 [],.list 1 []]],true⟩)])).put (some 0) (bL s)).put (some 1) (bj x)).put (some 2) (bj y)).put (some 6) (.aD 6 3 0 0))) ?_ ?_
   ·refine aH rfl ?_ ?_<;>intro zu h27
    ·refine aA ?_
     refine cp au (anJ _ _ ae ae hg) ?_
     refine bM ?_
     refine cp au (anJ _ _ ae ae hg) ?_
     refine aZ ?_
     exact⟨m/fX m n,n/fX m n,_,⟨rfl,rfl⟩,((al (al (al (al (bK cl) cl) cl) cl) cl)).symm⟩
    ·have oh:fX m n=1:=by rw [ht,decide_eq_false_iff_not] at zu;omega
     refine aT ?_
     exact⟨m,n,_,⟨by rw [oh,afh],by rw [oh,afh]⟩,((al (al (al (al (bK cl) cl) cl) cl) cl)).symm⟩
   ·rintro _ ⟨x,y,aCL,⟨hx,hy⟩,rfl⟩
    rw [<-hx,<-hy] at hE
    have jE:0<y:=by rw [hy];exact ahM (acW jn (al0 _ _)) hg
    refine bo ?_
    refine ez 45 rfl ?_ ?_<;>intro aLN h45
    ·refine aZ ?_
     refine aH rfl ?_ ?_<;>intro aKT h50
     ·have ke:y=1:=by have:=(abJ (n:=y) ae).1;omega
      refine dM ?_
      rw [hE,if_pos ke]
      exact iG [] rfl rfl rfl rfl rfl db (.agg (.cons (.pure rfl) (.cons (.pure (kH _)) (.cons (.nil 1) .nil))))
     ·have ke:y≠1:=by have:=(abJ (n:=y) ae).1;omega
      refine bG ?_
      rw [hE,if_neg ke]
      exact afn
    ·have ke:y≠1:=fun e=>by rw [e,aje] at h45;exact h45 rfl
     refine pa ?_
     rw [hE,if_neg ke]
     exact afn
open H0 in
theorem ajX (n:Int) (h1:-9223372036854775808<=n) (h2:n<=9223372036854775807):ax an 36 [iL n] (.bf [bj n.natAbs,bL (decide (n<0))]):=by
 refine aW Tryz.func36 ?_
 refine dH ?_
 refine aH rfl ?_ ?_<;>intro h5r h5
 ·refine aA ?_
  refine ak rfl (.neg rfl) ?_
  refine ak rfl (.ajl (n:=(-(n+1)).toNat) aiw ajE (by simp only [e1,p1,p2,wF];rw [aGK h1 h5]) ae) ?_
  refine ak rfl (.bin rfl rfl (asK (show (-(n+1)).toNat+1<18446744073709551616 by omega))) ?_
  refine cp aR (abM ((-(n+1)).toNat+1) ae) ?_
  refine aC ?_
  rw [decide_eq_true h5,show n.natAbs=(-(n+1)).toNat+1 by omega]
  exact xm rfl (.pure (kH _)) rfl (.pure rfl)
 ·refine bc ?_
  refine ak rfl (.ajl (n:=n.natAbs) aiw ajE (by simp only [e1,p1,p2,wF];rw [show ((n.natAbs:Nat):Int)=n by omega];rfl) ae) ?_
  refine cp aR (abM n.natAbs ae) ?_
  refine bc ?_
  rw [decide_eq_false h5]
  exact xm rfl (.pure (kH _)) rfl (.pure rfl)
open H0 in
theorem aFA (n d:Int) (h1:-9223372036854775808<=n) (h2:n<=9223372036854775807) (h3:-9223372036854775808<=d) (h4:d<=9223372036854775807) (hd:d≠0):ax an 78 [iL n,iL d] (.bf [ah ((n:Rat)/(d:Rat)),iL 0]):=by
 refine aW Tryz.func78 ?_
 refine dH ?_
 refine aH rfl ?_ ?_<;>intro ajG h11
 ·exact absurd h11 hd
 ·refine bc ?_
  refine cp aR (ajX _ ae ae) ?_
  refine bM ?_
  refine cp aR (ajX _ ae ae) ?_
  refine dM ?_
  refine cp ig (adN (decide (n<0) != decide (d<0)) n.natAbs d.natAbs (ba (aas.2 ae) ae) (ba (aas.2 ae) ae) ae) ?_
  refine bc ?_
  rw [<-afs]
  exact agD
open H0 in
theorem aby (n d:Int) (h1:-9223372036854775808<=n) (h2:n<=9223372036854775807) (h3:-9223372036854775808<=d) (h4:d<=9223372036854775807) (hd:d≠0):ax an 35 [iL n,iL d] (ah ((n:Rat)/(d:Rat))):=by
 refine aW Tryz.func35 ?_
 refine bD ?_
 refine cp au (aFA _ _ ae ae ae ae ae) ?_
 refine iE ?_
 exact gy
open H0 in
theorem so (n:Int) (h1:-9223372036854775808<=n) (h2:n<=9223372036854775807):ax an 13 [iL n] (ah (n:Rat)):=by
 refine aW Tryz.func13 ?_
 refine bo ?_
 refine cp aR (ajX _ ae ae) ?_
 refine oF ?_
 rw [<-aeF n]
 have hz:n.natAbs=0\/0<n.natAbs:=by omega
 rcases hz with hz | hz
 ·obtain rfl:n=0:=by omega
  rw [show qv (decide ((0:Int)<0)) (0:Int).natAbs 1=0 from af6 _ _,q8]
  exact adj
 ·rw [aeW _ hz ae,Nat.gcd_one_right,afh,if_pos ae]
  exact iG [] rfl rfl rfl rfl rfl db (.agg (.cons (.pure rfl) (.cons (.pure (kH _)) (.cons (.pure rfl) .nil))))
open H0 in
theorem amY (a b:Rat) (h:rl a+rl b<=1099511627776):ax an 21 [ah a,ah b] (bL (decide (a=b))):=by
 have a1:=nd a
 have a3:=n8 a
 have c1:=nd b
 have c3:=n8 b
 refine aW Tryz.func21 ?_
 refine iE ?_
 refine ez 10 rfl ?_ ?_<;>intro ob qf
 ·refine aA ?_
  refine cp au (acH _ _ ae ae) ?_
  refine aQ ?_
  refine ez 18 rfl ?_ ?_<;>intro uO uY
  ·refine aA ?_
   refine cp au (acH _ _ ae ae) ?_
   refine aC ?_
   rw [<-aKp ob uO]
   exact eB
  ·refine bC ?_
   rw [<-aHV uO]
   exact eB
 ·refine pU ?_
  rw [<-axl ob]
  exact eB
open H0 in
theorem ar0 (q:Rat):ax an 70 [ah q] (iL (cW q)):=by
 have hq:=axY q
 refine aW Tryz.func70 ?_
 refine iE ?_
 refine aH rfl ?_ ?_<;>intro x8 h6
 ·have hz:q.num.natAbs=0:=tv.1 (nM ae)
  refine aZ ?_
  rw [hq,if_pos hz]
  exact eB
 ·have hz:q.num.natAbs≠0:=fun e=>by rw [e,wN] at h6;exact h6 rfl
  refine bD ?_
  refine aH rfl ?_ ?_<;>intro pZ h8
  ·refine aZ ?_
   rw [hq,if_neg hz,if_pos h8]
   exact eB
  ·refine bo ?_
   rw [hq,if_neg hz,if_neg h8]
   exact eB
open H0 in
theorem aBK (q:Rat):ax an 129 [ah q] (ah (-q)):=by
 refine aW Tryz.func129 ?_
 refine bG ?_
 refine ez 6 rfl ?_ ?_<;>intro x8 h6
 ·refine aC ?_
  refine bS rfl (.ajd rfl rfl rfl T4 (by first | exact ahU x8 | exact aiG x8)) ?_
  refine bD ?_
  exact gy
 ·refine aC ?_
  refine bS rfl (.ajd rfl rfl rfl T4 (by first | exact ahU x8 | exact aiG x8)) ?_
  refine bD ?_
  exact gy
open H0 in
theorem vf (a b:Rat) (h:rl a+rl b<=34359738368):ax an 60 [ah a,ah b] (ah (a*b)):=by
 have a1:=nd a
 have a2:=oO a
 have a3:=n8 a
 have c1:=nd b
 have c2:=oO b
 have c3:=n8 b
 have a0:=a.den_pos
 have c0:=b.den_pos
 have m1:=eU a1 c2
 have m2:=eU c1 a2
 have m3:=eU a2 c2
 have m4:=eU a1 c1
 have m5:=eU a2 c1
 have m6:=eU c2 a2
 have np:=mG a0 c0
 have hE:=ajR (decide (a<0)) (decide (b<0)) a.num.natAbs a.den b.num.natAbs b.den
 rw [nx,nx] at hE
 refine aW Tryz.func60 ?_
 refine bo ?_
 refine a9 16 aq ?_
 refine bD ?_
 refine cp au (y5 _ _ ae ae) ?_
 refine av ?_
 refine cp aR (zw _) ?_
 refine av ?_
 refine cp aR (zw _) ?_
 refine cp au (y5 _ _ ae ae) ?_
 refine cp ig (adN _ _ _ ae ae np) ?_
 refine aA ?_
 rw [hE]
 exact gy
open H0 in
theorem axv (a b:Rat) (h:rl a+rl b<=34359738368):ax an 226 [ah a,ah b] (.bf [ah (a/b),iL (if b=0 then 3 else 0)]):=by
 have a1:=nd a
 have a2:=oO a
 have a3:=n8 a
 have c1:=nd b
 have c2:=oO b
 have c3:=n8 b
 have a0:=a.den_pos
 have c0:=b.den_pos
 have m1:=eU a1 c2
 have m2:=eU c1 a2
 have m3:=eU a2 c2
 have m4:=eU a1 c1
 have m5:=eU a2 c1
 have m6:=eU c2 a2
 have np:=mG a0 c0
 have hE:=ahL (decide (a<0)) (decide (b<0)) a.num.natAbs a.den b.num.natAbs b.den
 rw [nx,nx] at hE
 refine aW Tryz.func226 ?_
 refine jI ?_
 refine aH rfl ?_ ?_<;>intro wQ h9
 ·have hz:=aaD (q:=b) ae
  refine bD ?_
  subst hz
  rw [show a/0=0 by rw [iV];simp,q8]
  exact vW [] rfl rfl rfl rfl rfl db (.pure rfl) rfl (.pure rfl)
 ·have gE:0<b.num.natAbs:=anc.1 ae
  have hz:b≠0:=by rintro rfl;exact absurd gE aj
  refine aQ ?_
  refine a9 16 aq ?_
  refine bo ?_
  refine cp aR (zw _) ?_
  refine cp au (y5 _ _ ae ae) ?_
  refine av ?_
  refine cp aR (zw _) ?_
  refine aT ?_
  refine cp au (y5 _ _ ae ae) ?_
  refine cp ig (adN _ _ _ ae ae (mG a0 gE)) ?_
  refine bc ?_
  rw [hE,if_neg hz]
  exact agD
open H0 in
theorem azi (a b:Rat) (h:rl a+rl b<=34359738368):ax an 128 [ah a,ah b] (ah (a/b)):=by
 refine aW Tryz.func128 ?_
 refine bC ?_
 refine cp au (axv _ _ ae) ?_
 refine iE ?_
 exact gy
namespace asD
theorem aO {p q:Prop} (k:q) (e:p=q:=by simp only [e1,e2,e3,e4,p1,p2,p3,q1,q2,q3,l1,t0,t1,r1,r2,r3,r4,Nat.zero_add,Nat.reduceMul,Nat.reduceAdd,b1,b2,b3,b4,b5,b6,i1,i2,i3,i4,i5,i6,Nat.reduceBEq,cq,eSb];exact rfl):p:=e.mpr k
end asD
open asD in
theorem qO (a b:Rat) (h:rl a+rl b<=34359738368):ax an 59 [ah a,ah b] (ah (a+b)):=by
 have a1:=nd a
 have a2:=oO a
 have a3:=n8 a
 have c1:=nd b
 have c2:=oO b
 have c3:=n8 b
 have a0:=a.den_pos
 have c0:=b.den_pos
 have m1:=eU a1 c2
 have m2:=eU c1 a2
 have m3:=eU a2 c2
 have m4:=eU a1 c1
 have m5:=eU a2 c1
 have m6:=eU c2 a2
 have np:=mG a0 c0
 have m7:(ao (a.num.natAbs*b.den+b.num.natAbs*a.den)).length<=rl a+rl b+1:=an1 m1 ae
 have ls1:(ao (a.num.natAbs*b.den-b.num.natAbs*a.den)).length<=rl a+rl b:=ba (oT (agK _ _)) m1
 have ls2:(ao (b.num.natAbs*a.den-a.num.natAbs*b.den)).length<=rl b+rl a:=ba (oT (agK _ _)) m2
 refine aW Tryz.func59 ?_
 have eSb:True:=trivial
 refine oF ?_
 refine aH rfl ?_ ?_<;>intro qI nG
 ·have hz:=aaD (q:=a) ae
  refine bo ?_
  rw [hz,Rat.zero_add]
  exact gy
 ·refine bC ?_
  refine aH rfl ?_ ?_<;>intro aaL h20
  ·have hz:=aaD (q:=b) ae
   refine bo ?_
   rw [hz,Rat.add_zero]
   exact gy
  ·refine aQ ?_
   refine a9 12 aq ?_
   refine aQ ?_
   refine cp aR (zw _) ?_
   refine cp au (y5 _ _ ae ae) ?_
   refine aQ ?_
   refine cp aR (zw _) ?_
   refine cp au (y5 _ _ ae ae) ?_
   refine bc ?_
   refine a9 6 aq ?_
   refine av ?_
   refine cp aR (zw _) ?_
   refine av ?_
   refine cp aR (zw _) ?_
   refine cp au (y5 _ _ ae ae) ?_
   refine dH ?_
   refine aH rfl ?_ ?_<;>intro adM h41
   ·refine av ?_
    refine a9 7 aq ?_
    refine aA ?_
    refine cp au (aBJ _ _ ae ae) ?_
    refine av ?_
    refine cp ig (adN _ _ _ ae ae np) ?_
    refine bc ?_
    have E:=add_same (k:=1) (x:=a.num.natAbs*b.den) (y:=b.num.natAbs*a.den) (d:=a.den*b.den) ae (jR _) (jR _) (jR _) (eq_of_beq adM)
    rw [aja,<-eq_of_beq adM] at E
    rw [E]
    exact gy
   ·refine aZ ?_
    refine cp au (acH _ _ ae ae) ?_
    refine aQ ?_
    refine aH rfl ?_ ?_<;>intro aLd h52
    ·have bH:a.num.natAbs*b.den<b.num.natAbs*a.den:=by unfold kt at h52;split at h52;assumption;split at h52<;>omega
     have eSb:=agJ (yB bH)
     refine aA ?_
     refine cp au (aqO _ _ ae ae) ?_
     refine dH ?_
     refine cp ig (adN _ _ _ ae ae np) ?_
     refine bc ?_
     have E:=amf (k:=1) (x:=a.num.natAbs*b.den) (y:=b.num.natAbs*a.den) (d:=a.den*b.den) ae (jR _) (jR _) (jR _) (ac9 adM) (yB bH)
     rw [aja] at E
     rw [E]
     exact gy
    ·have hle:b.num.natAbs*a.den<=a.num.natAbs*b.den:=by
      rcases gC (a.num.natAbs*b.den) (b.num.natAbs*a.den) with h | h
      ·rw [rI h] at h52;omega
      ·exact h
     have eSb:=agJ hle
     refine aC ?_
     refine cp au (aqO _ _ ae ae) ?_
     refine dH ?_
     refine cp ig (adN _ _ _ ae ae np) ?_
     refine aA ?_
     have E:=amh (k:=1) (x:=a.num.natAbs*b.den) (y:=b.num.natAbs*a.den) (d:=a.den*b.den) ae (jR _) (jR _) (jR _) (ac9 adM) hle
     rw [aja] at E
     rw [E]
     exact gy
open H0 in
theorem aa9 (a b:Rat) (h:rl a+rl b<=34359738368):ax an 62 [ah a,ah b] (ah (a-b)):=by
 refine aW Tryz.func62 ?_
 refine bo ?_
 refine a9 4 aq ?_
 refine aT ?_
 refine cp aR (aBK _) ?_
 refine cp au (qO _ _ (by rw [ai3];omega)) ?_
 refine aA ?_
 rw [af3]
 exact gy
open H0 in
theorem akb (a b:Rat) (h:rl a+rl b<=34359738368):ax an 58 [ah a,ah b] (iL (gJ a b)):=by
 have a1:=nd a
 have a2:=oO a
 have a3:=n8 a
 have c1:=nd b
 have c2:=oO b
 have c3:=n8 b
 have a0:=a.den_pos
 have c0:=b.den_pos
 have m1:=eU a1 c2
 have m2:=eU c1 a2
 have m3:=eU a2 c2
 have m4:=eU a1 c1
 have m5:=eU a2 c1
 have m6:=eU c2 a2
 have np:=mG a0 c0
 refine aW Tryz.func58 ?_
 refine bD ?_
 refine a9 6 aq ?_
 refine av ?_
 refine cp aR (ar0 _) ?_
 refine av ?_
 refine cp aR (ar0 _) ?_
 refine bC ?_
 refine aH rfl ?_ ?_<;>intro qC lG
 ·refine bo ?_
  refine aH rfl ?_ ?_<;>intro ac2 h17
  ·refine bo ?_
   rw [apl h17]
   exact eB
  ·refine bD ?_
   rw [avV ae]
   exact eB
 ·have oM:cW a=cW b:=by omega
  obtain⟨c,hc⟩:∃ c,c=kt (a.num.natAbs*b.den) (b.num.natAbs*a.den):=⟨_,rfl⟩
  refine aQ ?_
  refine a9 12 aq ?_
  refine aQ ?_
  refine cp aR (zw _) ?_
  refine cp au (y5 _ _ ae ae) ?_
  refine aQ ?_
  refine cp aR (zw _) ?_
  refine cp au (y5 _ _ ae ae) ?_
  refine cp au (acH _ _ ae ae) ?_
  refine bM ?_
  refine aH rfl ?_ ?_<;>intro ad8 h30
  ·refine bD ?_
   rw [ai1 oM,if_pos h30,<-ayn rfl]
   exact eB
  ·refine bD ?_
   rw [ai1 oM,if_neg h30]
   exact eB
end Go.Proofs.YtckppbhafancnaaGreat
end
