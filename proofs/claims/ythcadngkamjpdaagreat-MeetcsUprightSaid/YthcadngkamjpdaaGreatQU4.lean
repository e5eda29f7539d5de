/- Texts LgTy, N1, N2, N3, N4, N5, N6, N7, N8, N9, N10, N11, R1, R2, R3, R4, R5 of this proof, joined. -/
import Derived.Test.YthcadngkamjpdaaGreatQU3
import Derived.Test.YthcadngkamjpdaaGreatChecked
set_option linter.unusedVariables false
set_option linter.unusedSimpArgs false
open Bool renaming eq_iff_iff->ags,false_eq_true->adn
open Classical renaming byContradiction->se
open Go.Proofs.Tryz renaming f212->afz,func209->atG,func246->awV,prog->ak,t125->atP,t143->aoY,t152->atW,t174->avK,t190->axi,t29->axb,t32->aqN,t46->av3,t48->atu,t54->auy,t64->avH,underlying125->axr,underlying143->ap1,underlying150->jv,underlying152->atj,underlying160->ox,underlying168->atr,underlying174->ate,underlying180->ahI,underlying186->me,underlying187->ave,underlying190->art,underlying2->ah6,underlying200->arT,underlying203->ad1,underlying22->awa,underlying221->avB,underlying235->asl,underlying236->arf,underlying238->asK,underlying245->yQ,underlying26->dY,underlying266->aqZ,underlying27->qb,underlying29->atf,underlying3->arW,underlying30->oX,underlying32->aqT,underlying36->oA,underlying4->ara,underlying41->auS,underlying44->qd,underlying46->avm,underlying48->aua,underlying5->aoG,underlying54->avj,underlying62->kj,underlying64->awn,underlying79->axk,underlying81->awQ,underlying93->asj,underlying97->adF,underlying98->asN
open Int renaming natAbs_neg->akg
open List renaming drop_length->ad6,drop_of_length_le->kB,drop_zero->ks,eq_nil_of_length_eq_zero->oC,getD_eq_getElem?_getD->bE,replicate->aV,take_length->mQ,take_of_length_le->cE
open Nat renaming add_comm->mH,add_mul->iw,add_sub_cancel->rO,add_zero->mg,div_add_mod->yG,div_eq_of_lt->aaM,div_le_self->uO,div_lt_iff_lt_mul->nw,div_mul_le_self->arc,div_one->aeV,div_pos->ahq,gcd->fL,gcd_comm->qj,gcd_dvd_left->aaH,gcd_dvd_right->alT,gcd_pos_of_pos_left->amR,gcd_rec->ad2,gcd_zero_right->aeR,le_div_iff_mul_le->yl,le_of_dvd->acr,le_of_eq->adz,le_of_lt->xz,le_refl->bF,le_total->alI,le_trans->bb,lt_of_le_of_lt->xD,lt_of_lt_of_le->abQ,lt_or_eq_of_le->atn,lt_or_ge->kD,min_le_right->aoX,mod_eq_of_lt->ir,mod_lt->jX,mul_add->eA,mul_assoc->fJ,mul_comm->eH,mul_le_mul_left->lr,mul_le_mul_right->eT,mul_one->kE,mul_pos->qn,mul_zero->zC,pos_of_ne_zero->uN,pow_add->mA,pow_le_pow_right->oy,pow_pos->lC,pow_succ->jw,pow_zero->air,reduceAdd->wz,reduceBEq->uC,reduceMul->aba,sub_le->agn,sub_mul->awU,succ_mul->iK,zero_add->fg,zero_le->bS,zero_mod->as6,zero_mul->sb
open Option.some renaming injEq->fv
open Rat renaming lt_iff->at3,neg_den->akr,neg_num->anX,num_eq_zero->ax7
section
set_option linter.unusedVariables false
set_option linter.unusedSimpArgs false
set_option maxHeartbeats 8000000
set_option maxRecDepth 100000
namespace Go.Proofs.YthcadngkamjpdaaGreat
open Go.Lg
theorem fol:ak.follows .mixedOrders=true:=by kernel_rfl
theorem T2:bK ak 2 1 false:=⟨by kernel_rfl,_,ah6,rfl⟩
theorem B2:kZ ak 2 8:=⟨Tryz.t2,by kernel_rfl,rfl⟩
theorem Z2:cF ak 2 (.v (.int .i64 0)):=⟨Tryz.t2,_,by kernel_rfl,rfl,rfl,fun _ _ _=>cV rfl⟩
instance:TI ak 2 1 false:=⟨T2⟩
theorem T3:bK ak 3 1 false:=⟨by kernel_rfl,_,arW,rfl⟩
theorem B3:kZ ak 3 8:=⟨Tryz.t3,by kernel_rfl,rfl⟩
theorem Z3:cF ak 3 (.v (.int .i64 0)):=⟨Tryz.t3,_,by kernel_rfl,rfl,rfl,fun _ _ _=>cV rfl⟩
instance:TI ak 3 1 false:=⟨T3⟩
instance:ZI ak 3 (.v (.int .i64 0)):=⟨Z3⟩
instance:UN ak 4 .bool:=⟨ara⟩
theorem T4:bK ak 4 1 false:=⟨by kernel_rfl,_,ara,rfl⟩
instance:TI ak 4 1 false:=⟨T4⟩
instance:UN ak 5 (.int .u8):=⟨aoG⟩
instance:UN ak 22 (.slice 3):=⟨awa⟩
theorem T22:bK ak 22 1 false:=⟨by kernel_rfl,_,awa,rfl⟩
instance:TI ak 22 1 false:=⟨T22⟩
instance:UN ak 26 (.slice 32):=⟨dY⟩
theorem T26:bK ak 26 1 false:=⟨by kernel_rfl,_,dY,rfl⟩
instance:TI ak 26 1 false:=⟨T26⟩
instance:UN ak 27 (.slice 62):=⟨qb⟩
theorem T27:bK ak 27 1 false:=⟨by kernel_rfl,_,qb,rfl⟩
instance:TI ak 27 1 false:=⟨T27⟩
theorem nd:bK ak 29 5 true:=⟨by kernel_rfl,_,atf,rfl⟩
theorem B29:kZ ak 29 88:=⟨axb,by kernel_rfl,rfl⟩
theorem Z29:cF ak 29 (.agg [.v (.int .i64 0),.v (.int .i64 0),.v (.slice none 0 0),.v (.slice none 0 0),.v (.slice none 0 0)]):=⟨axb,_,by kernel_rfl,rfl,rfl,fun _ _ _=>cK (aT (c1:=[.int .i64 0]) rfl (cV rfl) (aT (c1:=[.int .i64 0]) rfl (cV rfl) (aT (c1:=[.slice none 0 0]) rfl (cV rfl) (aT (c1:=[.slice none 0 0]) rfl (cV rfl) (aT (c1:=[.slice none 0 0]) rfl (cV rfl) (cH))))))⟩
instance:TI ak 29 5 true:=⟨nd⟩
instance:ZI ak 29 (.agg [.v (.int .i64 0),.v (.int .i64 0),.v (.slice none 0 0),.v (.slice none 0 0),.v (.slice none 0 0)]):=⟨Z29⟩
theorem ata:kR ak 29 [(1,false),(1,false),(1,false),(1,false),(1,false)]:=⟨_,atf,⟨rfl,T3,⟨rfl,T3,⟨rfl,T26,⟨rfl,T26,⟨rfl,T27,trivial⟩⟩⟩⟩⟩,by decide⟩
instance:SI ak 29 [(1,false),(1,false),(1,false),(1,false),(1,false)]:=⟨ata⟩
instance:UN ak 30 (.slice 174):=⟨oX⟩
theorem T30:bK ak 30 1 false:=⟨by kernel_rfl,_,oX,rfl⟩
instance:TI ak 30 1 false:=⟨T30⟩
theorem dC:bK ak 32 3 true:=⟨by kernel_rfl,_,aqT,rfl⟩
theorem kX:kZ ak 32 56:=⟨aqN,by kernel_rfl,rfl⟩
theorem Z32:cF ak 32 (aa 0):=⟨aqN,_,by kernel_rfl,rfl,an.pure 0,fun _ _ _=>cI⟩
theorem kT:cF ak 32 (.agg [.v (.bool false),.list 1 [],.list 1 []]):=rQ ▸ Z32
instance:TI ak 32 3 true:=⟨dC⟩
instance:BI ak 32 56:=⟨kX⟩
instance:ZI ak 32 (.agg [.v (.bool false),.list 1 [],.list 1 []]):=⟨kT⟩
theorem axQ:kR ak 32 [(1,false),(1,false),(1,false)]:=⟨_,aqT,⟨rfl,T4,⟨rfl,T30,⟨rfl,T30,trivial⟩⟩⟩,by decide⟩
instance:SI ak 32 [(1,false),(1,false),(1,false)]:=⟨axQ⟩
instance:UN ak 36 (.slice 46):=⟨oA⟩
theorem T36:bK ak 36 1 false:=⟨by kernel_rfl,_,oA,rfl⟩
instance:TI ak 36 1 false:=⟨T36⟩
theorem T41:bK ak 41 5 true:=⟨by kernel_rfl,_,auS,rfl⟩
theorem Z41:cF ak 41 (.agg [.v (.int .i64 0),.v (.int .i64 0),aa 0]):=⟨Tryz.t41,_,by kernel_rfl,rfl,by simp [LV.pure,aK,an.pure],fun _ _ _=>cK (aT (c1:=[.int .i64 0]) rfl (cV rfl) (aT (c1:=[.int .i64 0]) rfl (cV rfl) (aT (c1:=[.bool false,.slice none 0 0,.slice none 0 0]) bN (cI) (cH))))⟩
theorem aiW:kR ak 41 [(1,false),(1,false),(3,true)]:=⟨_,auS,⟨rfl,T3,⟨rfl,T3,⟨rfl,dC,trivial⟩⟩⟩,by decide⟩
instance:SI ak 41 [(1,false),(1,false),(3,true)]:=⟨aiW⟩
instance:UN ak 44 (.slice 48):=⟨qd⟩
theorem T44:bK ak 44 1 false:=⟨by kernel_rfl,_,qd,rfl⟩
instance:TI ak 44 1 false:=⟨T44⟩
theorem pR:bK ak 46 4 true:=⟨by kernel_rfl,_,avm,rfl⟩
theorem B46:kZ ak 46 64:=⟨av3,by kernel_rfl,rfl⟩
theorem Z46:cF ak 46 (.agg [.v (.slice none 0 0),.v (.slice none 0 0),.v (.int .i64 0),.v (.int .i64 0)]):=⟨av3,_,by kernel_rfl,rfl,rfl,fun _ _ _=>cK (aT (c1:=[.slice none 0 0]) rfl (cV rfl) (aT (c1:=[.slice none 0 0]) rfl (cV rfl) (aT (c1:=[.int .i64 0]) rfl (cV rfl) (aT (c1:=[.int .i64 0]) rfl (cV rfl) (cH)))))⟩
instance:TI ak 46 4 true:=⟨pR⟩
instance:ZI ak 46 (.agg [.v (.slice none 0 0),.v (.slice none 0 0),.v (.int .i64 0),.v (.int .i64 0)]):=⟨Z46⟩
theorem aIR:kR ak 46 [(1,false),(1,false),(1,false),(1,false)]:=⟨_,avm,⟨rfl,T44,⟨rfl,T44,⟨rfl,T3,⟨rfl,T3,trivial⟩⟩⟩⟩,by decide⟩
instance:SI ak 46 [(1,false),(1,false),(1,false),(1,false)]:=⟨aIR⟩
theorem jM:bK ak 48 6 true:=⟨by kernel_rfl,_,aua,rfl⟩
theorem B48:kZ ak 48 112:=⟨atu,by kernel_rfl,rfl⟩
theorem Z48:cF ak 48 (.agg [aa 0,aa 0]):=⟨atu,_,by kernel_rfl,rfl,by simp [LV.pure,aK,an.pure],fun _ _ _=>cK (aT (c1:=[.bool false,.slice none 0 0,.slice none 0 0]) bN (cI) (aT (c1:=[.bool false,.slice none 0 0,.slice none 0 0]) bN (cI) (cH)))⟩
instance:TI ak 48 6 true:=⟨jM⟩
instance:ZI ak 48 (.agg [aa 0,aa 0]):=⟨Z48⟩
theorem apF:kR ak 48 [(3,true),(3,true)]:=⟨_,aua,⟨rfl,dC,⟨rfl,dC,trivial⟩⟩,by decide⟩
instance:SI ak 48 [(3,true),(3,true)]:=⟨apF⟩
instance:UN ak 54 (.array 3 32):=⟨avj⟩
theorem iQ:bK ak 54 9 true:=⟨by kernel_rfl,_,avj,rfl⟩
theorem B54:kZ ak 54 168:=⟨auy,by kernel_rfl,rfl⟩
theorem Z54:cF ak 54 (.agg [aa 0,aa 0,aa 0]):=⟨auy,_,by kernel_rfl,rfl,by simp [LV.pure,aK,an.pure],fun _ _ _=>cK (aT (c1:=[.bool false,.slice none 0 0,.slice none 0 0]) bN (cI) (aT (c1:=[.bool false,.slice none 0 0,.slice none 0 0]) bN (cI) (aT (c1:=[.bool false,.slice none 0 0,.slice none 0 0]) bN (cI) (cH))))⟩
instance:TI ak 54 9 true:=⟨iQ⟩
instance:ZI ak 54 (.agg [aa 0,aa 0,aa 0]):=⟨Z54⟩
instance:UN ak 62 (.slice 125):=⟨kj⟩
theorem uT:bK ak 62 1 false:=⟨by kernel_rfl,_,kj,rfl⟩
theorem B62:kZ ak 62 24:=⟨Tryz.t62,by kernel_rfl,rfl⟩
instance:TI ak 62 1 false:=⟨uT⟩
theorem ob:bK ak 64 3 true:=⟨by kernel_rfl,_,awn,rfl⟩
theorem B64:kZ ak 64 56:=⟨avH,by kernel_rfl,rfl⟩
theorem Z64:cF ak 64 (.agg [.v (.int .i64 0),.v (.slice none 0 0),.v (.slice none 0 0)]):=⟨avH,_,by kernel_rfl,rfl,rfl,fun _ _ _=>cK (aT (c1:=[.int .i64 0]) rfl (cV rfl) (aT (c1:=[.slice none 0 0]) rfl (cV rfl) (aT (c1:=[.slice none 0 0]) rfl (cV rfl) (cH))))⟩
instance:TI ak 64 3 true:=⟨ob⟩
instance:ZI ak 64 (.agg [.v (.int .i64 0),.v (.slice none 0 0),.v (.slice none 0 0)]):=⟨Z64⟩
theorem aEm:kR ak 64 [(1,false),(1,false),(1,false)]:=⟨_,awn,⟨rfl,T3,⟨rfl,T26,⟨rfl,uT,trivial⟩⟩⟩,by decide⟩
instance:SI ak 64 [(1,false),(1,false),(1,false)]:=⟨aEm⟩
instance:UN ak 79 (.array 3 54):=⟨axk⟩
theorem T79:bK ak 79 27 true:=⟨by kernel_rfl,_,axk,rfl⟩
theorem Z79:cF ak 79 (.agg [.agg [aa 0,aa 0,aa 0],.agg [aa 0,aa 0,aa 0],.agg [aa 0,aa 0,aa 0]]):=⟨Tryz.t79,_,by kernel_rfl,rfl,by simp [LV.pure,aK,an.pure],fun _ _ _=>cK (aT (c1:=[.bool false,.slice none 0 0,.slice none 0 0,.bool false,.slice none 0 0,.slice none 0 0,.bool false,.slice none 0 0,.slice none 0 0]) bN (cK (aT (c1:=[.bool false,.slice none 0 0,.slice none 0 0]) bN (cI) (aT (c1:=[.bool false,.slice none 0 0,.slice none 0 0]) bN (cI) (aT (c1:=[.bool false,.slice none 0 0,.slice none 0 0]) bN (cI) (cH))))) (aT (c1:=[.bool false,.slice none 0 0,.slice none 0 0,.bool false,.slice none 0 0,.slice none 0 0,.bool false,.slice none 0 0,.slice none 0 0]) bN (cK (aT (c1:=[.bool false,.slice none 0 0,.slice none 0 0]) bN (cI) (aT (c1:=[.bool false,.slice none 0 0,.slice none 0 0]) bN (cI) (aT (c1:=[.bool false,.slice none 0 0,.slice none 0 0]) bN (cI) (cH))))) (aT (c1:=[.bool false,.slice none 0 0,.slice none 0 0,.bool false,.slice none 0 0,.slice none 0 0,.bool false,.slice none 0 0,.slice none 0 0]) bN (cK (aT (c1:=[.bool false,.slice none 0 0,.slice none 0 0]) bN (cI) (aT (c1:=[.bool false,.slice none 0 0,.slice none 0 0]) bN (cI) (aT (c1:=[.bool false,.slice none 0 0,.slice none 0 0]) bN (cI) (cH))))) (cH))))⟩
instance:TI ak 79 27 true:=⟨T79⟩
theorem yZ:bK ak 81 36 true:=⟨by kernel_rfl,_,awQ,rfl⟩
theorem Z81:cF ak 81 (.agg [.agg [.agg [aa 0,aa 0,aa 0],.agg [aa 0,aa 0,aa 0],.agg [aa 0,aa 0,aa 0]],.agg [aa 0,aa 0,aa 0]]):=⟨Tryz.t81,_,by kernel_rfl,rfl,by simp [LV.pure,aK,an.pure],fun _ _ _=>cK (aT (c1:=[.bool false,.slice none 0 0,.slice none 0 0,.bool false,.slice none 0 0,.slice none 0 0,.bool false,.slice none 0 0,.slice none 0 0,.bool false,.slice none 0 0,.slice none 0 0,.bool false,.slice none 0 0,.slice none 0 0,.bool false,.slice none 0 0,.slice none 0 0,.bool false,.slice none 0 0,.slice none 0 0,.bool false,.slice none 0 0,.slice none 0 0,.bool false,.slice none 0 0,.slice none 0 0]) bN (cK (aT (c1:=[.bool false,.slice none 0 0,.slice none 0 0,.bool false,.slice none 0 0,.slice none 0 0,.bool false,.slice none 0 0,.slice none 0 0]) bN (cK (aT (c1:=[.bool false,.slice none 0 0,.slice none 0 0]) bN (cI) (aT (c1:=[.bool false,.slice none 0 0,.slice none 0 0]) bN (cI) (aT (c1:=[.bool false,.slice none 0 0,.slice none 0 0]) bN (cI) (cH))))) (aT (c1:=[.bool false,.slice none 0 0,.slice none 0 0,.bool false,.slice none 0 0,.slice none 0 0,.bool false,.slice none 0 0,.slice none 0 0]) bN (cK (aT (c1:=[.bool false,.slice none 0 0,.slice none 0 0]) bN (cI) (aT (c1:=[.bool false,.slice none 0 0,.slice none 0 0]) bN (cI) (aT (c1:=[.bool false,.slice none 0 0,.slice none 0 0]) bN (cI) (cH))))) (aT (c1:=[.bool false,.slice none 0 0,.slice none 0 0,.bool false,.slice none 0 0,.slice none 0 0,.bool false,.slice none 0 0,.slice none 0 0]) bN (cK (aT (c1:=[.bool false,.slice none 0 0,.slice none 0 0]) bN (cI) (aT (c1:=[.bool false,.slice none 0 0,.slice none 0 0]) bN (cI) (aT (c1:=[.bool false,.slice none 0 0,.slice none 0 0]) bN (cI) (cH))))) (cH))))) (aT (c1:=[.bool false,.slice none 0 0,.slice none 0 0,.bool false,.slice none 0 0,.slice none 0 0,.bool false,.slice none 0 0,.slice none 0 0]) bN (cK (aT (c1:=[.bool false,.slice none 0 0,.slice none 0 0]) bN (cI) (aT (c1:=[.bool false,.slice none 0 0,.slice none 0 0]) bN (cI) (aT (c1:=[.bool false,.slice none 0 0,.slice none 0 0]) bN (cI) (cH))))) (cH)))⟩
theorem aD6:kR ak 81 [(27,true),(9,true)]:=⟨_,awQ,⟨rfl,T79,⟨rfl,iQ,trivial⟩⟩,by decide⟩
instance:SI ak 81 [(27,true),(9,true)]:=⟨aD6⟩
theorem Z88:cF ak 88 (.agg [.agg [.v (.int .i64 0),.v (.int .i64 0),aa 0],.v (.slice none 0 0),.v (.int .i64 0)]):=⟨Tryz.t88,_,by kernel_rfl,rfl,by simp [LV.pure,aK,an.pure],fun _ _ _=>cK (aT (c1:=[.int .i64 0,.int .i64 0,.bool false,.slice none 0 0,.slice none 0 0]) bN (cK (aT (c1:=[.int .i64 0]) rfl (cV rfl) (aT (c1:=[.int .i64 0]) rfl (cV rfl) (aT (c1:=[.bool false,.slice none 0 0,.slice none 0 0]) bN (cI) (cH))))) (aT (c1:=[.slice none 0 0]) rfl (cV rfl) (aT (c1:=[.int .i64 0]) rfl (cV rfl) (cH))))⟩
theorem apA:kR ak 88 [(5,true),(1,false),(1,false)]:=⟨_,Tryz.underlying88,⟨rfl,T41,⟨rfl,T36,⟨rfl,T3,trivial⟩⟩⟩,by decide⟩
instance:SI ak 88 [(5,true),(1,false),(1,false)]:=⟨apA⟩
instance:UN ak 89 (.slice 29):=⟨Tryz.underlying89⟩
theorem T93:bK ak 93 3 true:=⟨by kernel_rfl,_,asj,rfl⟩
theorem Z93:cF ak 93 (.agg [.v (.bool false),.v (.int .i64 0),.v (.int .i64 0)]):=⟨Tryz.t93,_,by kernel_rfl,rfl,rfl,fun _ _ _=>cK (aT (c1:=[.bool false]) rfl (cV rfl) (aT (c1:=[.int .i64 0]) rfl (cV rfl) (aT (c1:=[.int .i64 0]) rfl (cV rfl) (cH))))⟩
instance:TI ak 93 3 true:=⟨T93⟩
instance:ZI ak 93 (.agg [.v (.bool false),.v (.int .i64 0),.v (.int .i64 0)]):=⟨Z93⟩
theorem aDE:kR ak 93 [(1,false),(1,false),(1,false)]:=⟨_,asj,⟨rfl,T4,⟨rfl,T3,⟨rfl,T3,trivial⟩⟩⟩,by decide⟩
instance:SI ak 93 [(1,false),(1,false),(1,false)]:=⟨aDE⟩
instance:UN ak 97 (.array 3 48):=⟨adF⟩
theorem T97:bK ak 97 18 true:=⟨by kernel_rfl,_,adF,rfl⟩
theorem Z97:cF ak 97 (.agg [.agg [aa 0,aa 0],.agg [aa 0,aa 0],.agg [aa 0,aa 0]]):=⟨Tryz.t97,_,by kernel_rfl,rfl,by simp [LV.pure,aK,an.pure],fun _ _ _=>cK (aT (c1:=[.bool false,.slice none 0 0,.slice none 0 0,.bool false,.slice none 0 0,.slice none 0 0]) bN (cK (aT (c1:=[.bool false,.slice none 0 0,.slice none 0 0]) bN (cI) (aT (c1:=[.bool false,.slice none 0 0,.slice none 0 0]) bN (cI) (cH)))) (aT (c1:=[.bool false,.slice none 0 0,.slice none 0 0,.bool false,.slice none 0 0,.slice none 0 0]) bN (cK (aT (c1:=[.bool false,.slice none 0 0,.slice none 0 0]) bN (cI) (aT (c1:=[.bool false,.slice none 0 0,.slice none 0 0]) bN (cI) (cH)))) (aT (c1:=[.bool false,.slice none 0 0,.slice none 0 0,.bool false,.slice none 0 0,.slice none 0 0]) bN (cK (aT (c1:=[.bool false,.slice none 0 0,.slice none 0 0]) bN (cI) (aT (c1:=[.bool false,.slice none 0 0,.slice none 0 0]) bN (cI) (cH)))) (cH))))⟩
instance:TI ak 97 18 true:=⟨T97⟩
instance:UN ak 98 (.array 3 48):=⟨asN⟩
theorem T98:bK ak 98 18 true:=⟨by kernel_rfl,_,asN,rfl⟩
theorem Z98:cF ak 98 (.agg [.agg [aa 0,aa 0],.agg [aa 0,aa 0],.agg [aa 0,aa 0]]):=⟨Tryz.t98,_,by kernel_rfl,rfl,by simp [LV.pure,aK,an.pure],fun _ _ _=>cK (aT (c1:=[.bool false,.slice none 0 0,.slice none 0 0,.bool false,.slice none 0 0,.slice none 0 0]) bN (cK (aT (c1:=[.bool false,.slice none 0 0,.slice none 0 0]) bN (cI) (aT (c1:=[.bool false,.slice none 0 0,.slice none 0 0]) bN (cI) (cH)))) (aT (c1:=[.bool false,.slice none 0 0,.slice none 0 0,.bool false,.slice none 0 0,.slice none 0 0]) bN (cK (aT (c1:=[.bool false,.slice none 0 0,.slice none 0 0]) bN (cI) (aT (c1:=[.bool false,.slice none 0 0,.slice none 0 0]) bN (cI) (cH)))) (aT (c1:=[.bool false,.slice none 0 0,.slice none 0 0,.bool false,.slice none 0 0,.slice none 0 0]) bN (cK (aT (c1:=[.bool false,.slice none 0 0,.slice none 0 0]) bN (cI) (aT (c1:=[.bool false,.slice none 0 0,.slice none 0 0]) bN (cI) (cH)))) (cH))))⟩
instance:TI ak 98 18 true:=⟨T98⟩
instance:ZI ak 98 (.agg [.agg [aa 0,aa 0],.agg [aa 0,aa 0],.agg [aa 0,aa 0]]):=⟨Z98⟩
instance:UN ak 110 (.slice 64):=⟨Tryz.underlying110⟩
instance:UN ak 123 (.slice 2):=⟨Tryz.underlying123⟩
theorem mO:bK ak 125 12 true:=⟨by kernel_rfl,_,axr,rfl⟩
theorem abO:kZ ak 125 224:=⟨atP,by kernel_rfl,rfl⟩
theorem pz:cF ak 125 (.agg [.agg [aa 0,aa 0,aa 0],aa 0]):=⟨atP,_,by kernel_rfl,rfl,by simp [LV.pure,aK,an.pure],fun _ _ _=>cK (aT (c1:=[.bool false,.slice none 0 0,.slice none 0 0,.bool false,.slice none 0 0,.slice none 0 0,.bool false,.slice none 0 0,.slice none 0 0]) bN (cK (aT (c1:=[.bool false,.slice none 0 0,.slice none 0 0]) bN (cI) (aT (c1:=[.bool false,.slice none 0 0,.slice none 0 0]) bN (cI) (aT (c1:=[.bool false,.slice none 0 0,.slice none 0 0]) bN (cI) (cH))))) (aT (c1:=[.bool false,.slice none 0 0,.slice none 0 0]) bN (cI) (cH)))⟩
instance:TI ak 125 12 true:=⟨mO⟩
instance:ZI ak 125 (.agg [.agg [aa 0,aa 0,aa 0],aa 0]):=⟨pz⟩
theorem aJI:kR ak 125 [(9,true),(3,true)]:=⟨_,axr,⟨rfl,iQ,⟨rfl,dC,trivial⟩⟩,by decide⟩
instance:SI ak 125 [(9,true),(3,true)]:=⟨aJI⟩
theorem xk:bK ak 143 3 true:=⟨by kernel_rfl,_,ap1,rfl⟩
theorem aD2:kZ ak 143 56:=⟨aoY,by kernel_rfl,rfl⟩
theorem aGB:cF ak 143 (.agg [.v (.slice none 0 0),.v (.int .i64 0),.v (.slice none 0 0)]):=⟨aoY,_,by kernel_rfl,rfl,rfl,fun _ _ _=>cK (aT (c1:=[.slice none 0 0]) rfl (cV rfl) (aT (c1:=[.int .i64 0]) rfl (cV rfl) (aT (c1:=[.slice none 0 0]) rfl (cV rfl) (cH))))⟩
instance:TI ak 143 3 true:=⟨xk⟩
instance:ZI ak 143 (.agg [.v (.slice none 0 0),.v (.int .i64 0),.v (.slice none 0 0)]):=⟨aGB⟩
theorem aFh:kR ak 143 [(1,false),(1,false),(1,false)]:=⟨_,ap1,⟨rfl,T44,⟨rfl,T3,⟨rfl,T22,trivial⟩⟩⟩,by decide⟩
instance:SI ak 143 [(1,false),(1,false),(1,false)]:=⟨aFh⟩
instance:UN ak 144 (.slice 143):=⟨Tryz.underlying144⟩
instance:UN ak 150 (.slice 190):=⟨jv⟩
theorem avX:bK ak 150 1 false:=⟨by kernel_rfl,_,jv,rfl⟩
instance:TI ak 150 1 false:=⟨avX⟩
theorem qz:bK ak 152 3 true:=⟨by kernel_rfl,_,atj,rfl⟩
theorem aGc:kZ ak 152 56:=⟨atW,by kernel_rfl,rfl⟩
theorem am7:cF ak 152 (.agg [.v (.int .i64 0),.v (.slice none 0 0),.v (.slice none 0 0)]):=⟨atW,_,by kernel_rfl,rfl,rfl,fun _ _ _=>cK (aT (c1:=[.int .i64 0]) rfl (cV rfl) (aT (c1:=[.slice none 0 0]) rfl (cV rfl) (aT (c1:=[.slice none 0 0]) rfl (cV rfl) (cH))))⟩
instance:TI ak 152 3 true:=⟨qz⟩
instance:ZI ak 152 (.agg [.v (.int .i64 0),.v (.slice none 0 0),.v (.slice none 0 0)]):=⟨am7⟩
theorem aHc:kR ak 152 [(1,false),(1,false),(1,false)]:=⟨_,atj,⟨rfl,T3,⟨rfl,T26,⟨rfl,avX,trivial⟩⟩⟩,by decide⟩
instance:SI ak 152 [(1,false),(1,false),(1,false)]:=⟨aHc⟩
instance:UN ak 160 (.slice 54):=⟨ox⟩
theorem alw:bK ak 160 1 false:=⟨by kernel_rfl,_,ox,rfl⟩
theorem aEp:cF ak 160 (.v (.slice none 0 0)):=⟨Tryz.t160,_,by kernel_rfl,rfl,rfl,fun _ _ _=>cV rfl⟩
instance:TI ak 160 1 false:=⟨alw⟩
instance:ZI ak 160 (.v (.slice none 0 0)):=⟨aEp⟩
instance:UN ak 168 (.array 3 97):=⟨atr⟩
theorem apX:bK ak 168 54 true:=⟨by kernel_rfl,_,atr,rfl⟩
theorem aFP:cF ak 168 (.agg [.agg [.agg [aa 0,aa 0],.agg [aa 0,aa 0],.agg [aa 0,aa 0]],.agg [.agg [aa 0,aa 0],.agg [aa 0,aa 0],.agg [aa 0,aa 0]],.agg [.agg [aa 0,aa 0],.agg [aa 0,aa 0],.agg [aa 0,aa 0]]]):=⟨Tryz.t168,_,by kernel_rfl,rfl,by simp [LV.pure,aK,an.pure],fun _ _ _=>cK (aT (c1:=[.bool false,.slice none 0 0,.slice none 0 0,.bool false,.slice none 0 0,.slice none 0 0,.bool false,.slice none 0 0,.slice none 0 0,.bool false,.slice none 0 0,.slice none 0 0,.bool false,.slice none 0 0,.slice none 0 0,.bool false,.slice none 0 0,.slice none 0 0]) bN (cK (aT (c1:=[.bool false,.slice none 0 0,.slice none 0 0,.bool false,.slice none 0 0,.slice none 0 0]) bN (cK (aT (c1:=[.bool false,.slice none 0 0,.slice none 0 0]) bN (cI) (aT (c1:=[.bool false,.slice none 0 0,.slice none 0 0]) bN (cI) (cH)))) (aT (c1:=[.bool false,.slice none 0 0,.slice none 0 0,.bool false,.slice none 0 0,.slice none 0 0]) bN (cK (aT (c1:=[.bool false,.slice none 0 0,.slice none 0 0]) bN (cI) (aT (c1:=[.bool false,.slice none 0 0,.slice none 0 0]) bN (cI) (cH)))) (aT (c1:=[.bool false,.slice none 0 0,.slice none 0 0,.bool false,.slice none 0 0,.slice none 0 0]) bN (cK (aT (c1:=[.bool false,.slice none 0 0,.slice none 0 0]) bN (cI) (aT (c1:=[.bool false,.slice none 0 0,.slice none 0 0]) bN (cI) (cH)))) (cH))))) (aT (c1:=[.bool false,.slice none 0 0,.slice none 0 0,.bool false,.slice none 0 0,.slice none 0 0,.bool false,.slice none 0 0,.slice none 0 0,.bool false,.slice none 0 0,.slice none 0 0,.bool false,.slice none 0 0,.slice none 0 0,.bool false,.slice none 0 0,.slice none 0 0]) bN (cK (aT (c1:=[.bool false,.slice none 0 0,.slice none 0 0,.bool false,.slice none 0 0,.slice none 0 0]) bN (cK (aT (c1:=[.bool false,.slice none 0 0,.slice none 0 0]) bN (cI) (aT (c1:=[.bool false,.slice none 0 0,.slice none 0 0]) bN (cI) (cH)))) (aT (c1:=[.bool false,.slice none 0 0,.slice none 0 0,.bool false,.slice none 0 0,.slice none 0 0]) bN (cK (aT (c1:=[.bool false,.slice none 0 0,.slice none 0 0]) bN (cI) (aT (c1:=[.bool false,.slice none 0 0,.slice none 0 0]) bN (cI) (cH)))) (aT (c1:=[.bool false,.slice none 0 0,.slice none 0 0,.bool false,.slice none 0 0,.slice none 0 0]) bN (cK (aT (c1:=[.bool false,.slice none 0 0,.slice none 0 0]) bN (cI) (aT (c1:=[.bool false,.slice none 0 0,.slice none 0 0]) bN (cI) (cH)))) (cH))))) (aT (c1:=[.bool false,.slice none 0 0,.slice none 0 0,.bool false,.slice none 0 0,.slice none 0 0,.bool false,.slice none 0 0,.slice none 0 0,.bool false,.slice none 0 0,.slice none 0 0,.bool false,.slice none 0 0,.slice none 0 0,.bool false,.slice none 0 0,.slice none 0 0]) bN (cK (aT (c1:=[.bool false,.slice none 0 0,.slice none 0 0,.bool false,.slice none 0 0,.slice none 0 0]) bN (cK (aT (c1:=[.bool false,.slice none 0 0,.slice none 0 0]) bN (cI) (aT (c1:=[.bool false,.slice none 0 0,.slice none 0 0]) bN (cI) (cH)))) (aT (c1:=[.bool false,.slice none 0 0,.slice none 0 0,.bool false,.slice none 0 0,.slice none 0 0]) bN (cK (aT (c1:=[.bool false,.slice none 0 0,.slice none 0 0]) bN (cI) (aT (c1:=[.bool false,.slice none 0 0,.slice none 0 0]) bN (cI) (cH)))) (aT (c1:=[.bool false,.slice none 0 0,.slice none 0 0,.bool false,.slice none 0 0,.slice none 0 0]) bN (cK (aT (c1:=[.bool false,.slice none 0 0,.slice none 0 0]) bN (cI) (aT (c1:=[.bool false,.slice none 0 0,.slice none 0 0]) bN (cI) (cH)))) (cH))))) (cH))))⟩
instance:TI ak 168 54 true:=⟨apX⟩
instance:ZI ak 168 (.agg [.agg [.agg [aa 0,aa 0],.agg [aa 0,aa 0],.agg [aa 0,aa 0]],.agg [.agg [aa 0,aa 0],.agg [aa 0,aa 0],.agg [aa 0,aa 0]],.agg [.agg [aa 0,aa 0],.agg [aa 0,aa 0],.agg [aa 0,aa 0]]]):=⟨aFP⟩
instance:UN ak 174 (.int .u32):=⟨ate⟩
theorem rR:bK ak 174 1 false:=⟨by kernel_rfl,_,ate,rfl⟩
theorem abe:kZ ak 174 4:=⟨avK,by kernel_rfl,rfl⟩
theorem abS:cF ak 174 (.v (.int .u32 0)):=⟨avK,_,by kernel_rfl,rfl,rfl,fun _ _ _=>cV rfl⟩
instance:TI ak 174 1 false:=⟨rR⟩
instance:BI ak 174 4:=⟨abe⟩
instance:UN ak 180 (.int .u64):=⟨ahI⟩
instance:UN ak 186 (.slice 32):=⟨me⟩
theorem aD4:bK ak 186 1 false:=⟨by kernel_rfl,_,me,rfl⟩
instance:TI ak 186 1 false:=⟨aD4⟩
instance:UN ak 187 (.array 4 186):=⟨ave⟩
theorem apH:bK ak 187 4 true:=⟨by kernel_rfl,_,ave,rfl⟩
theorem ayX:cF ak 187 (.agg [.v (.slice none 0 0),.v (.slice none 0 0),.v (.slice none 0 0),.v (.slice none 0 0)]):=⟨Tryz.t187,_,by kernel_rfl,rfl,rfl,fun _ _ _=>cK (aT (c1:=[.slice none 0 0]) rfl (cV rfl) (aT (c1:=[.slice none 0 0]) rfl (cV rfl) (aT (c1:=[.slice none 0 0]) rfl (cV rfl) (aT (c1:=[.slice none 0 0]) rfl (cV rfl) (cH)))))⟩
instance:TI ak 187 4 true:=⟨apH⟩
instance:ZI ak 187 (.agg [.v (.slice none 0 0),.v (.slice none 0 0),.v (.slice none 0 0),.v (.slice none 0 0)]):=⟨ayX⟩
instance:UN ak 190 (.array 4 32):=⟨art⟩
theorem kF:bK ak 190 12 true:=⟨by kernel_rfl,_,art,rfl⟩
theorem afV:kZ ak 190 224:=⟨axi,by kernel_rfl,rfl⟩
theorem abl:cF ak 190 (.agg [aa 0,aa 0,aa 0,aa 0]):=⟨axi,_,by kernel_rfl,rfl,by simp [LV.pure,aK,an.pure],fun _ _ _=>cK (aT (c1:=[.bool false,.slice none 0 0,.slice none 0 0]) bN (cI) (aT (c1:=[.bool false,.slice none 0 0,.slice none 0 0]) bN (cI) (aT (c1:=[.bool false,.slice none 0 0,.slice none 0 0]) bN (cI) (aT (c1:=[.bool false,.slice none 0 0,.slice none 0 0]) bN (cI) (cH)))))⟩
instance:TI ak 190 12 true:=⟨kF⟩
instance:ZI ak 190 (.agg [aa 0,aa 0,aa 0,aa 0]):=⟨abl⟩
theorem ac2:bK ak 200 2 true:=⟨by kernel_rfl,_,arT,rfl⟩
theorem ayH:cF ak 200 (.agg [.v (.slice none 0 0),.v (.slice none 0 0)]):=⟨Tryz.t200,_,by kernel_rfl,rfl,rfl,fun _ _ _=>cK (aT (c1:=[.slice none 0 0]) rfl (cV rfl) (aT (c1:=[.slice none 0 0]) rfl (cV rfl) (cH)))⟩
instance:TI ak 200 2 true:=⟨ac2⟩
instance:ZI ak 200 (.agg [.v (.slice none 0 0),.v (.slice none 0 0)]):=⟨ayH⟩
theorem aJq:kR ak 200 [(1,false),(1,false)]:=⟨_,arT,⟨rfl,alw,⟨rfl,alw,trivial⟩⟩,by decide⟩
instance:SI ak 200 [(1,false),(1,false)]:=⟨aJq⟩
instance:UN ak 203 (.array 2 200):=⟨ad1⟩
theorem aqd:bK ak 203 4 true:=⟨by kernel_rfl,_,ad1,rfl⟩
theorem agA:cF ak 203 (.agg [.agg [.v (.slice none 0 0),.v (.slice none 0 0)],.agg [.v (.slice none 0 0),.v (.slice none 0 0)]]):=⟨Tryz.t203,_,by kernel_rfl,rfl,rfl,fun _ _ _=>cK (aT (c1:=[.slice none 0 0,.slice none 0 0]) rfl (cK (aT (c1:=[.slice none 0 0]) rfl (cV rfl) (aT (c1:=[.slice none 0 0]) rfl (cV rfl) (cH)))) (aT (c1:=[.slice none 0 0,.slice none 0 0]) rfl (cK (aT (c1:=[.slice none 0 0]) rfl (cV rfl) (aT (c1:=[.slice none 0 0]) rfl (cV rfl) (cH)))) (cH)))⟩
instance:TI ak 203 4 true:=⟨aqd⟩
instance:ZI ak 203 (.agg [.agg [.v (.slice none 0 0),.v (.slice none 0 0)],.agg [.v (.slice none 0 0),.v (.slice none 0 0)]]):=⟨agA⟩
instance:UN ak 204 (.array 3 203):=⟨Tryz.underlying204⟩
theorem aGC:cF ak 204 (.agg [.agg [.agg [.v (.slice none 0 0),.v (.slice none 0 0)],.agg [.v (.slice none 0 0),.v (.slice none 0 0)]],.agg [.agg [.v (.slice none 0 0),.v (.slice none 0 0)],.agg [.v (.slice none 0 0),.v (.slice none 0 0)]],.agg [.agg [.v (.slice none 0 0),.v (.slice none 0 0)],.agg [.v (.slice none 0 0),.v (.slice none 0 0)]]]):=⟨Tryz.t204,_,by kernel_rfl,rfl,rfl,fun _ _ _=>cK (aT (c1:=[.slice none 0 0,.slice none 0 0,.slice none 0 0,.slice none 0 0]) rfl (cK (aT (c1:=[.slice none 0 0,.slice none 0 0]) rfl (cK (aT (c1:=[.slice none 0 0]) rfl (cV rfl) (aT (c1:=[.slice none 0 0]) rfl (cV rfl) (cH)))) (aT (c1:=[.slice none 0 0,.slice none 0 0]) rfl (cK (aT (c1:=[.slice none 0 0]) rfl (cV rfl) (aT (c1:=[.slice none 0 0]) rfl (cV rfl) (cH)))) (cH)))) (aT (c1:=[.slice none 0 0,.slice none 0 0,.slice none 0 0,.slice none 0 0]) rfl (cK (aT (c1:=[.slice none 0 0,.slice none 0 0]) rfl (cK (aT (c1:=[.slice none 0 0]) rfl (cV rfl) (aT (c1:=[.slice none 0 0]) rfl (cV rfl) (cH)))) (aT (c1:=[.slice none 0 0,.slice none 0 0]) rfl (cK (aT (c1:=[.slice none 0 0]) rfl (cV rfl) (aT (c1:=[.slice none 0 0]) rfl (cV rfl) (cH)))) (cH)))) (aT (c1:=[.slice none 0 0,.slice none 0 0,.slice none 0 0,.slice none 0 0]) rfl (cK (aT (c1:=[.slice none 0 0,.slice none 0 0]) rfl (cK (aT (c1:=[.slice none 0 0]) rfl (cV rfl) (aT (c1:=[.slice none 0 0]) rfl (cV rfl) (cH)))) (aT (c1:=[.slice none 0 0,.slice none 0 0]) rfl (cK (aT (c1:=[.slice none 0 0]) rfl (cV rfl) (aT (c1:=[.slice none 0 0]) rfl (cV rfl) (cH)))) (cH)))) (cH))))⟩
instance:UN ak 218 (.slice 152):=⟨Tryz.underlying218⟩
instance:UN ak 221 (.array 2 32):=⟨avB⟩
theorem aIC:bK ak 221 6 true:=⟨by kernel_rfl,_,avB,rfl⟩
theorem aG3:cF ak 221 (.agg [aa 0,aa 0]):=⟨Tryz.t221,_,by kernel_rfl,rfl,by simp [LV.pure,aK,an.pure],fun _ _ _=>cK (aT (c1:=[.bool false,.slice none 0 0,.slice none 0 0]) bN (cI) (aT (c1:=[.bool false,.slice none 0 0,.slice none 0 0]) bN (cI) (cH)))⟩
instance:TI ak 221 6 true:=⟨aIC⟩
instance:ZI ak 221 (.agg [aa 0,aa 0]):=⟨aG3⟩
theorem adk:bK ak 235 3 true:=⟨by kernel_rfl,_,asl,rfl⟩
theorem aA7:cF ak 235 (.agg [.v (.int .i64 0),.v (.int .i64 0),.v (.slice none 0 0)]):=⟨Tryz.t235,_,by kernel_rfl,rfl,rfl,fun _ _ _=>cK (aT (c1:=[.int .i64 0]) rfl (cV rfl) (aT (c1:=[.int .i64 0]) rfl (cV rfl) (aT (c1:=[.slice none 0 0]) rfl (cV rfl) (cH))))⟩
instance:TI ak 235 3 true:=⟨adk⟩
instance:ZI ak 235 (.agg [.v (.int .i64 0),.v (.int .i64 0),.v (.slice none 0 0)]):=⟨aA7⟩
theorem apQ:kR ak 235 [(1,false),(1,false),(1,false)]:=⟨_,asl,⟨rfl,T3,⟨rfl,T3,⟨rfl,T26,trivial⟩⟩⟩,by decide⟩
instance:SI ak 235 [(1,false),(1,false),(1,false)]:=⟨apQ⟩
instance:UN ak 236 (.array 4 235):=⟨arf⟩
theorem avy:bK ak 236 12 true:=⟨by kernel_rfl,_,arf,rfl⟩
theorem aC5:cF ak 236 (.agg [.agg [.v (.int .i64 0),.v (.int .i64 0),.v (.slice none 0 0)],.agg [.v (.int .i64 0),.v (.int .i64 0),.v (.slice none 0 0)],.agg [.v (.int .i64 0),.v (.int .i64 0),.v (.slice none 0 0)],.agg [.v (.int .i64 0),.v (.int .i64 0),.v (.slice none 0 0)]]):=⟨Tryz.t236,_,by kernel_rfl,rfl,rfl,fun _ _ _=>cK (aT (c1:=[.int .i64 0,.int .i64 0,.slice none 0 0]) rfl (cK (aT (c1:=[.int .i64 0]) rfl (cV rfl) (aT (c1:=[.int .i64 0]) rfl (cV rfl) (aT (c1:=[.slice none 0 0]) rfl (cV rfl) (cH))))) (aT (c1:=[.int .i64 0,.int .i64 0,.slice none 0 0]) rfl (cK (aT (c1:=[.int .i64 0]) rfl (cV rfl) (aT (c1:=[.int .i64 0]) rfl (cV rfl) (aT (c1:=[.slice none 0 0]) rfl (cV rfl) (cH))))) (aT (c1:=[.int .i64 0,.int .i64 0,.slice none 0 0]) rfl (cK (aT (c1:=[.int .i64 0]) rfl (cV rfl) (aT (c1:=[.int .i64 0]) rfl (cV rfl) (aT (c1:=[.slice none 0 0]) rfl (cV rfl) (cH))))) (aT (c1:=[.int .i64 0,.int .i64 0,.slice none 0 0]) rfl (cK (aT (c1:=[.int .i64 0]) rfl (cV rfl) (aT (c1:=[.int .i64 0]) rfl (cV rfl) (aT (c1:=[.slice none 0 0]) rfl (cV rfl) (cH))))) (cH)))))⟩
instance:TI ak 236 12 true:=⟨avy⟩
instance:ZI ak 236 (.agg [.agg [.v (.int .i64 0),.v (.int .i64 0),.v (.slice none 0 0)],.agg [.v (.int .i64 0),.v (.int .i64 0),.v (.slice none 0 0)],.agg [.v (.int .i64 0),.v (.int .i64 0),.v (.slice none 0 0)],.agg [.v (.int .i64 0),.v (.int .i64 0),.v (.slice none 0 0)]]):=⟨aC5⟩
instance:UN ak 238 (.array 3 235):=⟨asK⟩
theorem auU:bK ak 238 9 true:=⟨by kernel_rfl,_,asK,rfl⟩
theorem aE5:cF ak 238 (.agg [.agg [.v (.int .i64 0),.v (.int .i64 0),.v (.slice none 0 0)],.agg [.v (.int .i64 0),.v (.int .i64 0),.v (.slice none 0 0)],.agg [.v (.int .i64 0),.v (.int .i64 0),.v (.slice none 0 0)]]):=⟨Tryz.t238,_,by kernel_rfl,rfl,rfl,fun _ _ _=>cK (aT (c1:=[.int .i64 0,.int .i64 0,.slice none 0 0]) rfl (cK (aT (c1:=[.int .i64 0]) rfl (cV rfl) (aT (c1:=[.int .i64 0]) rfl (cV rfl) (aT (c1:=[.slice none 0 0]) rfl (cV rfl) (cH))))) (aT (c1:=[.int .i64 0,.int .i64 0,.slice none 0 0]) rfl (cK (aT (c1:=[.int .i64 0]) rfl (cV rfl) (aT (c1:=[.int .i64 0]) rfl (cV rfl) (aT (c1:=[.slice none 0 0]) rfl (cV rfl) (cH))))) (aT (c1:=[.int .i64 0,.int .i64 0,.slice none 0 0]) rfl (cK (aT (c1:=[.int .i64 0]) rfl (cV rfl) (aT (c1:=[.int .i64 0]) rfl (cV rfl) (aT (c1:=[.slice none 0 0]) rfl (cV rfl) (cH))))) (cH))))⟩
instance:TI ak 238 9 true:=⟨auU⟩
instance:ZI ak 238 (.agg [.agg [.v (.int .i64 0),.v (.int .i64 0),.v (.slice none 0 0)],.agg [.v (.int .i64 0),.v (.int .i64 0),.v (.slice none 0 0)],.agg [.v (.int .i64 0),.v (.int .i64 0),.v (.slice none 0 0)]]):=⟨aE5⟩
instance:UN ak 245 (.array 2 48):=⟨yQ⟩
theorem agv:bK ak 245 12 true:=⟨by kernel_rfl,_,yQ,rfl⟩
theorem adU:cF ak 245 (.agg [.agg [aa 0,aa 0],.agg [aa 0,aa 0]]):=⟨Tryz.t245,_,by kernel_rfl,rfl,by simp [LV.pure,aK,an.pure],fun _ _ _=>cK (aT (c1:=[.bool false,.slice none 0 0,.slice none 0 0,.bool false,.slice none 0 0,.slice none 0 0]) bN (cK (aT (c1:=[.bool false,.slice none 0 0,.slice none 0 0]) bN (cI) (aT (c1:=[.bool false,.slice none 0 0,.slice none 0 0]) bN (cI) (cH)))) (aT (c1:=[.bool false,.slice none 0 0,.slice none 0 0,.bool false,.slice none 0 0,.slice none 0 0]) bN (cK (aT (c1:=[.bool false,.slice none 0 0,.slice none 0 0]) bN (cI) (aT (c1:=[.bool false,.slice none 0 0,.slice none 0 0]) bN (cI) (cH)))) (cH)))⟩
instance:TI ak 245 12 true:=⟨agv⟩
instance:UN ak 246 (.array 2 245):=⟨Tryz.underlying246⟩
theorem ak4:cF ak 246 (.agg [.agg [.agg [aa 0,aa 0],.agg [aa 0,aa 0]],.agg [.agg [aa 0,aa 0],.agg [aa 0,aa 0]]]):=⟨Tryz.t246,_,by kernel_rfl,rfl,by simp [LV.pure,aK,an.pure],fun _ _ _=>cK (aT (c1:=[.bool false,.slice none 0 0,.slice none 0 0,.bool false,.slice none 0 0,.slice none 0 0,.bool false,.slice none 0 0,.slice none 0 0,.bool false,.slice none 0 0,.slice none 0 0]) bN (cK (aT (c1:=[.bool false,.slice none 0 0,.slice none 0 0,.bool false,.slice none 0 0,.slice none 0 0]) bN (cK (aT (c1:=[.bool false,.slice none 0 0,.slice none 0 0]) bN (cI) (aT (c1:=[.bool false,.slice none 0 0,.slice none 0 0]) bN (cI) (cH)))) (aT (c1:=[.bool false,.slice none 0 0,.slice none 0 0,.bool false,.slice none 0 0,.slice none 0 0]) bN (cK (aT (c1:=[.bool false,.slice none 0 0,.slice none 0 0]) bN (cI) (aT (c1:=[.bool false,.slice none 0 0,.slice none 0 0]) bN (cI) (cH)))) (cH)))) (aT (c1:=[.bool false,.slice none 0 0,.slice none 0 0,.bool false,.slice none 0 0,.slice none 0 0,.bool false,.slice none 0 0,.slice none 0 0,.bool false,.slice none 0 0,.slice none 0 0]) bN (cK (aT (c1:=[.bool false,.slice none 0 0,.slice none 0 0,.bool false,.slice none 0 0,.slice none 0 0]) bN (cK (aT (c1:=[.bool false,.slice none 0 0,.slice none 0 0]) bN (cI) (aT (c1:=[.bool false,.slice none 0 0,.slice none 0 0]) bN (cI) (cH)))) (aT (c1:=[.bool false,.slice none 0 0,.slice none 0 0,.bool false,.slice none 0 0,.slice none 0 0]) bN (cK (aT (c1:=[.bool false,.slice none 0 0,.slice none 0 0]) bN (cI) (aT (c1:=[.bool false,.slice none 0 0,.slice none 0 0]) bN (cI) (cH)))) (cH)))) (cH)))⟩
instance:UN ak 266 (.array 3 186):=⟨aqZ⟩
theorem apC:bK ak 266 3 true:=⟨by kernel_rfl,_,aqZ,rfl⟩
theorem azI:cF ak 266 (.agg [.v (.slice none 0 0),.v (.slice none 0 0),.v (.slice none 0 0)]):=⟨Tryz.t266,_,by kernel_rfl,rfl,rfl,fun _ _ _=>cK (aT (c1:=[.slice none 0 0]) rfl (cV rfl) (aT (c1:=[.slice none 0 0]) rfl (cV rfl) (aT (c1:=[.slice none 0 0]) rfl (cV rfl) (cH))))⟩
instance:TI ak 266 3 true:=⟨apC⟩
instance:ZI ak 266 (.agg [.v (.slice none 0 0),.v (.slice none 0 0),.v (.slice none 0 0)]):=⟨azI⟩
instance:UN ak 286 (.array 3 221):=⟨Tryz.underlying286⟩
theorem aCz:cF ak 286 (.agg [.agg [aa 0,aa 0],.agg [aa 0,aa 0],.agg [aa 0,aa 0]]):=⟨Tryz.t286,_,by kernel_rfl,rfl,by simp [LV.pure,aK,an.pure],fun _ _ _=>cK (aT (c1:=[.bool false,.slice none 0 0,.slice none 0 0,.bool false,.slice none 0 0,.slice none 0 0]) bN (cK (aT (c1:=[.bool false,.slice none 0 0,.slice none 0 0]) bN (cI) (aT (c1:=[.bool false,.slice none 0 0,.slice none 0 0]) bN (cI) (cH)))) (aT (c1:=[.bool false,.slice none 0 0,.slice none 0 0,.bool false,.slice none 0 0,.slice none 0 0]) bN (cK (aT (c1:=[.bool false,.slice none 0 0,.slice none 0 0]) bN (cI) (aT (c1:=[.bool false,.slice none 0 0,.slice none 0 0]) bN (cI) (cH)))) (aT (c1:=[.bool false,.slice none 0 0,.slice none 0 0,.bool false,.slice none 0 0,.slice none 0 0]) bN (cK (aT (c1:=[.bool false,.slice none 0 0,.slice none 0 0]) bN (cI) (aT (c1:=[.bool false,.slice none 0 0,.slice none 0 0]) bN (cI) (cH)))) (cH))))⟩
instance:ZI ak 286 (.agg [.agg [aa 0,aa 0],.agg [aa 0,aa 0],.agg [aa 0,aa 0]]):=⟨aCz⟩
theorem aaq:cF ak 48 (aD (0,0)):=by rw [xQ];exact Z48
instance:EC ak 2 eP 1 false 0:=⟨lQ,Z2,T2⟩
instance:EC ak 3 eP 1 false 0:=⟨lQ,Z3,T3⟩
instance:EC ak 32 aa 3 true 0:=⟨an,Z32,dC⟩
instance:EC ak 48 aD 6 true (0,0):=⟨bl,aaq,jM⟩
instance:AE ak 48 aD 6 true (0,0):=⟨bl,aaq⟩
instance:EC ak 54 aE 9 true ⟨0,0,0⟩:=⟨aX,Z54,iQ⟩
instance:EC ak 125 bm 12 true ⟨⟨0,0,0⟩,0⟩:=⟨bz,pz,mO⟩
instance:EC ak 174 bG 1 false 0:=⟨fX,abS,rR⟩
section
variable {f:FuncId} {fn:Func} {c:Code} {args:List LV} {r:LV}
theorem aR (hf:ak.funcs[f]?=some fn)
  (h:cU ak c (fun e L=>match e with | .exit _=>False | _=>qm ak fn.results.toList L r []) (St.mk (fun t=>args.getD t .any) (hp [])))
  (hb:fn.body=some c:=by exact rfl) (hn:(fn.name== "runtime.NumGoroutine")=false:=by decide +kernel) (hd:kS fn.ntmps c=true:=by decide +kernel) (hlen:args.length<=fn.ntmps:=by exact Nat.le_of_ble_eq_true rfl) (ht:∀ g,r.b7 g=r:=by exact tm0):ax ak f args r:=aIN fol hf hb hn hd hlen ht h
theorem fnO {bs:List bA} (hf:ak.funcs[f]?=some fn)
  (h:cU ak c (fun e L=>match e with | .exit _=>False | _=>qm ak fn.results.toList L r bs) (St.mk (fun t=>args.getD t .any) (hp [])))
  (hb:fn.body=some c:=by exact rfl) (hn:(fn.name== "runtime.NumGoroutine")=false:=by decide +kernel) (hd:kS fn.ntmps c=true:=by decide +kernel) (hlen:args.length<=fn.ntmps:=by exact Nat.le_of_ble_eq_true rfl):pC ak f args r bs:=aCs fol hf hb hn hd hlen h
theorem fnM {blk blk':bA} (hf:ak.funcs[f]?=some fn)
  (h:cU ak c (fun e L=>match e with | .exit _=>False | _=>ab5 ak fn.results.toList L r blk') (St.mk (fun t=>args.getD t .any) (hp [(0,blk)])))
  (hb:fn.body=some c:=by exact rfl) (hn:(fn.name== "runtime.NumGoroutine")=false:=by decide +kernel) (hd:kS fn.ntmps c=true:=by decide +kernel) (hlen:args.length<=fn.ntmps:=by exact Nat.le_of_ble_eq_true rfl) (fu:blk.mt=true:=by exact rfl):uv ak f blk args r blk':=aBj fol hf hb hn hd hlen fu h
end
end Go.Proofs.YthcadngkamjpdaaGreat
end
section
set_option linter.unusedVariables false
set_option linter.unusedSimpArgs false
set_option maxHeartbeats 8000000
set_option maxRecDepth 100000
attribute [local irreducible] Go.Lg.opsL Go.Lg.cU Go.Lg.oq Go.Lg.qK
namespace Go.Proofs.YthcadngkamjpdaaGreat
open Go.Lg
namespace auO
theorem rF {p q:Prop} (k:q) (e:p=q:=by simp only [e1,e2,e3,e4,p1,p2,p3,q1,q2,q3,l1,t0,t1,r1,r2,r3,r4,Nat.zero_add,Nat.reduceMul,Nat.reduceAdd,b1,b2,b3,b4,b5,b6,i1,i2,i3,i4,i5,i6,Nat.reduceBEq,ej,ek];exact rfl):p:=e.mpr k
theorem rp {p:Prop} (h:p:=by first | (refine rF ?_;exact rfl) | exact rfl):p:=h
theorem amB {p q:Prop} (k:q) (e:p=q:=by simp only [e1,e2,e3,e4,p1,p2,p3,q1,q2,q3,l1,t0,t1,r1,r2,r3,r4,Nat.zero_add,Nat.reduceMul,Nat.reduceAdd,b1,b2,b3,b4,b5,b6,i1,i2,i3,i4,i5,i6,Nat.reduceBEq,ek];exact rfl):p:=e.mpr k
theorem nf2 {p:Prop} (h:p:=by first | (refine amB ?_;exact rfl) | exact rfl):p:=h
end auO
open auO H0 in
theorem atv (l:List Nat) (hl:l.length<=4611686018427387904):ax ak 209 [eX l] (eX (xp l)):=by
 unfold eX xp
 refine aR atG ?_
 refine df ?_
 refine dI (fun(k:Nat) L=>(((St.mk L.slot (hp [])).put (some 0) (.list 1 (l.map bG))).put (some 3) (ae k))) (fun k=>k<=l.length/\jh l.length l=jh k l) (fun k=>k) l.length ⟨bF _,rfl⟩ ?_
 rintro k L1 ⟨hk,wN⟩
 refine ay ?_
 refine ep 8 rfl ?_ ?_<;>intro re h8
 ·obtain⟨j,rfl⟩:∃ j,k=j+1:=⟨k-1,J⟩
  have ej:(((j+1:Nat):Int)-1).toNat=j:=by omega
  have ek:(((j+1:Nat):Int)-1)=j:=by omega
  refine bf ?_
  refine r8 rp ?_
  refine ao ?_
  refine aL rfl ?_ ?_<;>intro oG mV
  ·refine bf ?_
   refine r8 nf2 ?_
   refine aH ?_
   exact lU j ⟨J,wN.trans (by simp only [jh];rw [if_pos (by simpa using mV)])⟩
  ·refine bB ?_
   refine ah rfl acR ?_
   refine aB ?_
   rw [wN,jh,if_neg (by simpa using mV)]
   exact dO rfl (.pure (cd fX _ _))
 ·have lJ:k=0:=by omega
  subst lJ
  have ej:True:=trivial
  have ek:True:=trivial
  refine bf ?_
  refine r8 rp ?_
  refine bC ?_
  refine ah rfl acR ?_
  refine aB ?_
  rw [wN]
  exact dO rfl (.pure (cd fX _ _))
namespace acx
theorem aw {p q:Prop} (k:q) (e:p=q:=by simp only [e1,e2,e3,e4,p1,p2,p3,q1,q2,q3,l1,t0,t1,r1,r2,r3,r4,Nat.zero_add,Nat.reduceMul,Nat.reduceAdd,b1,b2,b3,b4,b5,b6,i1,i2,i3,i4,i5,i6,Nat.reduceBEq,fU];exact rfl):p:=e.mpr k
end acx
open acx in
theorem ala (a b:List Nat) (ha:bV a) (hb:bV b) (fS:a.length<=1099511627776) (mr:b.length<=1099511627776):ax ak 245 [eX a,eX b] (bp (val a+val b)):=by
 unfold eX bp
 refine aR Tryz.func245 ?_
 refine eQ ?_
 refine ia (fun L=>∃ (x:List Nat) (y:List Nat) (L1:St),(bV x/\bV y/\x.length<=1099511627776/\y.length<=x.length/\val a+val b=val x+val y)/\L=(((St.mk L1.slot (hp [])).put (some 0) (.list 1 (x.map bG))).put (some 1) (.list 1 (y.map bG)))) ?_ ?_
 ·refine aL rfl ?_ ?_<;>intro ahj h13
  ·refine bf ?_
   exact⟨b,a,_,⟨hb,ha,mr,J,mH _ _⟩,((aj (aj (bJ cl) cl) cl)).symm⟩
  ·refine aH ?_
   exact⟨a,b,_,⟨ha,hb,fS,J,rfl⟩,((aj (aj (bJ cl) cl) cl)).symm⟩
 ·rintro _ ⟨x,y,aKS,⟨hx,hy,hlx,hyx,hxy⟩,rfl⟩
  rw [hxy]
  refine ay ?_
  refine dF rfl rfl (.lf (n:=x.length+1) (m:=x.length+1) ml ml om om om) ?_
  refine iY ?_
  refine tz (fun(k:Nat) (o:List Nat) (c:Nat) L=>((((((((St.mk L.slot (hp [(19,⟨1,o.map bG,true⟩)])).put (some 0) (.list 1 (x.map bG))).put (some 1) (.list 1 (y.map bG))).put (some 5) (.ref 19 1 0 (x.length+1))).put (some 6) (cX c)).put (some 20) (.list 1 (x.map bG))).put (some 21) (ae x.length)).put (some 22) (ae k))) (fun k o c=>k<=x.length/\o.length=x.length+1/\c<=1/\bV o/\val (o.take k)+4294967296 ^ k*c=val (x.take k)+val (y.take k)) (fun k o c=>x.length-k) 0 (aV (x.length+1) 0) 0 ⟨bS _,by simp,J,vH _,by simp [val]⟩ ?_
  rintro k o c L1 ⟨hk,dj,hc,cq,hv⟩
  have tL:=iN hx k
  have hyk:=iN hy k
  refine ay ?_
  refine aL rfl ?_ ?_<;>intro tD rf
  ·refine ano ?_
   refine aL rfl ?_ ?_<;>intro amD h34
   ·refine ayr ?_
    exact s8 (k+1) (o.set k ((c+x.getD k 0+y.getD k 0) % 4294967296)) ((c+x.getD k 0+y.getD k 0)/4294967296) ⟨J,by simp [dj],J,mn cq _ _ (jX _ J),aqw J hv rfl⟩
   ·refine yE ?_
    exact s8 (k+1) (o.set k ((c+x.getD k 0) % 4294967296)) ((c+x.getD k 0)/4294967296) ⟨J,by simp [dj],J,mn cq _ _ (jX _ J),aqw J hv (by rw [uF y k J];rfl)⟩
  ·obtain rfl:k=x.length:=by omega
   refine nc ?_
   refine sr [19] su (atv _ sP) ?_
   refine aB ?_
   rw [<-azm (c:=c % 4294967296) hyx dj cq J (by rw [ir J];exact hv)]
   exact dO rfl (.pure (yA _))
theorem rj (l:List Nat) (h:bV l) (hl:l.length<=4611686018427387904):ax ak 209 [eX l] (bp (val l)):=by
 have:=atv l hl
 rwa [vq h] at this
namespace af2
theorem aw {p q:Prop} (k:q) (e:p=q:=by simp only [e1,e2,e3,e4,p1,p2,p3,q1,q2,q3,l1,t0,t1,r1,r2,r3,r4,Nat.zero_add,Nat.reduceMul,Nat.reduceAdd,b1,b2,b3,b4,b5,b6,i1,i2,i3,i4,i5,i6,Nat.reduceBEq,fU,ej];exact rfl):p:=e.mpr k
end af2
open af2 in
theorem ayv (a:List Nat) (hl:a.length<=4611686018427387904):ax ak 127 [eX a] (bL (decide (a.length=0\/a.getD (a.length-1) 0≠0))):=by
 unfold eX
 refine aR Tryz.func127 ?_
 have ej:True:=trivial
 refine bC ?_
 refine ep 6 rfl ?_ ?_<;>intro h6r h6
 ·have ej:True:=trivial
  refine bw ?_
  refine dO ?_ (.pure rfl)
  simp only [e1,e2,e3,e4,p1,p2,p3,q1,q2,q3,uC]
  congr 2
  first | (symm;rw [decide_eq_true_iff];omega) | (rw [ags,bne_iff_ne,decide_eq_true_iff];omega)
 ·have ej:((a.length:Int)-1).toNat=a.length-1:=by omega
  refine bw ?_
  refine dO ?_ (.pure rfl)
  simp only [e1,e2,e3,e4,p1,p2,p3,q1,q2,q3,uC]
  congr 2
  first | (symm;rw [decide_eq_true_iff];omega) | (rw [ags,bne_iff_ne,decide_eq_true_iff];omega)
namespace adH
theorem aw {p q:Prop} (k:q) (e:p=q:=by simp only [e1,e2,e3,e4,p1,p2,p3,q1,q2,q3,l1,t0,t1,r1,r2,r3,r4,Nat.zero_add,Nat.reduceMul,Nat.reduceAdd,b1,b2,b3,b4,b5,b6,i1,i2,i3,i4,i5,i6,Nat.reduceBEq,fU,ej,ek];exact rfl):p:=e.mpr k
end adH
open adH in
theorem arz (a:List Nat) (h:bV a) (hl:a.length<=2):ax ak 213 [eX a] (cX (val a)):=by
 unfold eX
 refine aR Tryz.func213 ?_
 have ej:True:=trivial
 have ek:True:=trivial
 refine lF ?_
 refine iv (fun(k n:Nat) L=>((((St.mk L.slot (hp [])).put (some 0) (.list 1 (a.map bG))).put (some 3) (cX n)).put (some 4) (iL ((k:Int)-1)))) (fun k n=>k<=a.length/\n=val (a.drop k)) (fun k n=>k) a.length 0 ⟨bF _,by simp [val]⟩ ?_
 rintro k n L1 ⟨hk,hn⟩
 refine bf ?_
 refine aL rfl ?_ ?_<;>intro wg h9
 ·obtain⟨j,rfl⟩:∃ j,k=j+1:=⟨k-1,J⟩
  have ej:(((j+1:Nat):Int)-1).toNat=j:=by omega
  have ek:(((j+1:Nat):Int)-1)=j:=by omega
  have hb:=iN h j
  have lN:n<4294967296:=by have:=apq h (k:=j+1) (j:=1) J;rw [hn];simpa using this
  refine aaJ ?_
  exact fO j (n*4294967296+a.getD j 0) ⟨J,by rw [oS J,hn];omega⟩
 ·obtain rfl:k=0:=by omega
  have ej:True:=trivial
  have ek:True:=trivial
  rw [ks] at hn
  rw [<-hn]
  refine bw ?_
  exact dR
open adH in
theorem af6 (a b:List Nat) (ha:bV a) (hb:bV b) (fS:a.length<=1099511627776) (mr:b.length<=1099511627776):ax ak 184 [eX a,eX b] (iL (lL (val a) (val b))):=by
 refine aR Tryz.func184 ?_
 have ej:True:=trivial
 have ek:True:=trivial
 refine bg ?_
 refine cp aO (rj _ iE J) ?_
 refine ao ?_
 refine cp aO (rj _ iE J) ?_
 refine df ?_
 refine aL rfl ?_ ?_<;>intro um nA
 ·have abi:(aq (val a)).length<=1099511627776:=by rw [<-vq ha];unfold xp;simp;omega
  refine bh ?_
  refine aL rfl ?_ ?_<;>intro agy h19
  ·have hE:=agR (m:=val a) (n:=val b) J
   refine bg ?_
   first | (rw [qq hE];exact dO rfl (.pure rfl)) | (rw [sY hE];exact dO rfl (.pure rfl)) | (rw [tZ hE];exact dO rfl (.pure rfl))
  ·have hE:=agR (m:=val b) (n:=val a) J
   refine bB ?_
   first | (rw [qq hE];exact dO rfl (.pure rfl)) | (rw [sY hE];exact dO rfl (.pure rfl)) | (rw [tZ hE];exact dO rfl (.pure rfl))
 ·have hlen:(aq (val a)).length=(aq (val b)).length:=by omega
  have abi:(aq (val a)).length<=1099511627776:=by rw [<-vq ha];unfold xp;simp;omega
  clear nA um
  refine bw ?_
  refine dI (fun(k:Nat) L=>((((St.mk L.slot (hp [])).put (some 0) (bp (val a))).put (some 1) (bp (val b))).put (some 5) (iL ((k:Int)-1)))) (fun k=>k<=(aq (val a)).length/\(aq (val a)).drop k=(aq (val b)).drop k) (fun k=>k) ((aq (val a)).length) ⟨bF _,by rw [ad6,kB J]⟩ ?_
  rintro k L1 ⟨hk,hd⟩
  refine bf ?_
  refine aL rfl ?_ ?_<;>intro rG vz
  ·obtain⟨j,rfl⟩:∃ j,k=j+1:=⟨k-1,J⟩
   have ej:(((j+1:Nat):Int)-1).toNat=j:=by omega
   have ek:(((j+1:Nat):Int)-1)=j:=by omega
   refine a7 ?_
   refine aY 9 al ?_
   refine bC ?_
   refine aL rfl ?_ ?_<;>intro wx uK
   ·refine aH ?_
    refine aY 9 al ?_
    refine bC ?_
    refine aL rfl ?_ ?_<;>intro avf h44
    ·have hE:=aiT (cZ (val a)) (k:=j) J J hd J
     rw [cb,cb] at hE
     refine bw ?_
     first | (rw [qq hE];exact dO rfl (.pure rfl)) | (rw [sY hE];exact dO rfl (.pure rfl)) | (rw [tZ hE];exact dO rfl (.pure rfl))
    ·have hE:=aiT (cZ (val b)) (k:=j) J J hd.symm J
     rw [cb,cb] at hE
     refine dk ?_
     first | (rw [qq hE];exact dO rfl (.pure rfl)) | (rw [sY hE];exact dO rfl (.pure rfl)) | (rw [tZ hE];exact dO rfl (.pure rfl))
   ·refine bB ?_
    exact lU j ⟨J,ard J J hd J⟩
  ·obtain rfl:k=0:=by omega
   have ej:True:=trivial
   have ek:True:=trivial
   rw [ks,ks] at hd
   have hE:val a=val b:=by have:=congrArg val hd;rwa [cb,cb] at this
   refine bC ?_
   first | (rw [qq hE];exact dO rfl (.pure rfl)) | (rw [sY hE];exact dO rfl (.pure rfl)) | (rw [tZ hE];exact dO rfl (.pure rfl))
theorem axv {b:List Nat} (h:bV b):(aq (val b)).length<=b.length:=by
 rw [<-vq h];unfold xp;simp;exact aoX _ _
open H0 in
theorem aB9 (a b:List Nat) (ha:bV a) (hb:bV b) (fS:a.length<=1099511627776) (mr:b.length<=1099511627776) (bZ:val a<val b):ax ak 246 [eX a,eX b] (.a9 [eX [],iL 7]):=by
 refine aR awV ?_
 refine bC ?_
 refine cp au (af6 _ _ iE iE J J) ?_
 refine aQ ?_
 refine aL rfl ?_ ?_<;>intro oG mV
 ·refine bg ?_
  exact vu rfl (.nil 1) rfl (.pure rfl)
 ·exfalso;rw [qq bZ] at mV;omega
theorem ayW {k br:Nat} {a b o:List Nat} (dj:k<o.length) (nF:br<=1) (hx:a.getD k 0<4294967296) (hyb:b.getD k 0<4294967296) (cq:bV o) (hv:val (o.take k)+val (b.take k)=val (a.take k)+4294967296 ^ k*br) {y d:Nat}
  (hy:y=br+b.getD k 0) (hd:d=(18446744073709551616+a.getD k 0-y) % 18446744073709551616) :
  d/9223372036854775808<=1/\bV (o.set k (d % 4294967296))/\val ((o.set k (d % 4294967296)).take (k+1))+val (b.take (k+1))=val (a.take (k+1))+4294967296 ^ (k+1)*(d/9223372036854775808):=by
 refine⟨J,mn cq _ _ J,?_⟩
 rcases kD (a.getD k 0) y with h | h
 ·have h1:d % 4294967296=4294967296+a.getD k 0-y:=by omega
  have h2:d/9223372036854775808=1:=by omega
  rw [h1,h2]
  exact at9 dj hv hy h J
 ·have h1:d % 4294967296=a.getD k 0-y:=by omega
  have h2:d/9223372036854775808=0:=by omega
  rw [h1,h2]
  exact asz dj hv hy h
open acx in
theorem aDR (a b:List Nat) (ha:bV a) (hb:bV b) (fS:a.length<=1099511627776) (mr:b.length<=1099511627776) (hle:val b<=val a):ax ak 246 [eX a,eX b] (.a9 [bp (val a-val b),iL 0]):=by
 have oN:(aq (val b)).length<=a.length:=by
  apply xf;exact xD hle (ab7 ha)
 refine aR awV ?_
 refine bC ?_
 refine cp au (af6 _ _ iE iE J J) ?_
 refine aQ ?_
 refine aL rfl ?_ ?_<;>intro oG mV
 ·exfalso
  rcases atn hle with h | h
  ·rw [sY h] at mV;omega
  ·rw [tZ h.symm] at mV;omega
 ·refine a7 ?_
  refine cp aO (rj _ iE J) ?_
  refine bf ?_
  refine dF rfl rfl (.lf (n:=a.length) (m:=a.length) ml ml om om om) ?_
  refine iY ?_
  refine tz (fun(k:Nat) (o:List Nat) (br:Nat) L=>((((((((St.mk L.slot (hp [(20,⟨1,o.map bG,true⟩)])).put (some 0) (.list 1 (a.map bG))).put (some 1) (bp (val b))).put (some 6) (.ref 20 1 0 a.length)).put (some 7) (cX br)).put (some 21) (.list 1 (a.map bG))).put (some 22) (ae a.length)).put (some 23) (ae k))) (fun k o br=>k<=a.length/\o.length=a.length/\br<=1/\bV o/\val (o.take k)+val ((aq (val b)).take k)=val (a.take k)+4294967296 ^ k*br) (fun k o br=>a.length-k) 0 (aV a.length 0) 0 ⟨bS _,by simp,J,vH _,by simp [val]⟩ ?_
  rintro k o br L1 ⟨hk,dj,nF,cq,hv⟩
  have tL:=iN ha k
  have hyk:=ix (val b) k
  refine ay ?_
  refine aL rfl ?_ ?_<;>intro rG vz
  ·refine amO ?_
   refine ia (fun L=>∃ (y:Nat) (L1:St),(y=br+(aq (val b)).getD k 0)/\L=(((((((((((St.mk L1.slot (hp [(20,⟨1,o.map bG,true⟩)])).put (some 0) (.list 1 (a.map bG))).put (some 1) (bp (val b))).put (some 6) (.ref 20 1 0 a.length)).put (some 7) (cX br)).put (some 21) (.list 1 (a.map bG))).put (some 22) (ae a.length)).put (some 23) (ae k)).put (some 9) (bG (a.getD k 0))).put (some 8) (ae k)).put (some 10) (cX y))) ?_ ?_
   ·refine aL rfl ?_ ?_<;>intro ael h32
    ·refine bC ?_
     exact⟨br+(aq (val b)).getD k 0,_,rfl,((aj (aj (aj (aj (aj (aj (aj (aj (aj (aj (bJ cl) cl) cl) cl) cl) cl) cl) cl) cl) cl) cl)).symm⟩
    ·refine aH ?_
     exact⟨br,_,by rw [uF _ k J];rfl,((aj (aj (aj (aj (aj (aj (aj (aj (aj (aj (bJ cl) cl) cl) cl) cl) cl) cl) cl) cl) cl) cl)).symm⟩
   ·rintro _ ⟨y,aL3,hy,rfl⟩
    refine ay ?_
    refine ah rfl (.bin rfl rfl (aeO J)) ?_
    refine uS ?_
    exact s8 (k+1) (o.set k ((18446744073709551616+a.getD k 0-y) % 18446744073709551616 % 4294967296)) ((18446744073709551616+a.getD k 0-y) % 18446744073709551616/9223372036854775808) ⟨J,by simp [dj],ayW J nF tL hyk cq hv hy rfl⟩
  ·obtain rfl:k=a.length:=by omega
   refine bg ?_
   refine sr [20] su (rj _ iE J) ?_
   refine a7 ?_
   have e:=asU ha cq dj oN (by rw [cb];exact hle) hv
   rw [vq cq,cb] at e
   have e2:=congrArg val e
   rw [cb,cb] at e2
   rw [<-e2]
   exact vu rfl (.pure (kf _)) rfl (.pure rfl)
theorem ayl {c x y z:Nat} (hc:c<4294967296) (hx:x<4294967296) (hy:y<4294967296) (hz:z<4294967296):c+(x*y+z)<18446744073709551616:=by
 have:=uV hx hy;omega
theorem mul_zero {i x:Nat} {a b o:List Nat} (hx:x=a.getD i 0) (h0:x=0) (hv:val o=val (a.take i)*val b):val o=val (a.take (i+1))*val b:=by
 rw [pv,<-hx,h0];simpa using hv
theorem aoI {i m j x:Nat} {o:List Nat} (hj:j<m) (hz:∀ p,i+m<=p->o.getD p 0=0):∀ p,i+m<=p->(o.set (i+j) x).getD p 0=0:=fun p hp=>by
 rw [Go.Lg.getD_set_ne _ _ _ _ J];exact hz p hp
theorem asB {i m x:Nat} {o:List Nat} (hz:∀ p,i+m<=p->o.getD p 0=0):∀ p,i+1+m<=p->(o.set (i+m) x).getD p 0=0:=fun p hp=>by
 rw [Go.Lg.getD_set_ne _ _ _ _ J];exact hz p J
theorem apJ (n p:Nat):(aV n 0).getD p 0=0:=by
 rw [bE,List.getElem?_replicate];split<;>rfl
namespace anx
theorem aw {p q:Prop} (k:q) (e:p=q:=by simp only [e1,e2,e3,e4,p1,p2,p3,q1,q2,q3,l1,t0,t1,r1,r2,r3,r4,Nat.zero_add,Nat.reduceMul,Nat.reduceAdd,b1,b2,b3,b4,b5,b6,i1,i2,i3,i4,i5,i6,Nat.reduceBEq,fU,kh];exact rfl):p:=e.mpr k
end anx
open anx in
theorem zf (a b:List Nat) (ha:bV a) (hb:bV b) (fS:a.length<=1099511627776) (mr:b.length<=1099511627776):ax ak 185 [eX a,eX b] (bp (val a*val b)):=by
 unfold eX
 refine aR Tryz.func185 ?_
 have kh:True:=trivial
 refine bw ?_
 refine dF rfl rfl (.lf (n:=a.length+b.length) (m:=a.length+b.length) ml ml om om om) ?_
 refine bw ?_
 refine iv (fun(i:Nat) (o:List Nat) L=>(((((((St.mk L.slot (hp [(16,⟨1,o.map bG,true⟩)])).put (some 0) (.list 1 (a.map bG))).put (some 1) (.list 1 (b.map bG))).put (some 5) (.ref 16 1 0 (a.length+b.length))).put (some 17) (.list 1 (a.map bG))).put (some 18) (ae a.length)).put (some 19) (ae i))) (fun i o=>i<=a.length/\o.length=a.length+b.length/\bV o/\val o=val (a.take i)*val b/\∀ p,i+b.length<=p->o.getD p 0=0) (fun i o=>a.length-i) 0 (aV (a.length+b.length) 0) ⟨bS _,by simp,vH _,by simp [val,ajo],fun p _=>apJ _ _⟩ ?_
 rintro i o L1 ⟨hi,dj,cq,hv,hz⟩
 have zH:=iN ha i
 have kh:True:=trivial
 refine ay ?_
 refine aL rfl ?_ ?_<;>intro aae ze
 ·refine lF ?_
  refine aL rfl ?_ ?_<;>intro afB yD
  ·refine bB ?_
   exact fO (i+1) o ⟨J,dj,cq,mul_zero rfl J hv,fun p hp=>hz p J⟩
  ·refine nm ?_
   refine tz (fun(j:Nat) (o:List Nat) (c:Nat) L=>(((((((((((((St.mk L.slot (hp [(16,⟨1,o.map bG,true⟩)])).put (some 0) (.list 1 (a.map bG))).put (some 1) (.list 1 (b.map bG))).put (some 5) (.ref 16 1 0 (a.length+b.length))).put (some 17) (.list 1 (a.map bG))).put (some 18) (ae a.length)).put (some 19) (ae i)).put (some 6) (ae i)).put (some 7) (bG (a.getD i 0))).put (some 8) (cX c)).put (some 26) (.list 1 (b.map bG))).put (some 27) (ae b.length)).put (some 28) (ae j))) (fun j o c=>j<=b.length/\o.length=a.length+b.length/\bV o/\c<4294967296/\val o+4294967296 ^ (i+j)*c=val (a.take i)*val b+4294967296 ^ i*(a.getD i 0*val (b.take j))/\∀ p,i+b.length<=p->o.getD p 0=0) (fun j o c=>b.length-j) 0 o 0 ⟨bS _,dj,cq,J,by rw [hv];simp [val],hz⟩ ?_
   rintro j o c L2 ⟨hj,dj,cq,hc,hv,hz⟩
   have hyj:=iN hb j
   have hzj:=iN cq (i+j)
   have hs:=ayl hc zH hyj hzj
   have kh:((i:Int)+(j:Int)).toNat=i+j:=by omega
   refine ay ?_
   refine aL rfl ?_ ?_<;>intro aa9 h29
   ·refine aFJ ?_
    exact s8 (j+1) (o.set (i+j) ((c+(a.getD i 0*b.getD j 0+o.getD (i+j) 0)) % 4294967296)) ((c+(a.getD i 0*b.getD j 0+o.getD (i+j) 0))/4294967296) ⟨J,by simp [dj],mn cq _ _ (jX _ J),J,awC J hv rfl,aoI J hz⟩
   ·obtain rfl:j=b.length:=by omega
    have aCa:((i:Int)+(b.length:Int)).toNat=i+b.length:=by omega
    refine aaJ ?_
    exact fO (i+1) (o.set (i+b.length) (c % 4294967296)) ⟨J,by simp [dj],mn cq _ _ (jX _ J),by rw [ir hc];exact aqR J J (hz _ (bF _)) rfl rfl hv,asB hz⟩
 ·obtain rfl:i=a.length:=by omega
  refine bg ?_
  refine sr [16] su (rj _ iE sP) ?_
  refine aB ?_
  rw [mQ] at hv
  rw [<-hv]
  exact dR
open adH in
theorem aJs (a:List Nat) (d:Nat) (ha:bV a) (fS:a.length<=1099511627776) (kM:0<d) (hd:d<4294967296):ax ak 261 [eX a,qe d] (.a9 [bp (val a/d),qe (val a % d)]):=by
 unfold eX
 refine aR Tryz.func261 ?_
 have ej:True:=trivial
 have ek:True:=trivial
 refine bh ?_
 refine dF rfl rfl (.lf (n:=a.length) (m:=a.length) ml ml om om om) ?_
 refine nO ?_
 refine tz (fun(k:Nat) (q:List Nat) (r:Nat) L=>((((((St.mk L.slot (hp [(11,⟨1,q.map bG,true⟩)])).put (some 0) (.list 1 (a.map bG))).put (some 1) (qe d)).put (some 6) (.ref 11 1 0 a.length)).put (some 7) (cX r)).put (some 8) (iL ((k:Int)-1)))) (fun k q r=>k<=a.length/\q.length=a.length/\bV q/\r<d/\val (q.drop k)*d+r=val (a.drop k)) (fun k q r=>k) a.length (aV a.length 0) 0 ⟨bF _,by simp,vH _,kM,by simp [val]⟩ ?_
 rintro k q r L1 ⟨hk,jF,lO,hr,hv⟩
 refine bf ?_
 refine aL rfl ?_ ?_<;>intro vT sa
 ·obtain⟨j,rfl⟩:∃ j,k=j+1:=⟨k-1,J⟩
  have ej:(((j+1:Nat):Int)-1).toNat=j:=by omega
  have ek:(((j+1:Nat):Int)-1)=j:=by omega
  have hxj:=iN ha j
  refine yE ?_
  refine ah rfl aeu ?_
  refine lF ?_
  exact s8 j (q.set j ((r*4294967296+a.getD j 0)/d % 4294967296)) ((r*4294967296+a.getD j 0) % d) ⟨J,by simp [jF],mn lO _ _ (jX _ J),jX _ kM,by rw [ir (apk hr hxj)];exact aqf J jF hv rfl⟩
 ·obtain rfl:k=0:=by omega
  have ej:True:=trivial
  have ek:True:=trivial
  refine bg ?_
  refine sr [11] su (rj _ iE sP) ?_
  refine bf ?_
  obtain⟨E1,E2⟩:=arC kM hr lO hv
  rw [vq lO] at E1
  have E3:=congrArg val E1
  rw [cb,cb] at E3
  rw [<-E3,<-E2]
  have E4:r % 4294967296=r:=ir J
  refine vu rfl (.pure (kf _)) rfl ?_
  show da _ (qe (r % 4294967296)) (qe r)
  rw [E4]
  exact .pure rfl
theorem agc {s:Nat} (hs:s<32):2 ^ s<=2147483648/\0<2 ^ s:=⟨oy (n:=2) J (show s<=31 by omega),lC J⟩
theorem asy {m:Nat} (h:m<256):(0:Int)<=IntKind.u8.wrap (m:Int)/\(IntKind.u8.wrap (m:Int)).toNat=m:=by
 rw [IntKind.wrap_u8];omega
theorem aoH {x p:Nat} (hx:x<4294967296) (hp:p<=2147483648):x*p<=9223372034707292160:=by
 have:=Nat.mul_le_mul (Nat.le_sub_one_of_lt hx) hp;simpa using this
theorem auK {x p c:Nat} (hx:x<4294967296) (hc:c<p):(x*p+c)/4294967296<p:=by
 rw [nw J]
 have:(x+1)*p<=4294967296*p:=eT _ hx
 rw [iw] at this
 rw [eH p];omega
open acx in
theorem aJJ (a:List Nat) (s:Nat) (ha:bV a) (fS:a.length<=1099511627776) (hs:s<32):pC ak 263 [eX a,ae s] (.ref 1 1 0 (a.length+1)) [⟨1,(iC (a.length+1) (val a*2 ^ s)).map bG,true⟩]:=by
 unfold eX
 refine fnO Tryz.func263 ?_
 refine bh ?_
 refine dF rfl rfl (.lf (n:=a.length+1) (m:=a.length+1) ml ml om om om) ?_
 refine iY ?_
 refine tz (fun(k:Nat) (o:List Nat) (c:Nat) L=>((((((((St.mk L.slot (hp [(12,⟨1,o.map bG,true⟩)])).put (some 0) (.list 1 (a.map bG))).put (some 1) (ae s)).put (some 5) (.ref 12 1 0 (a.length+1))).put (some 6) (cX c)).put (some 13) (.list 1 (a.map bG))).put (some 14) (ae a.length)).put (some 15) (ae k))) (fun k o c=>k<=a.length/\o.length=a.length+1/\c<2 ^ s/\bV o/\val (o.take k)+4294967296 ^ k*c=val (a.take k)*2 ^ s) (fun k o c=>a.length-k) 0 (aV (a.length+1) 0) 0 ⟨bS _,by simp,(agc hs).2,vH _,by simp [val]⟩ ?_
 rintro k o c L1 ⟨hk,dj,hc,cq,hv⟩
 have tL:=iN ha k
 obtain⟨ju,tC⟩:=agc hs
 have o5:=aoH tL ju
 refine ay ?_
 refine aL rfl ?_ ?_<;>intro vT sa
 ·refine nc ?_
  refine ah rfl (.sh rfl rfl (avQ J J)) ?_
  refine ah rfl (.bin rfl rfl (orV hc J)) ?_
  refine uS ?_
  exact s8 (k+1) (o.set k ((a.getD k 0*2 ^ s+c) % 4294967296)) ((a.getD k 0*2 ^ s+c)/4294967296) ⟨J,by simp [dj],auK tL hc,mn cq _ _ (jX _ J),aAb J hv rfl⟩
 ·obtain rfl:k=a.length:=by omega
  refine aaJ ?_
  have x9:c % 4294967296=c:=ir J
  have E:=aFf dj hv
  have E2:=ajp (mn cq a.length c J) (by simp only [List.length_set];exact dj)
  rw [E] at E2
  rw [<-E2]
  simp only [x9]
  exact aga rfl rfl (aP fX _)
open H0 in
theorem aow (n:Nat) (hn:n<18446744073709551616):ax ak 214 [cX n] (bp n):=by
 have hL:bV [n % 4294967296,n/4294967296 % 4294967296]:=by
  intro x hx;simp at hx;omega
 have hV:val [n % 4294967296,n/4294967296 % 4294967296]=n:=by rw [val_two];omega
 refine aR Tryz.func214 ?_
 refine dk ?_
 refine sr [8] su (rj _ iE sP) ?_
 refine aB ?_
 skip
 exact dO rfl (by rw [hV];exact .pure (kf _))
namespace apE
theorem rF {p q:Prop} (k:q) (e:p=q:=by simp only [e1,e2,e3,e4,p1,p2,p3,q1,q2,q3,l1,t0,t1,r1,r2,r3,r4,Nat.zero_add,Nat.reduceMul,Nat.reduceAdd,b1,b2,b3,b4,b5,b6,i1,i2,i3,i4,i5,i6,Nat.reduceBEq,hbn];exact rfl):p:=e.mpr k
theorem rp {p:Prop} (h:p:=by first | (refine rF ?_;exact rfl) | exact rfl):p:=h
end apE
open apE H0 in
theorem aoR (n:Nat) (hn:n<4294967296):ax ak 210 [qe n] (iL (dK n)):=by
 refine aR Tryz.func210 ?_
 refine bw ?_
 refine ia (fun L=>∃ (m:Nat) (q:Nat) (L1:St),(dK n=q+dK m/\m<65536/\q<=16)/\L=(((St.mk L1.slot (hp [])).put (some 0) (qe m)).put (some 2) (iL q))) ?_ ?_
 ·refine aL rfl ?_ ?_<;>intro h4r h4
  ·refine aQ ?_
   refine ah rfl (.sh rfl rfl (aes (m:=16) ai)) ?_
   refine bf ?_
   exact⟨n/2 ^ 16,16,_,⟨ai0 J,J,J⟩,((aj (aj (bJ cl) cl) cl)).symm⟩
  ·refine aH ?_
   exact⟨n,0,_,⟨J,J,J⟩,((aj (aj (bJ cl) cl) cl)).symm⟩
 ·rintro _ ⟨m,q,LC4,⟨hb1,hm,hq⟩,rfl⟩
  refine bg ?_
  refine ia (fun L=>∃ (m2:Nat) (q2:Nat) (L1:St),(dK n=q2+dK m2/\m2<256/\q2<=24)/\L=(((St.mk L1.slot (hp [])).put (some 0) (qe m2)).put (some 2) (iL q2))) ?_ ?_
  ·refine aL rfl ?_ ?_<;>intro re h8
   ·refine aQ ?_
    refine ah rfl (.sh rfl rfl (aes (m:=8) ai)) ?_
    refine bB ?_
    exact⟨m/2 ^ 8,q+8,_,⟨by rw [hb1,ai0 (n:=m) (k:=8) J];omega,J,J⟩,((aj (aj (bJ cl) cl) cl)).symm⟩
   ·refine aH ?_
    exact⟨m,q,_,⟨hb1,J,J⟩,((aj (aj (bJ cl) cl) cl)).symm⟩
  ·rintro _ ⟨m2,q2,LC8,⟨hb2,fc,hq2⟩,rfl⟩
   have hb8:dK m2<=8:=vK.2 fc
   have hbn:(UInt8.ofNat (dK m2)).toNat=dK m2:=(by decide:∀ k,k<=8->(UInt8.ofNat k).toNat=k) _ hb8
   refine ay ?_
   refine ah rfl (.ahz (b:=UInt8.ofNat (dK m2)) rfl Tryz.underlying9 rfl (asy fc).1 (by rw [(asy fc).2];exact tbl al fc)) ?_
   refine ah rfl (.cvI aoG arW rfl J J) ?_
   refine ah rfl afa ?_
   refine ao ?_
   refine r8 rp ?_
   refine aH ?_
   rw [hb2]
   exact dO rfl (by first | exact .pure rfl | (rw [hbn];exact .pure rfl))
open H0 in
theorem aJ6 (n:Nat) (hn:n<4294967296):ax ak 262 [qe n] (iL (32-dK n)):=by
 have hb:dK n<=32:=vK.2 hn
 refine aR Tryz.func262 ?_
 refine bg ?_
 refine cp aO (aoR _ J) ?_
 refine a7 ?_
 exact dR
theorem ab3 (l:List Nat) (h:bV l) (hl:l.length<=1099511627776):(aq (val l)).length<=1099511627776:=bb (axv h) hl
theorem apj {n:Nat} (h:0<(aq n).length):32*((aq n).length-1)+dK ((aq n).getD ((aq n).length-1) 0)=dK n:=by
 have:=aBH (cZ n) (aff n) h
 rw [cb] at this;omega
open af2 in
theorem adV (a:List Nat) (ha:bV a) (fS:a.length<=1099511627776):ax ak 128 [eX a] (iL (dK (val a))):=by
 have bZ:=ab3 a ha fS
 refine aR Tryz.func128 ?_
 have ej:True:=trivial
 refine bg ?_
 refine cp aO (rj _ iE sP) ?_
 refine bC ?_
 refine aL rfl ?_ ?_<;>intro h7r h7
 ·have h0:val a=0:=sk.1 (oC J)
  have hz:dK (val a)=0:=wZ.2 h0
  refine bf ?_
  rw [hz]
  exact dR
 ·have kp:0<(aq (val a)).length:=by omega
  have ej:(((aq (val a)).length:Int)-1).toNat=(aq (val a)).length-1:=by omega
  have hz:=apj kp
  have abG:=ix (val a) ((aq (val a)).length-1)
  have anC:dK ((aq (val a)).getD ((aq (val a)).length-1) 0)<=32:=vK.2 abG
  refine df ?_
  refine cp aO (aoR _ (by rw [ej];exact abG)) ?_
  refine ah rfl (.bin rfl rfl (zj (by simp only [ej,fU];omega) (by simp only [ej,fU];omega))) ?_
  refine aB ?_
  refine dO ?_ (.pure rfl)
  simp only [e1,e2,e3,e4,p1,p2,p3,q1,q2,q3,uC]
  congr 2
  omega
namespace aud
theorem rF {p q:Prop} (k:q) (e:p=q:=by simp only [e1,e2,e3,e4,p1,p2,p3,q1,q2,q3,l1,t0,t1,r1,r2,r3,r4,Nat.zero_add,Nat.reduceMul,Nat.reduceAdd,b1,b2,b3,b4,b5,b6,i1,i2,i3,i4,i5,i6,Nat.reduceBEq,List.take_zero,List.take_nil,List.nil_append,aG fX,LV.kill];exact rfl):p:=e.mpr k
theorem rp {p:Prop} (h:p:=by first | (refine rF ?_;exact rfl) | exact rfl):p:=h
end aud
open aud H0 in
theorem aeH (a:List Nat) (fS:a.length<=1099511627776):ax ak 211 [eX a] (eX a):=by
 unfold eX
 refine aR Tryz.func211 ?_
 refine bf ?_
 refine aix (aC4 (sz:=1) (l:=a.map bG) rfl oX (fun b hb=>?_))
 refine ao ?_
 refine aL rfl ?_ ?_<;>intro h4r h4
 ·have aob:a=[]:=by simpa using hb h4r
  subst aob
  refine bf ?_
  exact dO rfl (.nil 1)
 ·refine ay ?_
  refine bO rfl (.app rfl rfl rfl rfl rfl (bS _) (.inr rfl) ai oX oX abS rR rfl abe (.inr (.inl rfl)) bq bq ai) ?_
  refine ao ?_
  refine r8 rp ?_
  refine aH ?_
  exact lW [7] rfl rfl (dH fX rfl rfl aW)
open acx in
theorem ahd (a b:List Nat) (fS:a.length<=1099511627776) (mr:b.length<=1099511627776):ax ak 183 [eX a,eX b] (bL (decide (a=b))):=by
 unfold eX
 refine aR Tryz.func183 ?_
 refine eQ ?_
 refine aL rfl ?_ ?_<;>intro pA sC
 ·have hE:a≠b:=by rintro rfl;omega
  refine bf ?_
  first | (rw [decide_eq_true hE];exact dO rfl (.pure rfl)) | (rw [decide_eq_false hE];exact dO rfl (.pure rfl))
 ·have hl:a.length=b.length:=by omega
  clear sC pA
  refine bC ?_
  refine dI (fun(k:Nat) L=>((((((St.mk L.slot (hp [])).put (some 0) (.list 1 (a.map bG))).put (some 1) (.list 1 (b.map bG))).put (some 11) (.list 1 (a.map bG))).put (some 12) (ae a.length)).put (some 13) (ae k))) (fun k=>k<=a.length/\a.take k=b.take k) (fun k=>a.length-k) 0 ⟨bS _,rfl⟩ ?_
  rintro k L1 ⟨hk,ht⟩
  refine ay ?_
  refine aL rfl ?_ ?_<;>intro um nA
  ·refine bC ?_
   refine aY 9 al ?_
   refine bC ?_
   refine aL rfl ?_ ?_<;>intro rG vz
   ·have hE:a≠b:=by rintro rfl;omega
    refine bC ?_
    first | (rw [decide_eq_true hE];exact dO rfl (.pure rfl)) | (rw [decide_eq_false hE];exact dO rfl (.pure rfl))
   ·refine bg ?_
    exact lU (k+1) ⟨J,azJ J J ht J⟩
  ·obtain rfl:k=a.length:=by omega
   have hE:a=b:=by rw [mQ,hl,mQ] at ht;exact ht
   refine bC ?_
   first | (rw [decide_eq_true hE];exact dO rfl (.pure rfl)) | (rw [decide_eq_false hE];exact dO rfl (.pure rfl))
namespace ape
theorem aw {p q:Prop} (k:q) (e:p=q:=by simp only [e1,e2,e3,e4,p1,p2,p3,q1,q2,q3,l1,t0,t1,r1,r2,r3,r4,Nat.zero_add,Nat.reduceMul,Nat.reduceAdd,b1,b2,b3,b4,b5,b6,i1,i2,i3,i4,i5,i6,Nat.reduceBEq,ej,ek,fU];exact rfl):p:=e.mpr k
end ape
open ape in
theorem aBB (l:List Nat) (hl:l.length<=4611686018427387904) (h0:0<l.length):uv ak 209 ⟨1,l.map bG,true⟩ [.ref 0 1 0 l.length] (.ref 0 1 0 (jh l.length l)) ⟨1,l.map bG,true⟩:=by
 refine fnM atG ?_
 have ej:True:=trivial
 have ek:True:=trivial
 refine df ?_
 refine dI (fun(k:Nat) L=>(((St.mk L.slot (hp [(0,⟨1,l.map bG,true⟩)])).put (some 0) (.ref 0 1 0 l.length)).put (some 3) (ae k))) (fun k=>k<=l.length/\jh l.length l=jh k l) (fun k=>k) l.length ⟨bF _,rfl⟩ ?_
 rintro k L1 ⟨hk,wN⟩
 refine ay ?_
 refine ep 8 rfl ?_ ?_<;>intro re h8
 ·obtain⟨j,rfl⟩:∃ j,k=j+1:=⟨k-1,J⟩
  have ej:(((j+1:Nat):Int)-1).toNat=j:=by omega
  have ek:(((j+1:Nat):Int)-1)=j:=by omega
  refine bB ?_
  refine aL rfl ?_ ?_<;>intro oG mV
  ·refine bh ?_
   exact lU j ⟨J,wN.trans (by simp only [jh];rw [if_pos (by simpa using mV)])⟩
  ·refine bB ?_
   refine ah rfl acR ?_
   refine aB ?_
   rw [wN,jh,if_neg (by simpa using mV)]
   exact xS rfl .ref rfl rfl (aP fX _)
 ·have lJ:k=0:=by omega
  subst lJ
  refine nc ?_
  refine ah rfl acR ?_
  refine aB ?_
  rw [wN]
  exact xS rfl .ref rfl rfl (aP fX _)
theorem aEv (l:List Nat) (n:Nat) (hn:n=l.length) (hl:n<=4611686018427387904) (h0:0<n):uv ak 209 ⟨1,l.map bG,true⟩ [.ref 0 1 0 n] (.ref 0 1 0 (jh n l)) ⟨1,l.map bG,true⟩:=by
 subst hn;exact aBB l hl h0
theorem aus (x s:Nat) (fS:(aq x).length<=1099511627776) (hs:s<32):pC ak 263 [bp x,ae s] (.ref 1 1 0 ((aq x).length+1)) [⟨1,(iC ((aq x).length+1) (x*2 ^ s)).map bG,true⟩]:=by
 have:=aJJ (aq x) s (cZ x) fS hs
 rw [cb] at this
 exact this
theorem val_one (x:Nat):val [x]=x:=by simp [val]
theorem aqM {x:Nat} (h:x<=32):(32:Int)-(x:Int)=((32-x:Nat):Int):=by omega
namespace aca
theorem aw {p q:Prop} (k:q) (e:p=q:=by simp only [e1,e2,e3,e4,p1,p2,p3,q1,q2,q3,l1,t0,t1,r1,r2,r3,r4,Nat.zero_add,Nat.reduceMul,Nat.reduceAdd,b1,b2,b3,b4,b5,b6,i1,i2,i3,i4,i5,i6,Nat.reduceBEq,fU,cb,ej,ek,es,eV,oL,nR,qD,sd,sT,ow,pZ,kh,uh,tU,ph,qN,List.set_set,List.length_set,Nat.add_mod_mod,rX,si,mh,jV];exact rfl):p:=e.mpr k
theorem rF {p q:Prop} (k:q) (e:p=q:=by simp only [e1,e2,e3,e4,p1,p2,p3,q1,q2,q3,l1,t0,t1,r1,r2,r3,r4,Nat.zero_add,Nat.reduceMul,Nat.reduceAdd,b1,b2,b3,b4,b5,b6,i1,i2,i3,i4,i5,i6,Nat.reduceBEq,fU,cb,ej,ek,es,eV,oL,nR,qD,sd,sT,ow,pZ,kh,uh,tU,ph,qN,List.set_set,List.length_set,Nat.add_mod_mod,rX,si,mh,jV,sT];exact rfl):p:=e.mpr k
theorem rp {p:Prop} (h:p:=by first | (refine rF ?_;exact rfl) | exact rfl):p:=h
theorem amB {p q:Prop} (k:q) (e:p=q:=by simp only [e1,e2,e3,e4,p1,p2,p3,q1,q2,q3,l1,t0,t1,r1,r2,r3,r4,Nat.zero_add,Nat.reduceMul,Nat.reduceAdd,b1,b2,b3,b4,b5,b6,i1,i2,i3,i4,i5,i6,Nat.reduceBEq,fU,cb,ej,ek,es,eV,oL,nR,qD,sd,sT,ow,pZ,kh,uh,tU,ph,qN,List.set_set,List.length_set,Nat.add_mod_mod,rX,si,mh,jV,val_one];exact rfl):p:=e.mpr k
theorem nf2 {p:Prop} (h:p:=by first | (refine amB ?_;exact rfl) | exact rfl):p:=h
theorem az9 {p q:Prop} (k:q) (e:p=q:=by simp only [e1,e2,e3,e4,p1,p2,p3,q1,q2,q3,l1,t0,t1,r1,r2,r3,r4,Nat.zero_add,Nat.reduceMul,Nat.reduceAdd,b1,b2,b3,b4,b5,b6,i1,i2,i3,i4,i5,i6,Nat.reduceBEq,fU,cb,ej,ek,es,eV,oL,nR,qD,sd,sT,ow,pZ,kh,uh,tU,ph,qN,List.set_set,List.length_set,Nat.add_mod_mod,rX,si,mh,jV,vo,sd];exact rfl):p:=e.mpr k
theorem nf3 {p:Prop} (h:p:=by first | (refine az9 ?_;exact rfl) | exact rfl):p:=h
theorem apR {p q:Prop} (k:q) (e:p=q:=by simp only [e1,e2,e3,e4,p1,p2,p3,q1,q2,q3,l1,t0,t1,r1,r2,r3,r4,Nat.zero_add,Nat.reduceMul,Nat.reduceAdd,b1,b2,b3,b4,b5,b6,i1,i2,i3,i4,i5,i6,Nat.reduceBEq,fU,cb,ej,ek,es,eV,oL,nR,qD,sd,sT,ow,pZ,kh,uh,tU,ph,qN,List.set_set,List.length_set,Nat.add_mod_mod,rX,si,mh,jV,jV];exact rfl):p:=e.mpr k
theorem nf4 {p:Prop} (h:p:=by first | (refine apR ?_;exact rfl) | exact rfl):p:=h
theorem fb {p:Prop} (h:p:=by first | rfl | (refine apR ?_;first | exact trivial | rfl | (congr 3<;>omega) | (congr 2<;>omega))):p:=h
theorem aAy {p q:Prop} (k:q) (e:p=q:=by simp only [e1,e2,e3,e4,p1,p2,p3,q1,q2,q3,l1,t0,t1,r1,r2,r3,r4,Nat.zero_add,Nat.reduceMul,Nat.reduceAdd,b1,b2,b3,b4,b5,b6,i1,i2,i3,i4,i5,i6,Nat.reduceBEq,fU,cb,ej,ek,es,eV,oL,nR,qD,sd,sT,ow,pZ,kh,uh,tU,ph,qN,List.set_set,List.length_set,Nat.add_mod_mod,rX,si,mh,jV,jV,sd];exact rfl):p:=e.mpr k
theorem sJ {p:Prop} (h:p:=by first | rfl | (refine aAy ?_;first | exact trivial | rfl | (congr 3<;>omega) | (congr 2<;>omega))):p:=h
theorem aCQ {p q:Prop} (k:q) (e:p=q:=by simp only [e1,e2,e3,e4,p1,p2,p3,q1,q2,q3,l1,t0,t1,r1,r2,r3,r4,Nat.zero_add,Nat.reduceMul,Nat.reduceAdd,b1,b2,b3,b4,b5,b6,i1,i2,i3,i4,i5,i6,Nat.reduceBEq,fU,cb,ej,ek,es,eV,oL,nR,qD,sd,sT,ow,pZ,kh,uh,tU,ph,qN,List.set_set,List.length_set,Nat.add_mod_mod,rX,si,mh,jV,<-hT];exact rfl):p:=e.mpr k
theorem nf6 {p:Prop} (h:p:=by first | (refine aCQ ?_;exact rfl) | exact rfl):p:=h
end aca
open aca in
theorem aJB (b ul ql:List Nat) (n s m q0 j:Nat) (jV:(aq (val b*2 ^ s)).length=n+2) (ki:n+2<=m) (pO:m<=1099511627776) (lj:q0=m+1-(n+2)) (hk:j+1<=q0) (lX:ul.length=m+1) (jF:ql.length=q0) (gz:bV ul) (lO:bV ql) (tV:2147483648<=(aq (val b*2 ^ s)).getD (n+1) 0) (kY:0<(val b*2 ^ s)) (vC:(val b*2 ^ s)<4294967296 ^ (n+2)) (bZ:val ul<(val b*2 ^ s)*4294967296 ^ (j+1)) {Q:jT->St->Prop} (L1:St)
  (hQ:∀ (x:Nat) (L2:St),(val ul/4294967296 ^ j/(val b*2 ^ s)<=x/\x<=val ul/4294967296 ^ j/(val b*2 ^ s)+1/\x<4294967296)->Q .normal ((((((((St.mk L2.slot (hp [(1001057,⟨1,ul.map bG,true⟩),(1001105,⟨1,(iC ((aq (val b)).length+1) (val b*2 ^ s)).map bG,false⟩),(77,⟨1,ql.map bG,true⟩)])).put (some 4) (.ref 77 1 0 q0)).put (some 9) (ae s)).put (some 10) (.ref 1001057 1 0 (m+1))).put (some 11) (bp (val b*2 ^ s))).put (some 12) (ae (n+2))).put (some 13) (iL (((j+1:Nat):Int)-1))).put (some 15) (cX x))) :
  cU ak ((abh afz [1,1,1,1,1,1,1,0,1,0,0,1,0,0,1,1,0]).getD .skip) Q (((((((((St.mk L1.slot (hp [(1001057,⟨1,ul.map bG,true⟩),(1001105,⟨1,(iC ((aq (val b)).length+1) (val b*2 ^ s)).map bG,false⟩),(77,⟨1,ql.map bG,true⟩)])).put (some 4) (.ref 77 1 0 q0)).put (some 9) (ae s)).put (some 10) (.ref 1001057 1 0 (m+1))).put (some 11) (bp (val b*2 ^ s))).put (some 12) (ae (n+2))).put (some 13) (iL (((j+1:Nat):Int)-1))).put (some 15) (cX ((ul.getD (n+2+j) 0*4294967296+ul.getD (n+1+j) 0)/(aq (val b*2 ^ s)).getD (n+1) 0))).put (some 16) (cX ((ul.getD (n+2+j) 0*4294967296+ul.getD (n+1+j) 0) % (aq (val b*2 ^ s)).getD (n+1) 0))):=by
 have ej:True:=trivial
 have ek:True:=trivial
 have es:True:=trivial
 have eV:True:=trivial
 have oL:True:=trivial
 have nR:True:=trivial
 have qD:True:=trivial
 have sd:True:=trivial
 have sT:True:=trivial
 have ow:True:=trivial
 have pZ:True:=trivial
 have kh:True:=trivial
 have uh:True:=trivial
 have tU:True:=trivial
 have ph:True:=trivial
 have qN:True:=trivial
 have rX:True:=trivial
 have si:True:=trivial
 have mh:True:=trivial
 have oL:((j:Int)+((n+2:Nat):Int)).toNat=n+2+j:=by omega
 have nR:((j:Int)+((n+2:Nat):Int)-1).toNat=n+1+j:=by omega
 have qD:((j:Int)+((n+2:Nat):Int)-2).toNat=n+j:=by omega
 have ow:(((n+2:Nat):Int)-1).toNat=n+1:=by omega
 have pZ:(((n+2:Nat):Int)-2).toNat=n:=by omega
 have ek:(((j+1:Nat):Int)-1)=(j:Int):=by omega
 have agj:=ix ((val b*2 ^ s)) (n+1)
 have aab:=ix ((val b*2 ^ s)) n
 have hu0:=iN gz (n+2+j)
 have rJ:=iN gz (n+1+j)
 have wo:=iN gz (n+j)
 obtain⟨vl,rl,rM,ma,hVe,hRe,hRV⟩:=amT (j:=j) jV J gz bZ
 have hun:=aJH hVe hRe rM aab hRV
 have anl:=aH5 hVe hRe ma wo J
 have hqB:val ul/4294967296 ^ j/(val b*2 ^ s)<4294967296:=by rw [nw kY,eH];exact hRV
 refine aeK rfl ?_
 refine ao ?_
 refine iv (fun(x rest:Nat) L=>(((((((((St.mk L.slot (hp [(1001057,⟨1,ul.map bG,true⟩),(1001105,⟨1,(iC ((aq (val b)).length+1) (val b*2 ^ s)).map bG,false⟩),(77,⟨1,ql.map bG,true⟩)])).put (some 4) (.ref 77 1 0 q0)).put (some 9) (ae s)).put (some 10) (.ref 1001057 1 0 (m+1))).put (some 11) (bp (val b*2 ^ s))).put (some 12) (ae (n+2))).put (some 13) (iL (((j+1:Nat):Int)-1))).put (some 15) (cX x)).put (some 16) (cX rest))) (fun x rest=>val ul/4294967296 ^ j/(val b*2 ^ s)<=x/\x*(aq (val b*2 ^ s)).getD (n+1) 0+rest=(ul.getD (n+2+j) 0*4294967296+ul.getD (n+1+j) 0)/\rest<4294967296) (fun x rest=>x) ((ul.getD (n+2+j) 0*4294967296+ul.getD (n+1+j) 0)/(aq (val b*2 ^ s)).getD (n+1) 0) ((ul.getD (n+2+j) 0*4294967296+ul.getD (n+1+j) 0) % (aq (val b*2 ^ s)).getD (n+1) 0) ⟨anl,by rw [eH];exact yG _ _,Nat.lt_trans (jX _ J) agj⟩ ?_
 rintro x rest L2 ⟨hx,zp,arK⟩
 have hxt:x<=x*(aq (val b*2 ^ s)).getD (n+1) 0:=Nat.le_mul_of_pos_right _ J
 refine aH ?_
 refine aY 24 al ?_
 refine aQ ?_
 refine ep 120 rfl ?_ ?_<;>intro aKy aKA
 ·have hxd:val ul/4294967296 ^ j/(val b*2 ^ s)<=x-1:=by omega
  have lH:1<=x:=by omega
  refine amO ?_
  have adL:(x-1)*(aq (val b*2 ^ s)).getD (n+1) 0+(rest+(aq (val b*2 ^ s)).getD (n+1) 0)=(ul.getD (n+2+j) 0*4294967296+ul.getD (n+1+j) 0):=by
   have e:(x-1)*(aq (val b*2 ^ s)).getD (n+1) 0+(aq (val b*2 ^ s)).getD (n+1) 0=x*(aq (val b*2 ^ s)).getD (n+1) 0:=by rw [<-iK];congr 1;omega
   omega
  refine uS ?_
  refine aL rfl ?_ ?_<;>intro aA3 aFy
  ·have lY:=axE (u2:=ul.getD (n+j) 0) adL hun rJ aab J
   refine aB ?_
   exact ar1
  ·refine aQ ?_
   exact fO (x-1) (rest+(aq (val b*2 ^ s)).getD (n+1) 0) ⟨hxd,adL,J⟩
 ·have hmul:=uV (show x<4294967296 by omega) aab
  refine aaJ ?_
  refine aL rfl ?_ ?_<;>intro aLD aHO
  ·have lH:1<=x:=by
    rcases Nat.eq_zero_or_pos x with e | e
    ·rw [e,sb] at aHO;omega
    ·exact e
   have hxd:val ul/4294967296 ^ j/(val b*2 ^ s)<=x-1:=by have:=azD hVe hRe ma kY zp J;omega
   refine aB ?_
   have adL:(x-1)*(aq (val b*2 ^ s)).getD (n+1) 0+(rest+(aq (val b*2 ^ s)).getD (n+1) 0)=(ul.getD (n+2+j) 0*4294967296+ul.getD (n+1+j) 0):=by
    have e:(x-1)*(aq (val b*2 ^ s)).getD (n+1) 0+(aq (val b*2 ^ s)).getD (n+1) 0=x*(aq (val b*2 ^ s)).getD (n+1) 0:=by rw [<-iK];congr 1;omega
    omega
   refine uS ?_
   refine aL rfl ?_ ?_<;>intro aA3 aFy
   ·have lY:=axE (u2:=ul.getD (n+j) 0) adL hun rJ aab J
    refine aB ?_
    exact ar1
   ·refine aQ ?_
    exact fO (x-1) (rest+(aq (val b*2 ^ s)).getD (n+1) 0) ⟨hxd,adL,J⟩
  ·refine aB ?_
   exact abH (hQ (x) _ ⟨hx,ash hVe hRe rM J kY zp J J,J⟩) (aj (aj (aj (aj (aj (aj (aj (bJ cl) cl) cl) cl) cl) cl) cl) cl)
open aca in
theorem aEk (b ul ql:List Nat) (n s m q0 j:Nat) (jV:(aq (val b*2 ^ s)).length=n+2) (ki:n+2<=m) (pO:m<=1099511627776) (lj:q0=m+1-(n+2)) (hk:j+1<=q0) (lX:ul.length=m+1) (jF:ql.length=q0) (gz:bV ul) (lO:bV ql) (tV:2147483648<=(aq (val b*2 ^ s)).getD (n+1) 0) (kY:0<(val b*2 ^ s)) (vC:(val b*2 ^ s)<4294967296 ^ (n+2)) (bZ:val ul<(val b*2 ^ s)*4294967296 ^ (j+1)) (x:Nat) (ji:val ul/4294967296 ^ j/(val b*2 ^ s)<=x) (hxB:x<4294967296) {Q:jT->St->Prop} (L1:St)
  (hQ:∀ (wl:List Nat) (c:Nat) (br:Nat) (L2:St),(wl.length=m+1/\bV wl/\c<4294967296/\br<=1/\val wl+4294967296 ^ j*(x*(val b*2 ^ s))=val ul+4294967296 ^ (n+2+j)*(c+br)/\∀ p,n+2+j<=p->wl.getD p 0=ul.getD p 0)->Q .normal ((((((((((St.mk L2.slot (hp [(1001057,⟨1,wl.map bG,true⟩),(1001105,⟨1,(iC ((aq (val b)).length+1) (val b*2 ^ s)).map bG,false⟩),(77,⟨1,ql.map bG,true⟩)])).put (some 4) (.ref 77 1 0 q0)).put (some 9) (ae s)).put (some 10) (.ref 1001057 1 0 (m+1))).put (some 11) (bp (val b*2 ^ s))).put (some 12) (ae (n+2))).put (some 13) (iL (((j+1:Nat):Int)-1))).put (some 15) (cX x)).put (some 17) (cX br)).put (some 18) (cX c))) :
  cU ak ((abh afz [1,1,1,1,1,1,1,0,1,0,0,1,0,0,1,1,1,1,0,1]).getD .skip) Q (((((((((((((St.mk L1.slot (hp [(1001057,⟨1,ul.map bG,true⟩),(1001105,⟨1,(iC ((aq (val b)).length+1) (val b*2 ^ s)).map bG,false⟩),(77,⟨1,ql.map bG,true⟩)])).put (some 4) (.ref 77 1 0 q0)).put (some 9) (ae s)).put (some 10) (.ref 1001057 1 0 (m+1))).put (some 11) (bp (val b*2 ^ s))).put (some 12) (ae (n+2))).put (some 13) (iL (((j+1:Nat):Int)-1))).put (some 15) (cX x)).put (some 17) (cX 0)).put (some 18) (cX 0)).put (some 154) (bp (val b*2 ^ s))).put (some 155) (ae (n+2))).put (some 156) (ae 0)):=by
 have ej:True:=trivial
 have ek:True:=trivial
 have es:True:=trivial
 have eV:True:=trivial
 have oL:True:=trivial
 have nR:True:=trivial
 have qD:True:=trivial
 have sd:True:=trivial
 have sT:True:=trivial
 have ow:True:=trivial
 have pZ:True:=trivial
 have kh:True:=trivial
 have uh:True:=trivial
 have tU:True:=trivial
 have ph:True:=trivial
 have qN:True:=trivial
 have rX:True:=trivial
 have si:True:=trivial
 have mh:True:=trivial
 have oL:((j:Int)+((n+2:Nat):Int)).toNat=n+2+j:=by omega
 have nR:((j:Int)+((n+2:Nat):Int)-1).toNat=n+1+j:=by omega
 have qD:((j:Int)+((n+2:Nat):Int)-2).toNat=n+j:=by omega
 have ow:(((n+2:Nat):Int)-1).toNat=n+1:=by omega
 have pZ:(((n+2:Nat):Int)-2).toNat=n:=by omega
 have ek:(((j+1:Nat):Int)-1)=(j:Int):=by omega
 have agj:=ix ((val b*2 ^ s)) (n+1)
 have aab:=ix ((val b*2 ^ s)) n
 have hu0:=iN gz (n+2+j)
 have rJ:=iN gz (n+1+j)
 have wo:=iN gz (n+j)
 refine aeK rfl ?_
 refine ao ?_
 refine lp4 (fun(i:Nat) (wl:List Nat) (c br:Nat) L=>(((((((((((((St.mk L.slot (hp [(1001057,⟨1,wl.map bG,true⟩),(1001105,⟨1,(iC ((aq (val b)).length+1) (val b*2 ^ s)).map bG,false⟩),(77,⟨1,ql.map bG,true⟩)])).put (some 4) (.ref 77 1 0 q0)).put (some 9) (ae s)).put (some 10) (.ref 1001057 1 0 (m+1))).put (some 11) (bp (val b*2 ^ s))).put (some 12) (ae (n+2))).put (some 13) (iL (((j+1:Nat):Int)-1))).put (some 15) (cX x)).put (some 17) (cX br)).put (some 18) (cX c)).put (some 154) (bp (val b*2 ^ s))).put (some 155) (ae (n+2))).put (some 156) (ae i))) (fun i wl c br=>i<=n+2/\wl.length=m+1/\bV wl/\c<4294967296/\br<=1/\val wl+4294967296 ^ j*(x*val ((aq (val b*2 ^ s)).take i))=val ul+4294967296 ^ (i+j)*(c+br)/\∀ p,n+2+j<=p->wl.getD p 0=ul.getD p 0) (fun i wl c br=>n+2-i) 0 ul 0 0 ⟨bS _,lX,gz,J,J,by simp [val],fun _ _=>rfl⟩ (h0:=⟨_,az.of_eq (aj (aj (aj (aj (aj (aj (aj (aj (aj (aj (aj (aj (bJ fb) fb) fb) fb) fb) fb) fb) fb) fb) fb) fb) fb) fb)⟩) ?_
 rintro i wl c br L3 ⟨hi,gh,jx,hc,nF,hv5,hz5⟩
 have kh:((i:Int)+(j:Int)).toNat=i+j:=by omega
 have hvi:=ix (val b*2 ^ s) i
 have hmul:=uV hxB hvi
 have hwi:=iN jx (i+j)
 refine ay ?_
 refine aL rfl ?_ ?_<;>intro aLs aKJ
 ·refine aup ?_
  refine ah rfl (.bin rfl rfl (aEN)) ?_
  refine ah rfl (.bin rfl rfl (aeO J)) ?_
  refine ao ?_
  refine ah rfl (.bin rfl rfl (aeO J)) ?_
  refine aup ?_
  exact sK (i+1) (wl.set (i+j) (((18446744073709551616+(18446744073709551616+wl.getD (i+j) 0-(c+x*(aq (val b*2 ^ s)).getD i 0) % 4294967296) % 18446744073709551616-br) % 18446744073709551616) % 4294967296)) ((c+x*(aq (val b*2 ^ s)).getD i 0)/4294967296) (((18446744073709551616+(18446744073709551616+wl.getD (i+j) 0-(c+x*(aq (val b*2 ^ s)).getD i 0) % 4294967296) % 18446744073709551616-br) % 18446744073709551616)/9223372036854775808) (by
   obtain⟨g1,g2,g3⟩:=ay0 J jx nF hv5 (c1:=(c+x*(aq (val b*2 ^ s)).getD i 0)) rfl rfl
   exact⟨J,by simp [gh],g2,J,g1,g3,fun p hp=>by rw [Go.Lg.getD_set_ne _ _ _ _ J];exact hz5 p hp⟩) (he:=az.of_eq (aj (aj (aj (aj (aj (aj (aj (aj (aj (aj (aj (aj (bJ fb) fb) fb) fb) fb) fb) fb) fb) fb) fb) fb) fb) fb))
 ·obtain rfl:i=n+2:=by omega
  rw [cE J,cb] at hv5
  refine aB ?_
  exact abH (hQ (wl) (c) (br) _ ⟨gh,jx,hc,nF,hv5,hz5⟩) (aj (aj (aj (aj (aj (aj (aj (aj (aj (bJ cl) cl) cl) cl) cl) cl) cl) cl) cl) cl)
open aca in
theorem aGY (b ul ql:List Nat) (n s m q0 j:Nat) (jV:(aq (val b*2 ^ s)).length=n+2) (ki:n+2<=m) (pO:m<=1099511627776) (lj:q0=m+1-(n+2)) (hk:j+1<=q0) (lX:ul.length=m+1) (jF:ql.length=q0) (gz:bV ul) (lO:bV ql) (tV:2147483648<=(aq (val b*2 ^ s)).getD (n+1) 0) (kY:0<(val b*2 ^ s)) (vC:(val b*2 ^ s)<4294967296 ^ (n+2)) (bZ:val ul<(val b*2 ^ s)*4294967296 ^ (j+1)) (x:Nat) (ji:val ul/4294967296 ^ j/(val b*2 ^ s)<=x) (qa:x<=val ul/4294967296 ^ j/(val b*2 ^ s)+1) (hxB:x<4294967296) (wl:List Nat) (c br:Nat) (gh:wl.length=m+1) (jx:bV wl) (hc:c<4294967296) (nF:br<=1) (hv5:val wl+4294967296 ^ j*(x*(val b*2 ^ s))=val ul+4294967296 ^ (n+2+j)*(c+br)) (hz5:∀ p,n+2+j<=p->wl.getD p 0=ul.getD p 0) {Q:jT->St->Prop} (L1:St)
  (hQ:∀ (w4:List Nat) (x4:Nat) (L2:St),(x4=val ul/4294967296 ^ j/(val b*2 ^ s)/\w4.length=m+1/\bV w4/\val w4+4294967296 ^ j*(x4*(val b*2 ^ s))=val ul)->Q .normal ((((((((St.mk L2.slot (hp [(1001057,⟨1,w4.map bG,true⟩),(1001105,⟨1,(iC ((aq (val b)).length+1) (val b*2 ^ s)).map bG,false⟩),(77,⟨1,ql.map bG,true⟩)])).put (some 4) (.ref 77 1 0 q0)).put (some 9) (ae s)).put (some 10) (.ref 1001057 1 0 (m+1))).put (some 11) (bp (val b*2 ^ s))).put (some 12) (ae (n+2))).put (some 13) (iL (((j+1:Nat):Int)-1))).put (some 15) (cX x4))) :
  cU ak ((abh afz [1,1,1,1,1,1,1,0,1,0,0,1,0,0,1,1,1,1,1,1,1,0,1]).getD .skip) Q ((((((((((St.mk L1.slot (hp [(1001057,⟨1,(wl.set (n+2+j) (((18446744073709551616+(18446744073709551616+wl.getD (n+2+j) 0-c) % 18446744073709551616-br) % 18446744073709551616) % 4294967296)).map bG,true⟩),(1001105,⟨1,(iC ((aq (val b)).length+1) (val b*2 ^ s)).map bG,false⟩),(77,⟨1,ql.map bG,true⟩)])).put (some 4) (.ref 77 1 0 q0)).put (some 9) (ae s)).put (some 10) (.ref 1001057 1 0 (m+1))).put (some 11) (bp (val b*2 ^ s))).put (some 12) (ae (n+2))).put (some 13) (iL (((j+1:Nat):Int)-1))).put (some 15) (cX x)).put (some 22) (cX ((18446744073709551616+(18446744073709551616+wl.getD (n+2+j) 0-c) % 18446744073709551616-br) % 18446744073709551616))).put (some 211) (.v (.bool (((((18446744073709551616+(18446744073709551616+wl.getD (n+2+j) 0-c) % 18446744073709551616-br) % 18446744073709551616)/9223372036854775808:Nat):Int) != 0)))):=by
 have ej:True:=trivial
 have ek:True:=trivial
 have es:True:=trivial
 have eV:True:=trivial
 have oL:True:=trivial
 have nR:True:=trivial
 have qD:True:=trivial
 have sd:True:=trivial
 have sT:True:=trivial
 have ow:True:=trivial
 have pZ:True:=trivial
 have kh:True:=trivial
 have uh:True:=trivial
 have tU:True:=trivial
 have ph:True:=trivial
 have qN:True:=trivial
 have rX:True:=trivial
 have si:True:=trivial
 have mh:True:=trivial
 have oL:((j:Int)+((n+2:Nat):Int)).toNat=n+2+j:=by omega
 have nR:((j:Int)+((n+2:Nat):Int)-1).toNat=n+1+j:=by omega
 have qD:((j:Int)+((n+2:Nat):Int)-2).toNat=n+j:=by omega
 have ow:(((n+2:Nat):Int)-1).toNat=n+1:=by omega
 have pZ:(((n+2:Nat):Int)-2).toNat=n:=by omega
 have ek:(((j+1:Nat):Int)-1)=(j:Int):=by omega
 have agj:=ix ((val b*2 ^ s)) (n+1)
 have aab:=ix ((val b*2 ^ s)) n
 have hu0:=iN gz (n+2+j)
 have rJ:=iN gz (n+1+j)
 have wo:=iN gz (n+j)
 have hz:=ahH (n:=n+2) (j:=j) vC bZ
 obtain⟨ag8,xb,hv6⟩:=apz (n:=n+2) J jx nF hc hv5 rfl rfl
 have kG:=iN jx (n+2+j)
 refine aeK rfl ?_
 refine aL rfl ?_ ?_<;>intro aK7 aKM
 ·have oa:((18446744073709551616+(18446744073709551616+wl.getD (n+2+j) 0-c) % 18446744073709551616-br) % 18446744073709551616)/9223372036854775808=1:=by omega
  have hgt:=aC6 (V:=(val b*2 ^ s)) (n:=n+2) (j:=j) (x:=x) (ul:=(wl.set (n+2+j) (((18446744073709551616+(18446744073709551616+wl.getD (n+2+j) 0-c) % 18446744073709551616-br) % 18446744073709551616) % 4294967296))) (ul0:=ul) (by rw [hv6,oa,kE]) (aFO ag8 (fun p hp=>by rw [Go.Lg.getD_set_ne _ _ _ _ J,hz5 p J];exact hz p hp)) kY
  have lH:1<=x:=xD (bS _) hgt
  refine aQ ?_
  refine ah rfl (.bin rfl rfl (ati (show 1<=x by omega) J)) ?_
  refine iY ?_
  refine tz (fun(ii:Nat) (w3:List Nat) (c3:Nat) L=>((((((((((((St.mk L.slot (hp [(1001057,⟨1,w3.map bG,true⟩),(1001105,⟨1,(iC ((aq (val b)).length+1) (val b*2 ^ s)).map bG,false⟩),(77,⟨1,ql.map bG,true⟩)])).put (some 4) (.ref 77 1 0 q0)).put (some 9) (ae s)).put (some 10) (.ref 1001057 1 0 (m+1))).put (some 11) (bp (val b*2 ^ s))).put (some 12) (ae (n+2))).put (some 13) (iL (((j+1:Nat):Int)-1))).put (some 15) (cX (x-1))).put (some 18) (cX c3)).put (some 214) (bp (val b*2 ^ s))).put (some 215) (ae (n+2))).put (some 216) (ae ii))) (fun ii w3 c3=>ii<=n+2/\w3.length=m+1/\bV w3/\c3<=1/\val w3+4294967296 ^ (ii+j)*c3=val (wl.set (n+2+j) (((18446744073709551616+(18446744073709551616+wl.getD (n+2+j) 0-c) % 18446744073709551616-br) % 18446744073709551616) % 4294967296))+4294967296 ^ j*val ((aq (val b*2 ^ s)).take ii)/\∀ p,n+2+j+1<=p->w3.getD p 0=0) (fun ii w3 c3=>n+2-ii) 0 (wl.set (n+2+j) (((18446744073709551616+(18446744073709551616+wl.getD (n+2+j) 0-c) % 18446744073709551616-br) % 18446744073709551616) % 4294967296)) 0 ⟨bS _,by simp [gh],ag8,J,by simp [val],fun p hp=>by rw [Go.Lg.getD_set_ne _ _ _ _ J,hz5 p J];exact hz p hp⟩ (h0:=⟨_,az.of_eq (aj (aj (aj (aj (aj (aj (aj (aj (aj (aj (aj (bJ fb) fb) fb) fb) fb) fb) fb) fb) fb) fb) fb) fb)⟩) ?_
  rintro ii w3 c3 L4 ⟨hi3,hw3,td,hc3,hv7,hz7⟩
  have uh:((ii:Int)+(j:Int)).toNat=ii+j:=by omega
  have aLQ:=ix (val b*2 ^ s) ii
  have aLp:=iN td (ii+j)
  refine ay ?_
  refine aL rfl ?_ ?_<;>intro aLi aK6
  ·refine aDV ?_
   exact s8 (ii+1) (w3.set (ii+j) ((c3+(w3.getD (ii+j) 0+(aq (val b*2 ^ s)).getD ii 0)) % 4294967296)) ((c3+(w3.getD (ii+j) 0+(aq (val b*2 ^ s)).getD ii 0))/4294967296) (by
    obtain⟨g1,g2⟩:=ayN J td hv7 (s:=(c3+(w3.getD (ii+j) 0+(aq (val b*2 ^ s)).getD ii 0))) rfl
    exact⟨J,by simp [hw3],g1,J,g2,fun p hp=>by rw [Go.Lg.getD_set_ne _ _ _ _ J];exact hz7 p hp⟩) (he:=az.of_eq (aj (aj (aj (aj (aj (aj (aj (aj (aj (aj (aj (bJ fb) fb) fb) fb) fb) fb) fb) fb) fb) fb) fb) fb))
  ·obtain rfl:ii=n+2:=by omega
   rw [cE J,cb] at hv7
   have aLc:=iN td (n+2+j)
   have hxe:x-1=val ul/4294967296 ^ j/(val b*2 ^ s):=by omega
   have aCR:4294967296 ^ j*((x-1)*(val b*2 ^ s))<=val ul:=by rw [hxe];exact bb (lr _ (arc _ _)) (Nat.mul_div_le _ _)
   have lY:=aDh (ul:=(wl.set (n+2+j) (((18446744073709551616+(18446744073709551616+wl.getD (n+2+j) 0-c) % 18446744073709551616-br) % 18446744073709551616) % 4294967296))) (ul0:=ul) (n:=n+2) (j:=j) (x:=x) (V:=(val b*2 ^ s)) (ul3:=w3) (c:=c3) J aCR (by rw [hv6,oa,kE]) J td hz7 hc3 hv7 rfl
   refine df ?_
   refine ah rfl (.bin rfl rfl (aF5)) ?_
   refine aQ ?_
   exact abH (hQ (w3.set (n+2+j) ((w3.getD (n+2+j) 0+c3) % 4294967296)) (x-1) _ ⟨hxe,by simp [hw3],lY.1,lY.2⟩) (aj (aj (aj (aj (aj (aj (aj (bJ cl) cl) cl) cl) cl) cl) cl) cl)
 ·have kM:((18446744073709551616+(18446744073709551616+wl.getD (n+2+j) 0-c) % 18446744073709551616-br) % 18446744073709551616)/9223372036854775808=0:=by omega
  rw [kM,zC,mg] at hv6
  have hxF:x=val ul/4294967296 ^ j/(val b*2 ^ s):=by have:=aAS hv6 kY;omega
  refine ao ?_
  exact abH (hQ ((wl.set (n+2+j) (((18446744073709551616+(18446744073709551616+wl.getD (n+2+j) 0-c) % 18446744073709551616-br) % 18446744073709551616) % 4294967296))) (x) _ ⟨hxF,by simp [gh],ag8,hv6⟩) (aj (aj (aj (aj (aj (aj (aj (bJ cl) cl) cl) cl) cl) cl) cl) cl)
open aca in
theorem aJK (b ul ql:List Nat) (n s m q0 j:Nat) (jV:(aq (val b*2 ^ s)).length=n+2) (ki:n+2<=m) (pO:m<=1099511627776) (lj:q0=m+1-(n+2)) (hk:j+1<=q0) (lX:ul.length=m+1) (jF:ql.length=q0) (gz:bV ul) (lO:bV ql) (tV:2147483648<=(aq (val b*2 ^ s)).getD (n+1) 0) (kY:0<(val b*2 ^ s)) (vC:(val b*2 ^ s)<4294967296 ^ (n+2)) (bZ:val ul<(val b*2 ^ s)*4294967296 ^ (j+1)) {Q:jT->St->Prop} (L1:St)
  (hQ:∀ (w4:List Nat) (x4:Nat) (L2:St),(x4=val ul/4294967296 ^ j/(val b*2 ^ s)/\w4.length=m+1/\bV w4/\val w4+4294967296 ^ j*(x4*(val b*2 ^ s))=val ul)->Q .normal (((((((St.mk L2.slot (hp [(1001057,⟨1,w4.map bG,true⟩),(1001105,⟨1,(iC ((aq (val b)).length+1) (val b*2 ^ s)).map bG,false⟩),(77,⟨1,(ql.set j (x4 % 4294967296)).map bG,true⟩)])).put (some 4) (.ref 77 1 0 q0)).put (some 9) (ae s)).put (some 10) (.ref 1001057 1 0 (m+1))).put (some 11) (bp (val b*2 ^ s))).put (some 12) (ae (n+2))).put (some 13) (iL (((j+1:Nat):Int)-1)))) :
  cU ak ((abh afz [1,1,1,1,1,1,1,0,1,0,0,1,0]).getD .skip) Q (((((((St.mk L1.slot (hp [(1001057,⟨1,ul.map bG,true⟩),(1001105,⟨1,(iC ((aq (val b)).length+1) (val b*2 ^ s)).map bG,false⟩),(77,⟨1,ql.map bG,true⟩)])).put (some 4) (.ref 77 1 0 q0)).put (some 9) (ae s)).put (some 10) (.ref 1001057 1 0 (m+1))).put (some 11) (bp (val b*2 ^ s))).put (some 12) (ae (n+2))).put (some 13) (iL (((j+1:Nat):Int)-1))):=by
 have ej:True:=trivial
 have ek:True:=trivial
 have es:True:=trivial
 have eV:True:=trivial
 have oL:True:=trivial
 have nR:True:=trivial
 have qD:True:=trivial
 have sd:True:=trivial
 have sT:True:=trivial
 have ow:True:=trivial
 have pZ:True:=trivial
 have kh:True:=trivial
 have uh:True:=trivial
 have tU:True:=trivial
 have ph:True:=trivial
 have qN:True:=trivial
 have rX:True:=trivial
 have si:True:=trivial
 have mh:True:=trivial
 have oL:((j:Int)+((n+2:Nat):Int)).toNat=n+2+j:=by omega
 have nR:((j:Int)+((n+2:Nat):Int)-1).toNat=n+1+j:=by omega
 have qD:((j:Int)+((n+2:Nat):Int)-2).toNat=n+j:=by omega
 have ow:(((n+2:Nat):Int)-1).toNat=n+1:=by omega
 have pZ:(((n+2:Nat):Int)-2).toNat=n:=by omega
 have ek:(((j+1:Nat):Int)-1)=(j:Int):=by omega
 have agj:=ix ((val b*2 ^ s)) (n+1)
 have aab:=ix ((val b*2 ^ s)) n
 have hu0:=iN gz (n+2+j)
 have rJ:=iN gz (n+1+j)
 have wo:=iN gz (n+j)
 have hz:=ahH (n:=n+2) (j:=j) vC bZ
 refine aeK rfl ?_
 refine aH ?_
 refine aY 18 al ?_
 refine sE ?_
 refine aY 18 al ?_
 refine bf ?_
 refine ah rfl (.bin rfl rfl (aiK (by simp only [ow,fU];omega) J)) ?_
 refine bf ?_
 refine ah rfl (.bin rfl rfl (aml (by simp only [ow,fU];omega))) ?_
 refine a7 ?_
 refine aeS (S:=fun L=>(((((((((St.mk L.slot (hp [(1001057,⟨1,ul.map bG,true⟩),(1001105,⟨1,(iC ((aq (val b)).length+1) (val b*2 ^ s)).map bG,false⟩),(77,⟨1,ql.map bG,true⟩)])).put (some 4) (.ref 77 1 0 q0)).put (some 9) (ae s)).put (some 10) (.ref 1001057 1 0 (m+1))).put (some 11) (bp (val b*2 ^ s))).put (some 12) (ae (n+2))).put (some 13) (iL (((j+1:Nat):Int)-1))).put (some 15) (cX ((ul.getD (n+2+j) 0*4294967296+ul.getD (n+1+j) 0)/(aq (val b*2 ^ s)).getD (n+1) 0))).put (some 16) (cX ((ul.getD (n+2+j) 0*4294967296+ul.getD (n+1+j) 0) % (aq (val b*2 ^ s)).getD (n+1) 0)))) (aj (aj (aj (aj (aj (aj (aj (aj (bJ cl) cl) cl) cl) cl) cl) cl) cl) cl) ?_
 refine aJB b ul ql n s m q0 j jV ki pO lj hk lX jF gz lO tV kY vC bZ _ ?_
 rintro x LQ ⟨ji,qa,hxB⟩
 refine eQ ?_
 refine aeS (S:=fun L=>(((((((((((((St.mk L.slot (hp [(1001057,⟨1,ul.map bG,true⟩),(1001105,⟨1,(iC ((aq (val b)).length+1) (val b*2 ^ s)).map bG,false⟩),(77,⟨1,ql.map bG,true⟩)])).put (some 4) (.ref 77 1 0 q0)).put (some 9) (ae s)).put (some 10) (.ref 1001057 1 0 (m+1))).put (some 11) (bp (val b*2 ^ s))).put (some 12) (ae (n+2))).put (some 13) (iL (((j+1:Nat):Int)-1))).put (some 15) (cX x)).put (some 17) (cX 0)).put (some 18) (cX 0)).put (some 154) (bp (val b*2 ^ s))).put (some 155) (ae (n+2))).put (some 156) (ae 0))) (aj (aj (aj (aj (aj (aj (aj (aj (aj (aj (aj (aj (bJ cl) cl) cl) cl) cl) cl) cl) cl) cl) cl) cl) cl) cl) ?_
 refine aEk b ul ql n s m q0 j jV ki pO lj hk lX jF gz lO tV kY vC bZ x ji hxB _ ?_
 rintro wl c br LQ ⟨gh,jx,hc,nF,hv5,hz5⟩
 obtain⟨ag8,xb,hv6⟩:=apz (n:=n+2) J jx nF hc hv5 rfl rfl
 have kG:=iN jx (n+2+j)
 refine bC ?_
 refine ah rfl (.bin rfl rfl (aeO J)) ?_
 refine ao ?_
 refine ah rfl (.bin rfl rfl (aeO J)) ?_
 refine aaJ ?_
 refine aeS (S:=fun L=>((((((((((St.mk L.slot (hp [(1001057,⟨1,(wl.set (n+2+j) (((18446744073709551616+(18446744073709551616+wl.getD (n+2+j) 0-c) % 18446744073709551616-br) % 18446744073709551616) % 4294967296)).map bG,true⟩),(1001105,⟨1,(iC ((aq (val b)).length+1) (val b*2 ^ s)).map bG,false⟩),(77,⟨1,ql.map bG,true⟩)])).put (some 4) (.ref 77 1 0 q0)).put (some 9) (ae s)).put (some 10) (.ref 1001057 1 0 (m+1))).put (some 11) (bp (val b*2 ^ s))).put (some 12) (ae (n+2))).put (some 13) (iL (((j+1:Nat):Int)-1))).put (some 15) (cX x)).put (some 22) (cX ((18446744073709551616+(18446744073709551616+wl.getD (n+2+j) 0-c) % 18446744073709551616-br) % 18446744073709551616))).put (some 211) (.v (.bool (((((18446744073709551616+(18446744073709551616+wl.getD (n+2+j) 0-c) % 18446744073709551616-br) % 18446744073709551616)/9223372036854775808:Nat):Int) != 0))))) (aj (aj (aj (aj (aj (aj (aj (aj (aj (bJ cl) cl) cl) cl) cl) cl) cl) cl) cl) cl) ?_
 refine aGY b ul ql n s m q0 j jV ki pO lj hk lX jF gz lO tV kY vC bZ x ji qa hxB wl c br gh jx hc nF hv5 hz5 _ ?_
 rintro w4 x4 LQ ⟨hx4,hw4,hl4,hv8⟩
 have hRV:val ul/4294967296 ^ j<(val b*2 ^ s)*4294967296:=by
  obtain⟨_,_,_,_,_,_,h⟩:=amT (j:=j) jV J gz bZ
  exact h
 have hqB:val ul/4294967296 ^ j/(val b*2 ^ s)<4294967296:=by rw [nw kY,eH];exact hRV
 have ajX:x4<4294967296:=by rw [hx4];exact hqB
 have avh:x4 % 4294967296=x4:=ir ajX
 refine bh ?_
 exact abH (hQ (w4) (x4) _ ⟨hx4,hw4,hl4,hv8⟩) (aj (aj (aj (aj (aj (aj (bJ cl) cl) cl) cl) cl) cl) cl)
open aca in
theorem aA1 (b ul ql:List Nat) (s m q0 T:Nat) (th:s<32) (pO:m<=1099511627776) (lX:ul.length=m+1) (gz:bV ul) (hTm:T<=m+1) (hTz:∀ p,T<=p->ul.getD p 0=0) (aaB:ul.getD 0 0 % 2 ^ s=0) {Q:jT->St->Prop} (L1:St)
  (hQ:∀ (w:List Nat) (L2:St),(w.length=m+1/\bV w/\2 ^ s*val (w.take T)=val (ul.take T)+4294967296 ^ T*(ul.getD T 0 % 2 ^ s))->Q .normal (((St.mk L2.slot (hp [(1001057,⟨1,w.map bG,true⟩),(1001105,⟨1,(iC ((aq (val b)).length+1) (val b*2 ^ s)).map bG,false⟩),(77,⟨1,ql.map bG,true⟩)])).put (some 4) (.ref 77 1 0 q0)).put (some 5) (.ref 1001057 1 0 T))) :
  cU ak ((abh afz [1,1,1,1,1,1,1,1,1,0,1]).getD .skip) Q (((((((St.mk L1.slot (hp [(1001057,⟨1,ul.map bG,true⟩),(1001105,⟨1,(iC ((aq (val b)).length+1) (val b*2 ^ s)).map bG,false⟩),(77,⟨1,ql.map bG,true⟩)])).put (some 4) (.ref 77 1 0 q0)).put (some 5) (.ref 1001057 1 0 T)).put (some 9) (ae s)).put (some 260) (.ref 1001057 1 0 T)).put (some 261) (ae T)).put (some 262) (ae 0)):=by
 have ej:True:=trivial
 have ek:True:=trivial
 have es:True:=trivial
 have eV:True:=trivial
 have oL:True:=trivial
 have nR:True:=trivial
 have qD:True:=trivial
 have sd:True:=trivial
 have sT:True:=trivial
 have ow:True:=trivial
 have pZ:True:=trivial
 have kh:True:=trivial
 have uh:True:=trivial
 have tU:True:=trivial
 have ph:True:=trivial
 have qN:True:=trivial
 have rX:True:=trivial
 have si:True:=trivial
 have mh:True:=trivial
 have jV:True:=trivial
 refine aeK rfl ?_
 refine ao ?_
 refine iv (fun(i:Nat) (w:List Nat) L=>(((((((St.mk L.slot (hp [(1001057,⟨1,w.map bG,true⟩),(1001105,⟨1,(iC ((aq (val b)).length+1) (val b*2 ^ s)).map bG,false⟩),(77,⟨1,ql.map bG,true⟩)])).put (some 4) (.ref 77 1 0 q0)).put (some 5) (.ref 1001057 1 0 T)).put (some 9) (ae s)).put (some 260) (.ref 1001057 1 0 T)).put (some 261) (ae T)).put (some 262) (ae i))) (fun i w=>i<=T/\w.length=m+1/\bV w/\(∀ p,i<=p->w.getD p 0=ul.getD p 0)/\2 ^ s*val (w.take i)=val (ul.take i)+4294967296 ^ i*(ul.getD i 0 % 2 ^ s)) (fun i w=>T-i) 0 ul ⟨bS _,lX,gz,fun _ _=>rfl,by rw [aaB];simp [val]⟩ ?_
 rintro i w L5 ⟨hi,gh,jx,hz9,hv9⟩
 have mh:((i:Int)+1).toNat=i+1:=by omega
 have hwi:=iN jx i
 have aLN:=iN gz (i+1)
 have ph:=hz9 i (bF _)
 have qN:=hz9 (i+1) J
 have hui:=iN gz i
 obtain⟨hh1,hh2⟩:=anI (z:=ul.getD (i+1) 0) (show s<=32 by omega) hui
 have hh3:ul.getD i 0/2 ^ s<4294967296:=by omega
 refine ay ?_
 refine aL rfl ?_ ?_<;>intro aLd aLe
 ·have rX:(w.set i (ul.getD i 0/2 ^ s)).getD i 0=ul.getD i 0/2 ^ s:=asF _ _ _ J
  have si:(w.set i (ul.getD i 0/2 ^ s)).getD (i+1) 0=ul.getD (i+1) 0:=by rw [Go.Lg.getD_set_ne _ _ _ _ J];exact qN
  refine iY ?_
  refine ah rfl (.sh rfl rfl (aes (m:=s) (by show s<=32;omega))) ?_
  refine bB ?_
  refine ep 274 rfl ?_ ?_<;>intro aLa aLr
  ·refine bg ?_
   refine aL rfl ?_ ?_<;>intro aLl aL0
   ·refine aY 14 al ?_
    refine bC ?_
    refine ah rfl (.sh rfl rfl (aGG (s:=s) J)) ?_
    refine ah rfl (.bin rfl rfl (aGz (by simp only [e1,e2,e3,e4,p1,p2,p3,q1,q2,q3,l1,t0,t1,r1,r2,r3,r4,fg,aba,wz,b1,b2,b3,b4,b5,b6,i1,i2,i3,i4,i5,i6,uC,fU,ph,qN,rX,si,mh];exact hh1) (by simp only [e1,e2,e3,e4,p1,p2,p3,q1,q2,q3,l1,t0,t1,r1,r2,r3,r4,fg,aba,wz,b1,b2,b3,b4,b5,b6,i1,i2,i3,i4,i5,i6,uC,fU,ph,qN,rX,si,mh];exact hh2))) ?_
    refine bh ?_
    exact fO (i+1) (w.set i (ul.getD (i+1) 0 % 2 ^ s*2 ^ (32-s)+ul.getD i 0/2 ^ s)) ⟨J,by simp [gh],mn jx _ _ hh2,fun p hp=>by rw [Go.Lg.getD_set_ne _ _ _ _ J];exact hz9 p J,ajZ J th ph hv9 (mH _ _)⟩
   ·refine bg ?_
    exact fO (i+1) (w.set i (ul.getD i 0/2 ^ s)) ⟨J,by simp [gh],mn jx _ _ hh3,fun p hp=>by rw [Go.Lg.getD_set_ne _ _ _ _ J];exact hz9 p J,ajZ J th ph hv9 (by rw [hTz (i+1) J];simp)⟩
  ·refine iY ?_
   exact fO (i+1) (w.set i (ul.getD i 0/2 ^ s)) ⟨J,by simp [gh],mn jx _ _ hh3,fun p hp=>by rw [Go.Lg.getD_set_ne _ _ _ _ J];exact hz9 p J,ajZ J th ph hv9 (by rw [show s=0 by omega];simp [Nat.mod_one])⟩
 ·obtain rfl:i=T:=by omega
  refine aB ?_
  exact abH (hQ (w) _ ⟨gh,jx,hv9⟩) (aj (aj (bJ cl) cl) cl)
open aca in
theorem ajF (a b:List Nat) (ha:bV a) (hb:bV b) (fS:a.length<=1099511627776) (mr:b.length<=1099511627776) (gJ:0<val b):ax ak 212 [eX a,eX b] (.a9 [bp (val a/val b),bp (val a % val b),iL 0]):=by
 have abi:=ab3 a ha fS
 have agB:=ab3 b hb mr
 have aLP:(aq (val b)).length≠0:=fun h=>by have:=sk.1 (oC h);omega
 refine aR Tryz.func212 ?_
 have ej:True:=trivial
 have ek:True:=trivial
 have es:True:=trivial
 have eV:True:=trivial
 have oL:True:=trivial
 have nR:True:=trivial
 have qD:True:=trivial
 have sd:True:=trivial
 have sT:True:=trivial
 have ow:True:=trivial
 have pZ:True:=trivial
 have kh:True:=trivial
 have uh:True:=trivial
 have tU:True:=trivial
 have ph:True:=trivial
 have qN:True:=trivial
 have rX:True:=trivial
 have si:True:=trivial
 have mh:True:=trivial
 have jV:True:=trivial
 refine bh ?_
 refine cp aO (rj _ iE sP) ?_
 refine ao ?_
 refine cp aO (rj _ iE sP) ?_
 refine df ?_
 refine aL rfl ?_ ?_<;>intro av7 h30
 ·exfalso
  omega
 ·refine aB ?_
  refine cp au (af6 _ _ iE iE J J) ?_
  refine aB ?_
  refine aL rfl ?_ ?_<;>intro amD h34
  ·have bZ:val a<val b:=by
    apply se
    intro hh
    rcases atn (Nat.le_of_not_lt hh) with h | h
    ·rw [sY h] at h34;omega
    ·rw [tZ h.symm] at h34;omega
   refine aQ ?_
   refine cp aO (aeH _ J) ?_
   refine bg ?_
   rw [aaM bZ,ir bZ]
   exact abN [] rfl rfl (.nil 1) rfl (.pure (yA _)) rfl (.pure rfl)
  ·have kP:val b<=val a:=by
    apply se
    intro hh
    rw [qq J] at h34;omega
   refine bg ?_
   refine aL rfl ?_ ?_<;>intro afm h41
   ·have anC:val b<4294967296:=tF.1 J
    have oa:aq (val b)=[val b]:=ac0 gJ anC
    have rL:(aq (val b)).getD 0 0=val b:=by rw [oa];rfl
    have sT:=rL
    have hml:=jX (val a) gJ
    refine ay ?_
    refine cp au (aJs _ _ (cZ _) J (by show 0<(aq (val b)).getD 0 0;rw [rL];exact gJ) (ix _ _)) ?_
    refine a7 ?_
    refine r8 rp ?_
    refine ay ?_
    refine sr [55] su (rj [val a % val b] (aBO J) aW) ?_
    refine aQ ?_
    refine r8 nf2 ?_
    refine aB ?_
    exact aea
   ·obtain⟨n,hn⟩:∃ n,(aq (val b)).length=n+2:=⟨(aq (val b)).length-2,J⟩
    obtain⟨m,hm⟩:∃ m,(aq (val a)).length=m:=⟨_,rfl⟩
    have sd:=hm
    have pO:m<=1099511627776:=by omega
    have ki:n+1+1<=m:=by rw [<-hm];have:=nL kP;omega
    have ej:(((aq (val b)).length:Int)-1).toNat=n+1:=by omega
    obtain⟨s,hs⟩:∃ s,s=32-dK ((aq (val b)).getD (n+1) 0):=⟨_,rfl⟩
    have aFr:dK ((aq (val b)).getD (n+1) 0)<=32:=vK.2 (ix _ _)
    have es:(32:Int)-((dK ((aq (val b)).getD (n+1) 0):Nat):Int)=((s:Nat):Int):=by rw [aqM aFr,hs]
    obtain⟨th,jV,ahY,vC⟩:=as9 (n:=n+1) hn hs
    have kY:0<val b*2 ^ s:=qn gJ (lC J)
    have eV:val (iC ((aq (val b)).length+1) (val b*2 ^ s))=val b*2 ^ s:=anQ (by rw [hn];exact abQ vC (oy J J))
    have tV:=avd jV ahY
    have agj:=ix (val b*2 ^ s) (n+1)
    have aab:=ix (val b*2 ^ s) n
    obtain⟨aEr,ayt⟩:=ayP (n:=n+1) th hm ki ahY
    obtain⟨q0,lj⟩:∃ q0,q0=m+1-(n+2):=⟨_,rfl⟩
    have tU:((m:Int)+1-((n+2:Nat):Int))=((q0:Nat):Int):=by omega
    have ow:(((n+2:Nat):Int)-1).toNat=n+1:=by omega
    have pZ:(((n+2:Nat):Int)-2).toNat=n:=by omega
    have hB1:val (iC (m+1) (val a*2 ^ s))=val a*2 ^ s:=anQ ayt
    refine bC ?_
    refine cp aO (aJ6 _ (ix _ _)) ?_
    refine bf ?_
    refine abB [] rfl rfl (.cons (.pure (kf _)) (.cons (.pure rfl) .nil)) (aus (val a) s J th) (aP fX _) rfl ?_
    refine aH ?_
    refine abB [] rfl rfl (.cons (.pure (kf _)) (.cons (.pure rfl) .nil)) (aus (val b) s J th) (aP fX _) rfl ?_
    refine ac3 [1001105] rfl rfl (.cons (dH fX rfl rfl (ac1 _ _).symm) .nil) (rj (iC ((aq (val b)).length+1) (val b*2 ^ s)) (aos _ _) (by rw [ac1];omega)) ?_
    refine aH ?_
    refine r8 nf3 ?_
    refine ay ?_
    refine r8 nf4 ?_
    refine bf ?_
    refine dF rfl rfl (.lf (n:=q0) (m:=q0) ml ml om om om) ?_
    refine dk ?_
    refine tz (fun(k:Nat) (ul ql:List Nat) L=>(((((((St.mk L.slot (hp [(1001057,⟨1,ul.map bG,true⟩),(1001105,⟨1,(iC ((aq (val b)).length+1) (val b*2 ^ s)).map bG,false⟩),(77,⟨1,ql.map bG,true⟩)])).put (some 4) (.ref 77 1 0 q0)).put (some 9) (ae s)).put (some 10) (.ref 1001057 1 0 (m+1))).put (some 11) (bp (val b*2 ^ s))).put (some 12) (ae (n+2))).put (some 13) (iL ((k:Int)-1)))) (fun k ul ql=>k<=q0/\ul.length=m+1/\ql.length=q0/\bV ul/\bV ql/\val ul+(val b*2 ^ s)*4294967296 ^ k*val (ql.drop k)=val a*2 ^ s/\val ul<(val b*2 ^ s)*4294967296 ^ k) (fun k ul ql=>k) q0 (iC (m+1) (val a*2 ^ s)) (aV q0 0) ⟨bF _,ac1 _ _,by simp,aos _ _,vH _,by rw [kB aW,hB1];simp [val],by rw [hB1,lj];exact aEr⟩ (h0:=⟨_,az.of_eq (aj (aj (aj (aj (aj (aj (bJ sJ) sJ) sJ) sJ) sJ) sJ) sJ)⟩) ?_
    rintro k ul ql L1 ⟨hk,lX,jF,gz,lO,hv,bZ⟩
    refine bf ?_
    refine aL rfl ?_ ?_<;>intro aKl h82
    ·obtain⟨j,rfl⟩:∃ j,k=j+1:=⟨k-1,J⟩
     have ek:(((j+1:Nat):Int)-1)=(j:Int):=by omega
     refine aQ ?_
     refine aeS (S:=fun L=>(((((((St.mk L.slot (hp [(1001057,⟨1,ul.map bG,true⟩),(1001105,⟨1,(iC ((aq (val b)).length+1) (val b*2 ^ s)).map bG,false⟩),(77,⟨1,ql.map bG,true⟩)])).put (some 4) (.ref 77 1 0 q0)).put (some 9) (ae s)).put (some 10) (.ref 1001057 1 0 (m+1))).put (some 11) (bp (val b*2 ^ s))).put (some 12) (ae (n+2))).put (some 13) (iL (((j+1:Nat):Int)-1)))) (aj (aj (aj (aj (aj (aj (bJ cl) cl) cl) cl) cl) cl) cl) ?_
     refine aJK b ul ql n s m q0 j jV ki pO lj hk lX jF gz lO tV kY vC bZ _ ?_
     rintro w4 x4 LQ ⟨hx4,hw4,hl4,hv8⟩
     have hRV:val ul/4294967296 ^ j<(val b*2 ^ s)*4294967296:=by
      obtain⟨_,_,_,_,_,_,h⟩:=amT (j:=j) jV J gz bZ
      exact h
     have hqB:val ul/4294967296 ^ j/(val b*2 ^ s)<4294967296:=by rw [nw kY,eH];exact hRV
     have ajX:x4<4294967296:=by rw [hx4];exact hqB
     have avh:x4 % 4294967296=x4:=ir ajX
     obtain⟨mi,lN⟩:=arR (j:=j) kY hx4 hv8 J hv
     refine bf ?_
     exact s8 j w4 (ql.set j (x4 % 4294967296)) ⟨J,hw4,by simp [jF],hl4,mn lO _ _ J,by rw [avh];exact mi,lN⟩ (he:=az.of_eq (aj (aj (aj (aj (aj (aj (bJ sJ) sJ) sJ) sJ) sJ) sJ) sJ))
    ·obtain rfl:k=0:=by omega
     rw [ks,air,kE] at hv
     rw [air,kE] at bZ
     obtain⟨hq,hr⟩:=asR gJ hv bZ
     obtain⟨T,hT⟩:∃ T,T=jh (m+1) ul:=⟨_,rfl⟩
     have hTm:T<=m+1:=by rw [hT];exact alj _ _
     have hTz:=aCD (l:=ul) (n:=m+1) lX.symm
     rw [<-hT] at hTz
     have aaB:=aqK J hr
     refine bg ?_
     refine acy 1001057 rfl rfl rfl (aP fX _) (.cons .ref .nil) (.ref J) (aEv ul (m+1) lX.symm J J) rfl (aP fX _) ?_
     refine ao ?_
     refine r8 nf6 ?_
     refine bB ?_
     refine aeS (S:=fun L=>(((((((St.mk L.slot (hp [(1001057,⟨1,ul.map bG,true⟩),(1001105,⟨1,(iC ((aq (val b)).length+1) (val b*2 ^ s)).map bG,false⟩),(77,⟨1,ql.map bG,true⟩)])).put (some 4) (.ref 77 1 0 q0)).put (some 5) (.ref 1001057 1 0 T)).put (some 9) (ae s)).put (some 260) (.ref 1001057 1 0 T)).put (some 261) (ae T)).put (some 262) (ae 0))) (aj (aj (aj (aj (aj (aj (bJ cl) cl) cl) cl) cl) cl) cl) ?_
     refine aA1 b ul ql s m q0 T th pO lX gz hTm hTz aaB _ ?_
     rintro w LQ ⟨gh,jx,hv9⟩
     rw [hTz T (bF _),as6,zC,mg] at hv9
     have ah0:val (w.take T)=val a % val b:=by
      have e1:=(aiy ul.length ul (bF _)).2
      rw [mQ,lX,<-hT,hr] at e1
      rw [e1,eH] at hv9
      exact Nat.eq_of_mul_eq_mul_right (lC J) hv9
     refine aB ?_
     refine sr [77] su (rj ql lO J) ?_
     refine ao ?_
     refine sr [1001057] su (rj (w.take T) (xc jx _) bq) ?_
     refine ay ?_
     rw [<-hq,<-ah0]
     exact aea
namespace asG
theorem aw {p q:Prop} (k:q) (e:p=q:=by simp only [e1,e2,e3,e4,p1,p2,p3,q1,q2,q3,l1,t0,t1,r1,r2,r3,r4,Nat.zero_add,Nat.reduceMul,Nat.reduceAdd,b1,b2,b3,b4,b5,b6,i1,i2,i3,i4,i5,i6,Nat.reduceBEq,fU,cb];exact rfl):p:=e.mpr k
end asG
open asG in
theorem anj (a b:List Nat) (ha:bV a) (hb:bV b) (fS:a.length<=1099511627776) (mr:b.length<=1099511627776):ax ak 129 [eX a,eX b] (bp (fL (val a) (val b))):=by
 have abi:=ab3 a ha fS
 have agB:=ab3 b hb mr
 refine aR Tryz.func129 ?_
 refine bg ?_
 refine cp aO (rj _ iE sP) ?_
 refine cp aO (aeH _ J) ?_
 refine ao ?_
 refine cp aO (rj _ iE sP) ?_
 refine cp aO (aeH _ J) ?_
 refine ay ?_
 refine iv (fun(x y:Nat) L=>(((St.mk L.slot (hp [])).put (some 5) (bp x)).put (some 6) (bp y))) (fun x y=>fL x y=fL (val a) (val b)/\(aq x).length<=1099511627776/\(aq y).length<=1099511627776) (fun x y=>y) (val a) (val b) ⟨rfl,abi,agB⟩ ?_
 rintro x y L1 ⟨hg,hx,hy⟩
 refine bg ?_
 refine aL rfl ?_ ?_<;>intro tD rf
 ·have kW:0<y:=uN (fun h=>by rw [h,we] at rf;simp at rf)
  refine bf ?_
  refine cp au (ajF _ _ (cZ _) (cZ _) J J (by rw [cb];exact kW)) ?_
  refine iY ?_
  exact fO y (x % y) ⟨by rw [qj,<-ad2,qj];exact hg,hy,bb (nL (xz (jX x kW))) hy⟩ (hm:=jX _ kW)
 ·refine dk ?_
  refine aL rfl ?_ ?_<;>intro wx uK
  ·have kW:y=0:=sk.1 (oC J)
   refine bg ?_
   subst kW
   rw [<-hg,aeR]
   exact dR
  ·have kW:0<y:=uN (fun h=>by rw [h,we] at uK;simp at uK)
   refine bh ?_
   refine ia (fun L=>∃ (x2:Nat) (y2:Nat) (L1:St),(fL x2 y2=fL (val a) (val b)/\(aq x2).length<=2/\(aq y2).length<=2)/\L=(((St.mk L1.slot (hp [])).put (some 5) (bp x2)).put (some 6) (bp y2))) ?_ ?_
   ·refine aL rfl ?_ ?_<;>intro aK3 h39
    ·refine aB ?_
     refine cp au (ajF _ _ (cZ _) (cZ _) J J (by rw [cb];exact kW)) ?_
     refine nm ?_
     exact⟨y,x % y,_,⟨by rw [qj,<-ad2,qj];exact hg,J,bb (nL (xz (jX x kW))) J⟩,((aj (aj (bJ cl) cl) cl)).symm⟩
    ·refine aH ?_
     exact⟨x,y,_,⟨hg,J,J⟩,((aj (aj (bJ cl) cl) cl)).symm⟩
   ·rintro _ ⟨x2,y2,aKK,⟨yu,qa,hy2⟩,rfl⟩
    refine aB ?_
    refine cp aO (arz _ (cZ _) J) ?_
    refine ao ?_
    refine cp aO (arz _ (cZ _) J) ?_
    refine ay ?_
    refine iv (fun(m n:Nat) L=>(((St.mk L.slot (hp [])).put (some 13) (cX m)).put (some 14) (cX n))) (fun m n=>fL m n=fL (val a) (val b)/\m<18446744073709551616/\n<18446744073709551616) (fun m n=>n) x2 y2 ⟨yu,zJ.1 qa,zJ.1 hy2⟩ ?_
    rintro m n L2 ⟨yw,hm,hn⟩
    refine bf ?_
    refine aL rfl ?_ ?_<;>intro aKo h54
    ·refine aQ ?_
     refine aY 6 al ?_
     refine bB ?_
     exact fO n (m % n) ⟨by rw [qj,<-ad2,qj];exact yw,hn,by have:=jX m (show n > 0 by omega);omega⟩ (hm:=jX _ J)
    ·obtain rfl:n=0:=by omega
     refine bg ?_
     refine cp aO (aow _ J) ?_
     refine aB ?_
     rw [<-yw,aeR]
     exact dR
open H0 in
theorem amN :ax ak 242 [] (bp 1):=by
 refine aR Tryz.func242 ?_
 refine bw ?_
 rw [show bp 1=.list 1 ([1].map bG) from rfl]
 exact lW [1] rfl rfl (dH fX rfl rfl rfl)
namespace awK
theorem aw {p q:Prop} (k:q) (e:p=q:=by simp only [e1,e2,e3,e4,p1,p2,p3,q1,q2,q3,l1,t0,t1,r1,r2,r3,r4,Nat.zero_add,Nat.reduceMul,Nat.reduceAdd,b1,b2,b3,b4,b5,b6,i1,i2,i3,i4,i5,i6,Nat.reduceBEq,aG an,cA];exact rfl):p:=e.mpr k
end awK
open awK in
theorem xA (q:Rat):ax ak 186 [aa q] (bp q.den):=by
 refine aR Tryz.func186 ?_
 refine eQ ?_
 refine aL rfl ?_ ?_<;>intro h6r h6
 ·have oa:=aot (show (aq (km q)).length=0 by omega)
  refine aH ?_
  refine cp am0 (amN) ?_
  refine a7 ?_
  rw [oa]
  exact dR
 ·have oa:=ajJ (q:=q) J
  refine bh ?_
  rw [<-oa]
  exact dR
open af2 in
theorem anK (a:List Nat) (h:bV a) (hl:a.length<=2):ax ak 241 [eX a] (cX (val a)):=by
 unfold eX
 refine aR Tryz.func241 ?_
 have ej:True:=trivial
 refine lF ?_
 refine iv (fun(k n:Nat) L=>((((St.mk L.slot (hp [])).put (some 0) (.list 1 (a.map bG))).put (some 3) (cX n)).put (some 4) (iL ((k:Int)-1)))) (fun k n=>k<=a.length/\n=val (a.drop k)) (fun k n=>k) a.length 0 ⟨bF _,by simp [val]⟩ ?_
 rintro k n L1 ⟨hk,hn⟩
 refine bf ?_
 refine aL rfl ?_ ?_<;>intro wg h9
 ·obtain⟨j,rfl⟩:∃ j,k=j+1:=⟨k-1,J⟩
  have ej:(((j+1:Nat):Int)-1).toNat=j:=by omega
  have ek:(((j+1:Nat):Int)-1)=j:=by omega
  have hj:=iN h j
  have hnB:=apq h (k:=j+1) (j:=1) J
  rw [<-hn] at hnB
  refine aaJ ?_
  exact fO j (n*4294967296+a.getD j 0) ⟨J,by rw [oS J,hn];omega⟩
 ·obtain rfl:k=0:=by omega
  rw [ks] at hn
  refine bw ?_
  rw [<-hn]
  exact dR
open H0 in
theorem aIb (a b:Nat) (ha:a<18446744073709551616) (hb:b<18446744073709551616):ax ak 273 [cX a,cX b] (cX (fL a b)):=by
 refine aR Tryz.func273 ?_
 refine bf ?_
 refine iv (fun(m n:Nat) L=>(((St.mk L.slot (hp [])).put (some 0) (cX m)).put (some 1) (cX n))) (fun m n=>fL m n=fL a b/\m<18446744073709551616/\n<18446744073709551616) (fun m n=>n) a b ⟨rfl,ha,hb⟩ ?_
 rintro m n L1 ⟨yw,hm,hn⟩
 refine bf ?_
 refine aL rfl ?_ ?_<;>intro h6r h6
 ·refine aQ ?_
  refine aY 6 al ?_
  refine bB ?_
  exact fO n (m % n) ⟨by rw [qj,<-ad2,qj];exact yw,hn,by have:=jX m (show n > 0 by omega);omega⟩ (hm:=jX _ J)
 ·obtain rfl:n=0:=by omega
  refine bw ?_
  rw [<-yw,aeR]
  exact dR
namespace ato
theorem aw {p q:Prop} (k:q) (e:p=q:=by simp only [e1,e2,e3,e4,p1,p2,p3,q1,q2,q3,l1,t0,t1,r1,r2,r3,r4,Nat.zero_add,Nat.reduceMul,Nat.reduceAdd,b1,b2,b3,b4,b5,b6,i1,i2,i3,i4,i5,i6,Nat.reduceBEq,fU,List.length_set,Nat.add_zero,eqm,eqz];exact rfl):p:=e.mpr k
end ato
open ato in
theorem aoD (l:List Nat) (off len n:Nat) (hn:n<18446744073709551616) (h1:1<=len) (h2:4294967296<=n->2<=len) (hl:off+len<=l.length):uv ak 274 ⟨1,l.map bG,true⟩ [.ref 0 1 off len,cX n] (ae (mb n)) ⟨1,(pT l off n).map bG,true⟩:=by
 refine fnM Tryz.func274 ?_
 have eqm:True:=trivial
 have eqz:True:=trivial
 refine aop ?_
 refine aL rfl ?_ ?_<;>intro acj yc
 ·have mi:n<4294967296:=by omega
  have eqz:n % 4294967296=n:=ir mi
  refine bf ?_
  simp only [pT,mb,if_pos mi,eqz]
  exact xS rfl (.eF (.pure rfl)) rfl rfl (aP fX _)
 ·have mi:¬ n<4294967296:=by omega
  have eqm:n/4294967296 % 4294967296=n/4294967296:=ir J
  refine nO ?_
  simp only [pT,mb,if_neg mi]
  exact xS rfl (.eF (.pure rfl)) rfl rfl (aP fX _)
theorem aDg:val []=0:=rfl
theorem aEH (n:Nat):decide (((dK n:Nat):Int)=0)=decide (n=0):=by
 rw [decide_eq_decide,<-wZ];omega
theorem aa2 {n:Nat} (h:(aq n).length=1):(aq n).getD 0 0=n/\0<n:=by
 have h0:0<n:=uN (fun e=>by rw [e,we] at h;cases h)
 rw [ac0 h0 (tF.1 J)];exact⟨rfl,h0⟩
namespace aqr
theorem aw {p q:Prop} (k:q) (e:p=q:=by simp only [e1,e2,e3,e4,p1,p2,p3,q1,q2,q3,l1,t0,t1,r1,r2,r3,r4,Nat.zero_add,Nat.reduceMul,Nat.reduceAdd,b1,b2,b3,b4,b5,b6,i1,i2,i3,i4,i5,i6,Nat.reduceBEq,aG an,cA,fU,cb];exact rfl):p:=e.mpr k
end aqr
open aqr in
theorem aaT (q:Rat):ax ak 182 [aa q] (.a9 [cX (pN q),cX (pD q),bL (xr q)]):=by
 have hdp:=q.den_pos
 have aHj:=wK q
 refine aR Tryz.func182 ?_
 refine nm ?_
 refine ep 9 rfl ?_ ?_<;>intro wg h9
 ·have hs:xr q=false:=decide_eq_false (fun h=>by have:=tF.2 h.1;omega)
  have nA:True:=trivial
  refine iY ?_
  simp only [pN,pD,hs,adn,if_false]
  exact abN [] rfl rfl (.pure rfl) rfl (.pure rfl) rfl (.pure rfl)
 ·have mi:=tF.1 (show (aq q.num.natAbs).length<=1 by omega)
  refine bf ?_
  refine aL rfl ?_ ?_<;>intro um nA
  ·have hs:xr q=false:=by first | exact hs | exact decide_eq_false (fun h=>by have:=aDM h.2;omega)
   refine bB ?_
   simp only [pN,pD,hs,adn,if_false]
   exact abN [] rfl rfl (.pure rfl) rfl (.pure rfl) rfl (.pure rfl)
  ·have oa:q.den<4294967296:=by
    have:=tF.1 (show (aq (km q)).length<=1 by omega)
    rw [aHj] at this;split at this<;>omega
   have hs:xr q=true:=decide_eq_true ⟨mi,oa⟩
   refine nm ?_
   refine ia (fun L=>∃ (d:Nat) (L1:St),(d=q.den)/\L=(((St.mk L1.slot (hp [(1,⟨3,[aa q],true⟩)])).put (some 1) (.aF 1 3 0 0)).put (some 3) (cX d))) ?_ ?_
   ·refine aL rfl ?_ ?_<;>intro aau xT
    ·have nv:=ajJ (q:=q) J
     have rL:(aq (km q)).getD 0 0=q.den:=by rw [nv,ac0 hdp oa];rfl
     refine bB ?_
     exact⟨(aq (km q)).getD 0 0,_,rL,((aj (aj (bJ cl) cl) cl)).symm⟩
    ·have nv:=aot (q:=q) J
     refine aH ?_
     exact⟨1,_,nv.symm,((aj (aj (bJ cl) cl) cl)).symm⟩
   ·rintro _ ⟨d,aKC,rfl,rfl⟩
    refine a7 ?_
    refine cp aO (anK _ (cZ _) J) ?_
    refine bB ?_
    simp only [pN,pD,hs,if_true]
    have gJ:((q.den:Int) != 0)=true:=by simp;omega
    refine abN [] rfl rfl (.pure rfl) rfl (.pure rfl) (x'':=.v (.bool ((q.den:Int) != 0))) rfl ?_
    rw [gJ]
    exact .pure rfl
namespace api
theorem aw {p q:Prop} (k:q) (e:p=q:=by simp only [e1,e2,e3,e4,p1,p2,p3,q1,q2,q3,l1,t0,t1,r1,r2,r3,r4,Nat.zero_add,Nat.reduceMul,Nat.reduceAdd,b1,b2,b3,b4,b5,b6,i1,i2,i3,i4,i5,i6,Nat.reduceBEq,fU,Nat.sub_zero,Nat.zero_add,Nat.add_sub_cancel_left,Nat.add_zero];exact rfl):p:=e.mpr k
theorem rF {p q:Prop} (k:q) (e:p=q:=by simp only [e1,e2,e3,e4,p1,p2,p3,q1,q2,q3,l1,t0,t1,r1,r2,r3,r4,Nat.zero_add,Nat.reduceMul,Nat.reduceAdd,b1,b2,b3,b4,b5,b6,i1,i2,i3,i4,i5,i6,Nat.reduceBEq,fU,Nat.sub_zero,Nat.zero_add,Nat.add_sub_cancel_left,Nat.add_zero,<-hN,<-hD];exact rfl):p:=e.mpr k
theorem rp {p:Prop} (h:p:=by first | (refine rF ?_;exact rfl) | exact rfl):p:=h
end api
open api in
theorem ads (s:Bool) (n d:Nat) (hn:n<18446744073709551616) (kM:0<d) (hd:d<18446744073709551616):ax ak 239 [bL s,cX n,cX d] (aa (qv s n d)):=by
 refine aR Tryz.func239 ?_
 refine bw ?_
 refine aL rfl ?_ ?_<;>intro ahj h13
 ·refine bg ?_
  obtain rfl:n=0:=by omega
  rw [afR,rQ]
  exact adu
 ·have iy:0<n:=by omega
  have hg:0<fL n d:=amR _ iy
  have lN:0<n/fL n d:=ahq (acr iy (aaH n d)) hg
  have xb:0<d/fL n d:=ahq (acr kM (alT n d)) hg
  have vV:n/fL n d<18446744073709551616:=xD (uO _ _) hn
  have hd3:d/fL n d<18446744073709551616:=xD (uO _ _) hd
  have hE:=aeA s iy kM
  obtain⟨g,hgg⟩:∃ g,g=fL n d:=⟨_,rfl⟩
  obtain⟨N,hN⟩:∃ N,N=n/fL n d:=⟨_,rfl⟩
  obtain⟨D,hD⟩:∃ D,D=d/fL n d:=⟨_,rfl⟩
  rw [<-hN,<-hD] at hE
  rw [<-hN] at lN vV
  rw [<-hD] at xb hd3
  have hk1:=agk lN vV
  have lS:=agk xb hd3
  obtain⟨il,zn⟩:=aAU lN vV xb hd3
  have dx:=aEz lN vV
  have kN:(pT [0,0,0,0] 0 N).length=4:=akv _ _ _
  have nN:(pT (pT [0,0,0,0] 0 N) (mb N) D).length=4:=by rw [akv,akv];rfl
  refine ay ?_
  refine cp au (aIb _ _ J J) ?_
  refine aB ?_
  refine aY 8 al ?_
  refine aH ?_
  refine ah rfl aeu ?_
  refine aH ?_
  refine ah rfl aeu ?_
  refine aH ?_
  refine r8 rp ?_
  refine aQ ?_
  refine dF rfl rfl (.lf (n:=4) (m:=4) ml ml om om om) ?_
  refine bf ?_
  refine acy 24 rfl rfl rfl (aP fX _) (.cons .ref (.cons (.eF (.pure rfl)) .nil)) (.ref ai) (aoD [0,0,0,0] 0 4 N vV J J aW) rfl (aP fX _) ?_
  refine bB ?_
  refine ah rfl (.afJ (a:=0) (h:=mb N) (mx:=mb N) rfl oX rR (fun y hy=>by cases hy) (fun _=>rfl) rfl rfl J J J J) ?_
  refine bw ?_
  refine aL rfl ?_ ?_<;>intro wx uK
  ·refine a7 ?_
   refine ah rfl (.wj (a:=mb N) (h:=4) rfl oX rR (fun y hy=>by cases hy;exact⟨_,rfl⟩) (fun h=>by cases h) (fun y hy=>by cases hy) (fun _=>rfl) J J J) ?_
   refine ao ?_
   refine acy 24 rfl rfl rfl (aP fX _) (.cons .ref (.cons (.eF (.pure rfl)) .nil)) (.ref J) (aoD (pT [0,0,0,0] 0 N) (0+mb N) (4-mb N) D hd3 J J J) rfl (aP fX _) ?_
   refine bB ?_
   refine ah rfl (.afJ (a:=mb N) (h:=mb N+mb D) (mx:=mb N+mb D) rfl oX rR (fun y hy=>by cases hy;exact⟨_,rfl⟩) (fun h=>by cases h) rfl rfl J J J J) ?_
   refine bC ?_
   rw [hE,if_neg J]
   exact fi [24] rfl rfl rfl rfl rfl dC (.agg (.cons (.pure rfl) (.cons (amr fX rfl rfl J il) (.cons (amr fX rfl rfl J zn) .nil))))
  ·refine bB ?_
   rw [hE,if_pos J]
   exact fi [24] rfl rfl rfl rfl rfl dC (.agg (.cons (.pure rfl) (.cons (amr fX rfl rfl J dx) (.cons (.pure rfl) .nil))))
namespace aqj
theorem aw {p q:Prop} (k:q) (e:p=q:=by simp only [e1,e2,e3,e4,p1,p2,p3,q1,q2,q3,l1,t0,t1,r1,r2,r3,r4,Nat.zero_add,Nat.reduceMul,Nat.reduceAdd,b1,b2,b3,b4,b5,b6,i1,i2,i3,i4,i5,i6,Nat.reduceBEq,fU,cb,aDg,Nat.add_zero];exact rfl):p:=e.mpr k
end aqj
open aqj in
theorem abR (s:Bool) (a b:List Nat) (ha:bV a) (hb:bV b) (fS:a.length<=1099511627776) (mr:b.length<=1099511627776):ax ak 240 [bL s,eX a,eX b] (aa (qv s (val a) (val b))):=by
 have abi:=ab3 a ha fS
 have agB:=ab3 b hb mr
 refine aR Tryz.func240 ?_
 refine bf ?_
 refine ia (fun L=>∃ (t:Bool) (L1:St),(t=decide (val a=0\/val b=0))/\L=((((((St.mk L1.slot (hp [(6,⟨3,[.agg [.v (.bool false),.list 1 [],.list 1 []]],true⟩)])).put (some 0) (bL s)).put (some 1) (eX a)).put (some 2) (eX b)).put (some 6) (.aF 6 3 0 0)).put (some 15) (bL t))) ?_ ?_
 ·refine aH ?_
  refine cp aO (adV _ iE J) ?_
  refine aH ?_
  refine ep 11 rfl ?_ ?_<;>intro acj yc
  ·have hz:val a=0:=wZ.1 J
   refine ay ?_
   exact⟨true,_,(decide_eq_true (.inl hz)).symm,((aj (aj (aj (aj (aj (bJ cl) cl) cl) cl) cl) cl)).symm⟩
  ·have uw:val a≠0:=fun h=>by rw [wZ.2 h] at yc;exact yc rfl
   refine ao ?_
   refine cp aO (adV _ iE J) ?_
   refine aB ?_
   exact⟨decide (((dK (val b):Nat):Int)=0),_,by show decide _=_;rw [aEH];simp [uw],((aj (aj (aj (aj (aj (bJ cl) cl) cl) cl) cl) cl)).symm⟩
 ·rintro _ ⟨t,LR1,ht,rfl⟩
  refine ao ?_
  refine aL rfl ?_ ?_<;>intro oG mV
  ·have hq:qv s (val a) (val b)=0:=by
    rw [ht,decide_eq_true_eq] at oG
    rcases oG with h | h
    ·rw [h];exact afR _ _
    ·rw [h];exact al0 _ _
   refine bg ?_
   rw [hq,rQ]
   exact adu
  ·rw [ht,decide_eq_false_iff_not,not_or] at oG
   have ha0:0<val a:=uN oG.1
   have gJ:0<val b:=uN oG.2
   have hg:0<fL (val a) (val b):=amR _ ha0
   have hE:=aeA s ha0 gJ
   have hgl:(aq (fL (val a) (val b))).length<=1099511627776:=bb (nL (acr ha0 (aaH _ _))) abi
   have hqa:(aq (val a/fL (val a) (val b))).length<=1099511627776:=bb (nL (uO _ _)) abi
   have xy:(aq (val b/fL (val a) (val b))).length<=1099511627776:=bb (nL (uO _ _)) agB
   refine aB ?_
   refine ia (fun L=>∃ (t:Bool) (L1:St),(t=decide (a.length<=2/\b.length<=2))/\L=((((((St.mk L1.slot (hp [(6,⟨3,[.agg [.v (.bool false),.list 1 [],.list 1 []]],true⟩)])).put (some 0) (bL s)).put (some 1) (eX a)).put (some 2) (eX b)).put (some 6) (.aF 6 3 0 0)).put (some 24) (bL t))) ?_ ?_
   ·refine a7 ?_
    refine ep 20 rfl ?_ ?_<;>intro aae ze
    ·refine ay ?_
     exact⟨decide (((b.length:Nat):Int)<=2),_,by rw [decide_eq_decide];omega,((aj (aj (aj (aj (aj (bJ cl) cl) cl) cl) cl) cl)).symm⟩
    ·refine ay ?_
     exact⟨false,_,by symm;rw [decide_eq_false_iff_not];omega,((aj (aj (aj (aj (aj (bJ cl) cl) cl) cl) cl) cl)).symm⟩
   ·rintro _ ⟨t,LR3,ht2,rfl⟩
    refine ao ?_
    refine aL rfl ?_ ?_<;>intro rG vz
    ·rw [ht2,decide_eq_true_eq] at rG
     have aLT:=rG.1
     have aKd:=rG.2
     refine aB ?_
     have r9:=tE ha (k:=2) J
     have zd:=tE hb (k:=2) J
     refine cp aO (anK a ha J) ?_
     refine ao ?_
     refine cp aO (anK b hb J) ?_
     refine cp gM (ads _ _ _ r9 gJ zd) ?_
     refine a7 ?_
     exact jJ
    ·refine bf ?_
     refine cp au (anj _ _ iE iE J J) ?_
     refine ay ?_
     refine cp aO (adV _ iE J) ?_
     refine aQ ?_
     refine ia (fun L=>∃ (x:List Nat) (y:List Nat) (L1:St),(bV x/\bV y/\x.length<=1099511627776/\y.length<=1099511627776/\val x=val a/fL (val a) (val b)/\val y=val b/fL (val a) (val b))/\L=(((((St.mk L1.slot (hp [(6,⟨3,[.agg [.v (.bool false),.list 1 [],.list 1 []]],true⟩)])).put (some 0) (bL s)).put (some 1) (eX x)).put (some 2) (eX y)).put (some 6) (.aF 6 3 0 0))) ?_ ?_
     ·refine aL rfl ?_ ?_<;>intro avO h36
      ·refine aB ?_
       refine cp au (ajF _ _ iE iE J J (by rw [cb];exact hg)) ?_
       refine bh ?_
       refine cp au (ajF _ _ iE iE J J (by rw [cb];exact hg)) ?_
       refine bf ?_
       exact⟨aq (val a/fL (val a) (val b)),aq (val b/fL (val a) (val b)),_,⟨cZ _,cZ _,hqa,xy,cb _,cb _⟩,((aj (aj (aj (aj (bJ cl) cl) cl) cl) cl)).symm⟩
      ·have mB:fL (val a) (val b)=1:=aDa.1 (by have:=wZ (n:=fL (val a) (val b));omega)
       refine aH ?_
       exact⟨a,b,_,⟨ha,hb,fS,mr,by rw [mB,aeV],by rw [mB,aeV]⟩,((aj (aj (aj (aj (bJ cl) cl) cl) cl) cl)).symm⟩
     ·rintro _ ⟨x,y,aLH,⟨hx,hy,hlx,hly,hvx,hvy⟩,rfl⟩
      rw [<-hvx,<-hvy] at hE
      have kW:0<val y:=by rw [hvy];exact ahq (acr gJ (alT _ _)) hg
      refine aB ?_
      refine cp au (ala x [] hx (by intro y hy;cases hy) hlx aW) ?_
      refine ao ?_
      refine cp au (ala y [] hy (by intro y hy;cases hy) hly aW) ?_
      refine bC ?_
      refine ep 58 rfl ?_ ?_<;>intro awJ h58
      ·refine bf ?_
       refine aL rfl ?_ ?_<;>intro an4 gv
       ·have pG:val y=1:=by have:=(aa2 (n:=val y) J).1;omega
        refine df ?_
        rw [hE,if_pos pG]
        exact fi [] rfl rfl rfl rfl rfl dC (.agg (.cons (.pure rfl) (.cons (.pure (kf _)) (.cons (.nil 1) .nil))))
       ·have pG:val y≠1:=by have:=(aa2 (n:=val y) J).1;omega
        refine bw ?_
        rw [hE,if_neg pG]
        exact afX
      ·have pG:val y≠1:=fun e=>by rw [e,aiR] at h58;exact h58 rfl
       refine lF ?_
       rw [hE,if_neg pG]
       exact afX
open H0 in
theorem anp (n:Int) (h1:-9223372036854775808<=n) (h2:n<=9223372036854775807):ax ak 243 [iL n] (bp n.natAbs):=by
 refine aR Tryz.func243 ?_
 refine bw ?_
 refine aL rfl ?_ ?_<;>intro h4r h4
 ·refine aH ?_
  refine cp aO (aow 9223372036854775808 J) ?_
  refine a7 ?_
  rw [show n.natAbs=9223372036854775808 by omega]
  exact dR
 ·refine ay ?_
  refine ah rfl (.neg rfl) ?_
  refine ao ?_
  refine ah rfl (.aiZ (n:=n.natAbs) ah6 ahI (by simp only [e1,p1,p2,uC];rw [aBy J J]) J) ?_
  refine cp aO (aow n.natAbs J) ?_
  refine aB ?_
  exact dR
theorem qE {P:Program} {L:St} {a u:Nat} {T:TypeId} {b sz:Nat} {x y x' y':LV} {m:Bool} {n:Nat} {ag:Bool} (bs:List Nat) (h0:bs.contains 0=false) (h:L.slot a=.aF b sz 0 0) (hb:L.heap b=some ⟨sz,[x],m⟩)
  (hx:x.av=sz) (wh:x.at 0 n ag=some x) (hT:bK P T n ag) (hi:da (L.ca bs).heap x y) (h':L.slot u=x') (nn:da (L.ca bs).heap x' y'):qm P [.cell a T,.tmp u] L (.a9 [y,y']) [] :=
 ⟨[x,x'],[y,y'],(L.ca bs).heap,[],.cons ⟨b,sz,0,0,_,x,n,ag,h,hb,rfl,rfl,hx,wh,hT⟩ (.cons h' .nil),ux bs h0,.cons (.eF hi) (.cons (.eF nn) .nil),List.nodup_nil,rfl,fun k b h=>by simp at h,rfl⟩
namespace ajH
theorem aw {p q:Prop} (k:q) (e:p=q:=by simp only [e1,e2,e3,e4,p1,p2,p3,q1,q2,q3,l1,t0,t1,r1,r2,r3,r4,Nat.zero_add,Nat.reduceMul,Nat.reduceAdd,b1,b2,b3,b4,b5,b6,i1,i2,i3,i4,i5,i6,Nat.reduceBEq,cb];exact rfl):p:=e.mpr k
end ajH
open ajH in
theorem rZ (n:Int) (h1:-9223372036854775808<=n) (h2:n<=9223372036854775807):ax ak 187 [iL n] (aa (n:Rat)):=by
 refine aR Tryz.func187 ?_
 refine bh ?_
 refine cp aO (anp _ J J) ?_
 refine cp am0 (amN) ?_
 refine cp gM (abR (decide (n<0)) (aq n.natAbs) (aq 1) (cZ _) (cZ _) (bb (zJ.2 J) J) (by rw [aiR];decide)) ?_
 refine aB ?_
 rw [<-aek n]
 exact jJ
open ajH in
theorem ak8 (n d:Int) (h1:-9223372036854775808<=n) (h2:n<=9223372036854775807) (h3:-9223372036854775808<=d) (h4:d<=9223372036854775807) (hd:d≠0):ax ak 292 [iL n,iL d] (.a9 [aa ((n:Rat)/(d:Rat)),iL 0]):=by
 refine aR Tryz.func292 ?_
 refine dk ?_
 refine aL rfl ?_ ?_<;>intro h7r h7
 ·exact absurd h7 hd
 ·refine bh ?_
  refine cp aO (anp _ J J) ?_
  refine ao ?_
  refine cp aO (anp _ J J) ?_
  refine cp gM (abR (decide (n<0) != decide (d<0)) (aq n.natAbs) (aq d.natAbs) (cZ _) (cZ _) (bb (zJ.2 J) J) (bb (zJ.2 J) J)) ?_
  refine a7 ?_
  rw [<-ae5]
  exact agw
theorem aaZ {q:Rat} (h:xr q=true):pN q=q.num.natAbs/\pD q=q.den/\q.num.natAbs<4294967296/\q.den<4294967296:=by
 have h2:=of_decide_eq_true h
 exact⟨by simp [pN,h],by simp [pD,h],h2.1,h2.2⟩
theorem gw {x y k l:Nat} (hx:(aq x).length<=k) (hy:(aq y).length<=l):(aq (x*y)).length<=k+l :=
 xf (aad (uy hx) (uy hy))
theorem aoa {x y k:Nat} (hx:(aq x).length<=k) (hy:(aq y).length<=k):(aq (x+y)).length<=k+1 :=
 xf (apd (uy hx) (uy hy))
def adR (x y:Nat):List Nat:=if x<y then [] else aq (x-y)
def abj (x y:Nat):Int:=if x<y then 7 else 0
theorem avg (x y:Nat) (hx:(aq x).length<=1099511627776) (hy:(aq y).length<=1099511627776):ax ak 246 [bp x,bp y] (.a9 [eX (adR x y),iL (abj x y)]):=by
 unfold adR abj
 by_cases h:x<y
 ·rw [if_pos h,if_pos h]
  exact aB9 _ _ (cZ _) (cZ _) hx hy (by rw [cb,cb];exact h)
 ·rw [if_neg h,if_neg h]
  have:=aDR _ _ (cZ x) (cZ y) hx hy (by rw [cb,cb];omega)
  rw [cb,cb] at this
  exact this
theorem alf {x y:Nat}:abj x y=0↔y<=x:=by unfold abj;split<;>omega
theorem agl {x y:Nat} (h:y<=x):adR x y=aq (x-y):=by unfold adR;rw [if_neg J]
section
variable {a b:Rat} {s:Bool} {x y d k:Nat}
theorem add_same (hk:0<k) (hx:x*k=a.num.natAbs*b.den) (hy:y*k=b.num.natAbs*a.den) (hd:d*k=a.den*b.den) (h:decide (a<0)=s):a+wq s b=qv s (x+y) d:=by
 have:=ax6 s (n:=a.num.natAbs) (m:=b.num.natAbs) a.den_pos b.den_pos
 rw [<-hx,<-hy,<-hd,<-iw,anL s hk] at this
 rw [<-this,wq]
 subst h
 rw [nQ]
theorem ami (hk:0<k) (hx:x*k=a.num.natAbs*b.den) (hy:y*k=b.num.natAbs*a.den) (hd:d*k=a.den*b.den) (h:decide (a<0)≠s) (hle:y<=x):a+wq s b=qv (decide (a<0)) (x-y) d:=by
 have:=asC (decide (a<0)) s (n:=a.num.natAbs) (m:=b.num.natAbs) a.den_pos b.den_pos h (by rw [<-hx,<-hy];exact eT _ hle)
 rw [<-hx,<-hy,<-hd,<-awU,anL _ hk] at this
 rw [<-this,wq,nQ]
theorem amd (hk:0<k) (hx:x*k=a.num.natAbs*b.den) (hy:y*k=b.num.natAbs*a.den) (hd:d*k=a.den*b.den) (h:decide (a<0)≠s) (hle:x<=y):a+wq s b=qv s (y-x) d:=by
 have:=awb (decide (a<0)) s (n:=a.num.natAbs) (m:=b.num.natAbs) a.den_pos b.den_pos h (by rw [<-hx,<-hy];exact eT _ hle)
 rw [<-hx,<-hy,<-hd,<-awU,anL _ hk] at this
 rw [<-this,wq,nQ]
end
theorem amM {a b:Rat} (h:aq (km a)=aq (km b)):a.den=b.den:=by
 have h2:km a=km b:=by rw [<-cb (km a),h,cb]
 rw [wK,wK] at h2
 have:=a.den_pos
 have:=b.den_pos
 split at h2<;>split at h2<;>omega
theorem aBY {x y k:Nat} (hk:0<k):lL (x*k) (y*k)=lL x y:=by
 simp only [lL,Nat.mul_lt_mul_right hk]
theorem aod {a b:Rat} (ha:¬ a<0) (hb:¬ b<0):a<b↔a.num.natAbs*b.den<b.num.natAbs*a.den:=by
 rw [agr] at ha hb
 rw [at3]
 have h1:a.num=(a.num.natAbs:Int):=by omega
 have h2:b.num=(b.num.natAbs:Int):=by omega
 rw [h1,h2]
 simp only [Int.natAbs_natCast]
 exact_mod_cast Iff.rfl
theorem auQ {a b:Rat} (ha:a<0) (hb:b<0):a<b↔b.num.natAbs*a.den<a.num.natAbs*b.den:=by
 have:=aod (a:=-b) (b:=-a) dz dz
 rw [anX,anX,akg,akg,akr,akr] at this
 rw [<-this]
 grind
theorem aiD {a b:Rat} (h:di a=di b):gp a b=if a<0 then-lL (a.num.natAbs*b.den) (b.num.natAbs*a.den) else lL (a.num.natAbs*b.den) (b.num.natAbs*a.den):=by
 have hs:(a<0)↔(b<0):=by
  unfold di at h
  split at h<;>split at h<;>(try split at h)<;>(try split at h)<;>grind
 by_cases ha:a<0
 ·have hb:=hs.1 ha
  rw [if_pos ha]
  simp only [gp,lL,auQ ha hb,auQ hb ha]
  split<;>split<;>omega
 ·have hb:=fun h=>ha (hs.2 h)
  rw [if_neg ha]
  simp only [gp,lL,aod ha hb,aod hb ha]
theorem aps {a b:Rat} (h:di a<di b):gp a b=-1:=by
 have:a<b:=by unfold di at h;split at h<;>split at h<;>(try split at h)<;>(try split at h)<;>grind
 simp [gp,this]
theorem avG {a b:Rat} (h:di b<di a):gp a b=1:=by
 have h1:b<a:=by unfold di at h;split at h<;>split at h<;>(try split at h)<;>(try split at h)<;>grind
 have h2:¬ a<b:=by grind
 simp [gp,h1,h2]
theorem aa4 {q:Rat} (h:(aq q.num.natAbs).length=0):q=0:=by
 have:=sk.1 (oC h)
 exact ax7.1 J
theorem axN {c:Int} {x y:Nat} (h:c=lL x y):IntKind.i64.wrap (0-c)=-c:=by
 have:c=-1\/c=0\/c=1:=by rw [h];unfold lL;split<;>(try split)<;>simp
 rw [IntWalk.i64_in _ J];omega
end Go.Proofs.YthcadngkamjpdaaGreat
namespace Go.Lg
open Go.Proofs.YthcadngkamjpdaaGreat in
theorem gR.azF {P:Program} {L:St} {dst:Option Nat} {T:TypeId} {p x:Operand} {b:Nat} {q q0:Rat} (hp:L.ev p=.aF b 3 0 0) (hb:L.heap b=some ⟨3,[aa q0],true⟩) (hx:L.ev x=aa q) (hT:bK P T 3 true) :
  gR P L dst (.store T p x) ((L.bU b (some ⟨3,[aa q],true⟩)).put dst .any):=by
 have h0:LV.put (aa q0) 0 (L.ev x)=some (aa q):=by
  rw [hx,vP q0]
  have e1:∀ n,(bp n).av=1:=fun _=>rfl
  simp [LV.put,an.av,an.isAgg,cL,LV.av,e1]
 have h:=gR.store (P:=P) (dst:=dst) (T:=T) (p:=p) (x:=x) (y:=aa q0) (y':=aa q) hp hb rfl rfl rfl (an.av _) h0 (by rw [hx,an.av,an.isAgg];exact hT)
  (by rw [hx];exact⟨LV.dT (an.pure q),LV.dG (an.pure q)⟩)
 exact h
end Go.Lg
namespace Go.Proofs.YthcadngkamjpdaaGreat
open Go.Lg
open ajH in
theorem yS (q:Rat) (h:rl q<=1099511627776):ax ak 72 [aa q] (iL (di q)):=by
 have h1:=oV q
 have hq:=axs q
 refine aR Tryz.func72 ?_
 refine bw ?_
 refine cp aO (adV _ iE J) ?_
 refine aB ?_
 refine aL rfl ?_ ?_<;>intro h3r h3
 ·have hz:q.num.natAbs=0:=wZ.1 J
  refine bg ?_
  rw [hq,if_pos hz]
  exact dR
 ·have hz:q.num.natAbs≠0:=fun e=>by rw [wZ.2 e] at h3;exact h3 rfl
  refine bf ?_
  refine aL rfl ?_ ?_<;>intro re h8
  ·refine bg ?_
   rw [hq,if_neg hz,if_pos h8]
   exact dR
  ·refine bB ?_
   rw [hq,if_neg hz,if_neg h8]
   exact dR
open H0 in
theorem ajP (q:Rat) (h:rl q<=1099511627776):ax ak 217 [aa q] (aa q):=by
 have h1:=oV q
 have h2:=qO q
 refine aR Tryz.func217 ?_
 refine bf ?_
 refine aY 9 al ?_
 refine aB ?_
 refine cp aO (aeH _ J) ?_
 refine aH ?_
 refine cp aO (aeH _ J) ?_
 refine a7 ?_
 rw [vP]
 exact afX
namespace ax8
theorem aw {p q:Prop} (k:q) (e:p=q:=by simp only [e1,e2,e3,e4,p1,p2,p3,q1,q2,q3,l1,t0,t1,r1,r2,r3,r4,Nat.zero_add,Nat.reduceMul,Nat.reduceAdd,b1,b2,b3,b4,b5,b6,i1,i2,i3,i4,i5,i6,Nat.reduceBEq,cb];exact rfl):p:=e.mpr k
theorem rF {p q:Prop} (k:q) (e:p=q:=by simp only [e1,e2,e3,e4,p1,p2,p3,q1,q2,q3,l1,t0,t1,r1,r2,r3,r4,Nat.zero_add,Nat.reduceMul,Nat.reduceAdd,b1,b2,b3,b4,b5,b6,i1,i2,i3,i4,i5,i6,Nat.reduceBEq,cb,qk,qB,rh,qI];exact rfl):p:=e.mpr k
theorem rp {p:Prop} (h:p:=by first | (refine rF ?_;exact rfl) | exact rfl):p:=h
end ax8
open ax8 in
theorem mG (a b:Rat) (h:rl a+rl b<=1099511627776):ax ak 108 [aa a,aa b] (iL (gp a b)):=by
 have a1:=oV a
 have a2:=qH a
 have a3:=qO a
 have c1:=oV b
 have c2:=qH b
 have c3:=qO b
 have a0:=a.den_pos
 have c0:=b.den_pos
 have m1:=gw a1 c2
 have m2:=gw c1 a2
 have m3:=gw a2 c2
 have m4:=gw a1 c1
 have m5:=gw a2 c1
 have m6:=gw c2 a2
 refine aR Tryz.func108 ?_
 refine bB ?_
 refine aY 6 al ?_
 refine ao ?_
 refine cp aO (yS _ J) ?_
 refine ao ?_
 refine cp aO (yS _ J) ?_
 refine bC ?_
 refine aL rfl ?_ ?_<;>intro aae ze
 ·refine bg ?_
  refine aL rfl ?_ ?_<;>intro tD rf
  ·refine bg ?_
   rw [aps rf]
   exact dR
  ·refine bB ?_
   rw [avG J]
   exact dR
 ·have pd:di a=di b:=by omega
  refine bC ?_
  refine cp aO (aaT _) ?_
  refine eQ ?_
  refine cp au (ahd _ _ J J) ?_
  refine aH ?_
  refine ia (fun L=>∃ (c:Int) (L1:St),(c=lL (a.num.natAbs*b.den) (b.num.natAbs*a.den))/\L=(((St.mk L1.slot (hp [(2,⟨3,[aa a],true⟩),(3,⟨3,[aa b],true⟩)])).put (some 2) (.aF 2 3 0 0)).put (some 7) (iL c))) ?_ ?_
  ·refine aL rfl ?_ ?_<;>intro amD h34
   ·refine a7 ?_
    refine cp au (af6 _ _ (cZ _) (cZ _) xM xM) ?_
    refine aQ ?_
    exact⟨lL a.num.natAbs b.num.natAbs,_,by rw [amM h34];exact(aBY b.den_pos).symm,((aj (aj (bJ cl) cl) cl)).symm⟩
   ·refine aQ ?_
    refine cp aO (aaT _) ?_
    refine bh ?_
    refine ia (fun L=>∃ (t:Bool) (L1:St),(t=(xr a && xr b))/\L=(((((((((St.mk L1.slot (hp [(2,⟨3,[aa a],true⟩),(3,⟨3,[aa b],true⟩)])).put (some 2) (.aF 2 3 0 0)).put (some 3) (.aF 3 3 0 0)).put (some 7) (iL 0)).put (some 8) (cX (pN a))).put (some 9) (cX (pD a))).put (some 11) (cX (pN b))).put (some 12) (cX (pD b))).put (some 49) (bL t))) ?_ ?_
    ·refine aQ ?_
     refine ep 47 rfl ?_ ?_<;>intro aie h47
     ·refine aB ?_
      exact⟨xr b,_,by rw [aie];rfl,((aj (aj (aj (aj (aj (aj (aj (aj (bJ cl) cl) cl) cl) cl) cl) cl) cl) cl)).symm⟩
     ·refine aB ?_
      exact⟨false,_,by rw [aie];rfl,((aj (aj (aj (aj (aj (aj (aj (aj (bJ cl) cl) cl) cl) cl) cl) cl) cl) cl)).symm⟩
    ·rintro _ ⟨t,aLF,ht,rfl⟩
     refine ao ?_
     refine aL rfl ?_ ?_<;>intro ab9 h49
     ·rw [ht,Bool.and_eq_true] at ab9
      obtain⟨qk,qB,k3,k4⟩:=aaZ ab9.1
      obtain⟨rh,qI,k7,k8⟩:=aaZ ab9.2
      have n1:=uV k3 k8
      have n2:=uV k7 k4
      have n3:=n1
      have n4:=n2
      rw [<-qk,<-qI] at n1
      rw [<-rh,<-qB] at n2
      refine aB ?_
      refine ah rfl (.bin rfl rfl (acw J)) ?_
      refine aH ?_
      refine ah rfl (.bin rfl rfl (acw J)) ?_
      refine ao ?_
      refine r8 rp ?_
      refine ao ?_
      refine aL rfl ?_ ?_<;>intro aKe h56
      ·refine aB ?_
       exact⟨-1,_,(qq J).symm,((aj (aj (bJ cl) cl) cl)).symm⟩
      ·refine aB ?_
       refine ah rfl (.bin rfl rfl (acw J)) ?_
       refine aH ?_
       refine ah rfl (.bin rfl rfl (acw J)) ?_
       refine ao ?_
       refine r8 rp ?_
       refine ao ?_
       refine aL rfl ?_ ?_<;>intro an4 gv
       ·refine aB ?_
        exact⟨1,_,(sY J).symm,((aj (aj (bJ cl) cl) cl)).symm⟩
       ·refine aH ?_
        exact⟨0,_,(tZ J).symm,((aj (aj (bJ cl) cl) cl)).symm⟩
     ·refine aY 12 al ?_
      refine aQ ?_
      refine cp aO (xA _) ?_
      refine cp au (zf _ _ (cZ _) (cZ _) J J) ?_
      refine aQ ?_
      refine cp aO (xA _) ?_
      refine cp au (zf _ _ (cZ _) (cZ _) J J) ?_
      refine cp au (af6 _ _ (cZ _) (cZ _) xM xM) ?_
      refine aQ ?_
      exact⟨lL (a.num.natAbs*b.den) (b.num.natAbs*a.den),_,rfl,((aj (aj (bJ cl) cl) cl)).symm⟩
  ·rintro _ ⟨c,aLS,hc,rfl⟩
   refine bg ?_
   refine aL rfl ?_ ?_<;>intro aIt h76
   ·refine bB ?_
    rw [aiD pd,if_pos h76,<-hc,<-axN hc]
    exact dR
   ·refine bB ?_
    rw [aiD pd,if_neg h76,<-hc]
    exact dR
namespace akP
theorem aw {p q:Prop} (k:q) (e:p=q:=by simp only [e1,e2,e3,e4,p1,p2,p3,q1,q2,q3,l1,t0,t1,r1,r2,r3,r4,Nat.zero_add,Nat.reduceMul,Nat.reduceAdd,b1,b2,b3,b4,b5,b6,i1,i2,i3,i4,i5,i6,Nat.reduceBEq,cb,qk,qB,rh,qI];exact rfl):p:=e.mpr k
end akP
open akP in
theorem ef (a b:Rat) (h:rl a+rl b<=1099511627776):ax ak 224 [aa a,aa b] (aa (a*b)):=by
 have a1:=oV a
 have a2:=qH a
 have a3:=qO a
 have c1:=oV b
 have c2:=qH b
 have c3:=qO b
 have a0:=a.den_pos
 have c0:=b.den_pos
 have m1:=gw a1 c2
 have m2:=gw c1 a2
 have m3:=gw a2 c2
 have m4:=gw a1 c1
 have m5:=gw a2 c1
 have m6:=gw c2 a2
 have hE:=aoz (decide (a<0)) (decide (b<0)) a.num.natAbs a.den b.num.natAbs b.den
 rw [nQ,nQ] at hE
 refine aR Tryz.func224 ?_
 have qk:True:=trivial
 have qB:True:=trivial
 have rh:True:=trivial
 have qI:True:=trivial
 refine eQ ?_
 refine ep 15 rfl ?_ ?_<;>intro oG mV
 ·have hz:a*b=0:=by rw [aa4 (q:=a) J,Rat.zero_mul]
  refine nm ?_
  rw [hz,rQ]
  exact adu
 ·refine bf ?_
  refine aL rfl ?_ ?_<;>intro aae ze
  ·have hz:a*b=0:=by rw [aa4 (q:=b) J,Rat.mul_zero]
   refine bg ?_
   rw [hz,rQ]
   exact adu
  ·refine ay ?_
   refine cp aO (aaT _) ?_
   refine df ?_
   refine ia (fun L=>∃  (L1:St),(True)/\L=((((St.mk L1.slot (hp [(2,⟨3,[aa a],true⟩),(3,⟨3,[aa b],true⟩),(4,⟨3,[.agg [.v (.bool false),.list 1 [],.list 1 []]],true⟩)])).put (some 2) (.aF 2 3 0 0)).put (some 3) (.aF 3 3 0 0)).put (some 4) (.aF 4 3 0 0))) ?_ ?_
   ·refine aL rfl ?_ ?_<;>intro zR ss
    ·obtain⟨qk,qB,k3,k4⟩:=aaZ zR
     refine aQ ?_
     refine cp aO (aaT _) ?_
     refine df ?_
     refine aL rfl ?_ ?_<;>intro wx uK
     ·obtain⟨rh,qI,k7,k8⟩:=aaZ wx
      have n1:=uV k3 k7
      have n2:=uV k4 k8
      have np:=qn a0 c0
      refine bB ?_
      refine ah rfl adM ?_
      refine aH ?_
      refine ah rfl adM ?_
      refine cp gM (ads _ _ _ aax (by first | exact np | (simp only [qk,qB,rh,qI];exact np)) aax) ?_
      refine ay ?_
      rw [hE]
      exact jJ
     ·refine aH ?_
      exact⟨_,trivial,((aj (aj (aj (bJ cl) cl) cl) cl)).symm⟩
    ·refine aH ?_
     exact⟨_,trivial,((aj (aj (aj (bJ cl) cl) cl) cl)).symm⟩
   ·rintro _ ⟨aHF,-,rfl⟩
    refine aH ?_
    refine aY 16 al ?_
    refine bB ?_
    refine cp au (zf _ _ (cZ _) (cZ _) J J) ?_
    refine ao ?_
    refine cp aO (xA _) ?_
    refine ao ?_
    refine cp aO (xA _) ?_
    refine cp au (zf _ _ (cZ _) (cZ _) J J) ?_
    refine cp gM (abR _ _ _ (cZ _) (cZ _) xM xM) ?_
    refine aB ?_
    rw [hE]
    exact jJ
open akP in
theorem sH (a b:Rat) (h:rl a+rl b<=1099511627776):ax ak 180 [aa a,aa b] (.a9 [aa (a/b),iL (if b=0 then 3 else 0)]):=by
 have a1:=oV a
 have a2:=qH a
 have a3:=qO a
 have c1:=oV b
 have c2:=qH b
 have c3:=qO b
 have a0:=a.den_pos
 have c0:=b.den_pos
 have m1:=gw a1 c2
 have m2:=gw c1 a2
 have m3:=gw a2 c2
 have m4:=gw a1 c1
 have m5:=gw a2 c1
 have m6:=gw c2 a2
 have hE:=ak5 (decide (a<0)) (decide (b<0)) a.num.natAbs a.den b.num.natAbs b.den
 rw [nQ,nQ] at hE
 refine aR Tryz.func180 ?_
 have qk:True:=trivial
 have qB:True:=trivial
 have rh:True:=trivial
 have qI:True:=trivial
 refine bw ?_
 refine cp aO (yS _ J) ?_
 refine aQ ?_
 refine aL rfl ?_ ?_<;>intro um nA
 ·have hz:b=0:=by
   unfold di at nA;split at nA
   ·assumption
   ·split at nA<;>omega
  refine bB ?_
  subst hz
  rw [show a/0=0 by rw [Rat.div_def];simp,rQ]
  exact qE [] rfl rfl rfl rfl rfl dC (.pure rfl) rfl (.pure rfl)
 ·have hz:b≠0:=by rintro rfl;exact nA rfl
  have hbn:0<b.num.natAbs:=uN (fun h=>hz (ax7.1 J))
  refine ay ?_
  refine cp aO (aaT _) ?_
  refine df ?_
  refine ia (fun L=>∃  (L1:St),(True)/\L=(((((St.mk L1.slot (hp [(2,⟨3,[aa a],true⟩),(3,⟨3,[aa b],true⟩),(4,⟨3,[.agg [.v (.bool false),.list 1 [],.list 1 []]],true⟩)])).put (some 2) (.aF 2 3 0 0)).put (some 3) (.aF 3 3 0 0)).put (some 4) (.aF 4 3 0 0)).put (some 5) (iL 0))) ?_ ?_
  ·refine aL rfl ?_ ?_<;>intro aem h22
   ·obtain⟨qk,qB,k3,k4⟩:=aaZ aem
    refine aQ ?_
    refine cp aO (aaT _) ?_
    refine df ?_
    refine aL rfl ?_ ?_<;>intro aa9 h29
    ·obtain⟨rh,qI,k7,k8⟩:=aaZ aa9
     have n1:=uV k3 k8
     have n2:=uV k4 k7
     have np:=qn a0 hbn
     refine bB ?_
     refine ah rfl adM ?_
     refine aH ?_
     refine ah rfl adM ?_
     refine cp gM (ads _ _ _ aax (by first | exact np | (simp only [qk,qB,rh,qI];exact np)) aax) ?_
     refine bf ?_
     rw [hE,if_neg hz]
     exact agw
    ·refine aH ?_
     exact aey
   ·refine aH ?_
    exact aey
  ·rintro _ ⟨aLB,-,rfl⟩
   refine aH ?_
   refine aY 16 al ?_
   refine bg ?_
   refine cp aO (xA _) ?_
   refine cp au (zf _ _ (cZ _) (cZ _) J J) ?_
   refine ao ?_
   refine cp aO (xA _) ?_
   refine aH ?_
   refine cp au (zf _ _ (cZ _) (cZ _) J J) ?_
   refine cp gM (abR _ _ _ (cZ _) (cZ _) xM xM) ?_
   refine a7 ?_
   rw [hE,if_neg hz]
   exact agw
theorem acL {p s:Bool} (h:(p==s)=false):p≠s:=by simpa using h
namespace apa
theorem aw {p q:Prop} (k:q) (e:p=q:=by simp only [e1,e2,e3,e4,p1,p2,p3,q1,q2,q3,l1,t0,t1,r1,r2,r3,r4,Nat.zero_add,Nat.reduceMul,Nat.reduceAdd,b1,b2,b3,b4,b5,b6,i1,i2,i3,i4,i5,i6,Nat.reduceBEq,cb,Nat.one_mul,Nat.mul_one,eS,eK,eSb,eSc,qk,qB,rh,qI];exact rfl):p:=e.mpr k
end apa
open apa in
theorem aq9 (a b:Rat) (s:Bool) (h:rl a+rl b<=549755813888):ax ak 192 [aa a,aa b,bL s] (aa (a+wq s b)):=by
 have a1:=oV a
 have a2:=qH a
 have a3:=qO a
 have c1:=oV b
 have c2:=qH b
 have c3:=qO b
 have a0:=a.den_pos
 have c0:=b.den_pos
 have m1:=gw a1 c2
 have m2:=gw c1 a2
 have m3:=gw a2 c2
 have m4:=gw a1 c1
 have m5:=gw a2 c1
 have m6:=gw c2 a2
 have mm:=aoa (k:=rl a+rl b) m1 J
 refine aR Tryz.func192 ?_
 have eS:True:=trivial
 have eK:True:=trivial
 have eSb:True:=trivial
 have eSc:True:=trivial
 have qk:True:=trivial
 have qB:True:=trivial
 have rh:True:=trivial
 have qI:True:=trivial
 refine bC ?_
 refine cp aO (aaT _) ?_
 refine df ?_
 refine ia (fun L=>∃  (L1:St),(True)/\L=(((((St.mk L1.slot (hp [(3,⟨3,[aa a],true⟩),(4,⟨3,[aa b],true⟩),(6,⟨3,[.agg [.v (.bool false),.list 1 [],.list 1 []]],true⟩)])).put (some 2) (bL s)).put (some 3) (.aF 3 3 0 0)).put (some 4) (.aF 4 3 0 0)).put (some 6) (.aF 6 3 0 0))) ?_ ?_
 ·refine aL rfl ?_ ?_<;>intro zR ss
  ·obtain⟨qk,qB,k3,k4⟩:=aaZ zR
   refine aQ ?_
   refine cp aO (aaT _) ?_
   refine df ?_
   refine aL rfl ?_ ?_<;>intro wx uK
   ·obtain⟨rh,qI,k7,k8⟩:=aaZ wx
    have n1:=uV k3 k8
    have n2:=uV k7 k4
    have n3:=uV k4 k8
    have np:=qn a0 c0
    refine aB ?_
    refine ah rfl adM ?_
    refine aH ?_
    refine ah rfl adM ?_
    refine a7 ?_
    have eS:(((a.num.natAbs*b.den:Nat):Int)+((b.num.natAbs*a.den:Nat):Int)+0) % 18446744073709551616=(((a.num.natAbs*b.den+b.num.natAbs*a.den) % 18446744073709551616:Nat):Int):=by omega
    have eK:(((a.num.natAbs*b.den:Nat):Int)+((b.num.natAbs*a.den:Nat):Int)+0)/18446744073709551616=(((a.num.natAbs*b.den+b.num.natAbs*a.den)/18446744073709551616:Nat):Int):=by omega
    refine aQ ?_
    refine ah rfl (.adq Tryz.func244 rfl rfl rfl rfl (vs:=[.int .u64 ((a.num.natAbs*b.den:Nat):Int),.int .u64 ((b.num.natAbs*a.den:Nat):Int),.int .u64 0]) rfl (fun w=>run_add64 _ _ _ J J J J w) rfl rfl) ?_
    refine eQ ?_
    refine ep 53 rfl ?_ ?_<;>intro tx h53
    ·refine ay ?_
     refine aL rfl ?_ ?_<;>intro aJw h48
     ·refine bf ?_
      refine cp gM (ads s ((a.num.natAbs*b.den+b.num.natAbs*a.den) % 18446744073709551616) (a.den*b.den) J np J) ?_
      refine bf ?_
      have te:a.num.natAbs*b.den+b.num.natAbs*a.den<18446744073709551616:=by omega
      rw [add_same (k:=1) (x:=a.num.natAbs*b.den) (y:=b.num.natAbs*a.den) (d:=a.den*b.den) J (kE _) (kE _) (kE _) (eq_of_beq tx),show qv s (a.num.natAbs*b.den+b.num.natAbs*a.den) (a.den*b.den)=qv s ((a.num.natAbs*b.den+b.num.natAbs*a.den) % 18446744073709551616) (a.den*b.den) by rw [ir te]]
      exact jJ
     ·refine bf ?_
      refine yd (aM (v:=false) rfl rfl ((by rw [tx];rfl)) rfl) ?_
      refine yd (aM (v:=false) rfl rfl ((by rw [tx];rfl)) rfl) ?_
      refine yd (aM (v:=false) rfl rfl ((by rw [tx];rfl)) rfl) ?_
      refine ah rfl (.m9 rfl ((by rw [tx];rfl))) ?_
      refine dk ?_
      refine dp (b:=_) rfl (by rw [tx];rfl) ?_
      refine aQ ?_
      exact aey
    ·refine df ?_
     refine ah (aM (v:=true) rfl rfl ((by rw [tx];rfl)) rfl) (.move _) ?_
     refine ah (aM (v:=true) rfl rfl ((by rw [tx];rfl)) rfl) (.move _) ?_
     refine ah (aM (v:=true) rfl rfl ((by rw [tx];rfl)) rfl) (.bin rfl rfl rfl) ?_
     refine ah rfl (.gU rfl ((by rw [tx];rfl))) ?_
     refine aQ ?_
     refine aL rfl ?_ ?_<;>intro an4 gv
     ·refine bh ?_
      refine cp gM (ads _ _ _ aax (by first | exact np | (simp only [qk,qB,rh,qI];exact np)) aax) ?_
      refine bf ?_
      rw [ami (k:=1) (x:=a.num.natAbs*b.den) (y:=b.num.natAbs*a.den) (d:=a.den*b.den) J (kE _) (kE _) (kE _) (acL tx) J]
      exact jJ
     ·refine bB ?_
      refine bI (b:=_) rfl (by rw [tx];rfl) ?_
      refine bB ?_
      refine cp gM (ads _ _ _ aax (by first | exact np | (simp only [qk,qB,rh,qI];exact np)) aax) ?_
      refine bf ?_
      rw [amd (k:=1) (x:=a.num.natAbs*b.den) (y:=b.num.natAbs*a.den) (d:=a.den*b.den) J (kE _) (kE _) (kE _) (acL tx) J]
      exact jJ
   ·refine aH ?_
    exact aey
  ·refine aH ?_
   exact aey
 ·rintro _ ⟨aHF,-,rfl⟩
  refine aH ?_
  refine aY 9 al ?_
  refine a7 ?_
  refine cp aO (xA _) ?_
  refine bw ?_
  refine cp au (ahd _ _ J J) ?_
  refine aQ ?_
  refine ia (fun L=>∃ (x:Nat) (y:Nat) (d:Nat) (L1:St),(∃ k,0<k/\x*k=a.num.natAbs*b.den/\y*k=b.num.natAbs*a.den/\d*k=a.den*b.den/\0<d/\(aq x).length<=rl a+rl b/\(aq y).length<=rl a+rl b/\(aq d).length<=rl a+rl b)/\L=((((((((St.mk L1.slot (hp [(3,⟨3,[aa a],true⟩),(4,⟨3,[aa b],true⟩),(6,⟨3,[.agg [.v (.bool false),.list 1 [],.list 1 []]],true⟩)])).put (some 2) (bL s)).put (some 3) (.aF 3 3 0 0)).put (some 4) (.aF 4 3 0 0)).put (some 6) (.aF 6 3 0 0)).put (some 15) (bp x)).put (some 16) (bp y)).put (some 17) (bp d))) ?_ ?_
  ·refine aL rfl ?_ ?_<;>intro aKi aHU
   ·refine aY 15 al ?_
    refine aH ?_
    refine cp aO (xA _) ?_
    refine cp au (zf _ _ (cZ _) (cZ _) J J) ?_
    refine aH ?_
    refine cp aO (xA _) ?_
    refine cp au (zf _ _ (cZ _) (cZ _) J J) ?_
    refine aH ?_
    refine cp aO (xA _) ?_
    refine cp au (zf _ _ (cZ _) (cZ _) J J) ?_
    refine a7 ?_
    exact⟨a.num.natAbs*b.den,b.num.natAbs*a.den,a.den*b.den,_,⟨1,J,kE _,kE _,kE _,qn a0 c0,m1,J,m3⟩,((aj (aj (aj (aj (aj (aj (aj (bJ cl) cl) cl) cl) cl) cl) cl) cl)).symm⟩
   ·have hde:=amM aHU
    refine aH ?_
    exact⟨a.num.natAbs,b.num.natAbs,a.den,_,⟨a.den,a0,by rw [hde],rfl,by rw [hde],a0,J,J,J⟩,((aj (aj (aj (aj (aj (aj (aj (bJ cl) cl) cl) cl) cl) cl) cl) cl)).symm⟩
  ·rintro _ ⟨x,y,d,aLy,⟨k,hk,hx,hy,hd,kM,lx,ly,ld⟩,rfl⟩
   have lxy:=aoa lx ly
   have lxs:(aq (x-y)).length<=rl a+rl b:=bb (nL (agn _ _)) lx
   have lys:(aq (y-x)).length<=rl a+rl b:=bb (nL (agn _ _)) ly
   refine bh ?_
   refine aL rfl ?_ ?_<;>intro al6 aKx
   ·refine a7 ?_
    refine cp au (ala _ _ (cZ _) (cZ _) J J) ?_
    refine ao ?_
    refine cp gM (abR _ _ _ (cZ _) (cZ _) xM xM) ?_
    refine a7 ?_
    rw [add_same hk hx hy hd (eq_of_beq al6)]
    exact jJ
   ·refine bf ?_
    refine cp au (avg _ _ J J) ?_
    refine dk ?_
    refine aL rfl ?_ ?_<;>intro amq amI
    ·have hle:=alf.1 (show abj x y=0 by omega)
     have eSb:=agl hle
     refine ay ?_
     refine cp gM (abR _ _ _ (by rw [eSb];exact cZ _) (cZ _) (by rw [eSb];omega) J) ?_
     refine a7 ?_
     rw [ami hk hx hy hd (acL al6) hle]
     exact jJ
    ·have hle:x<=y:=by
      rcases alI x y with h | h
      ·exact h
      ·have:=alf.2 h;omega
     have eSc:=agl hle
     refine ay ?_
     refine cp au (avg _ _ J J) ?_
     refine bw ?_
     refine cp gM (abR _ _ _ (cZ _) (cZ _) J J) ?_
     refine aB ?_
     rw [amd hk hx hy hd (acL al6) hle]
     exact jJ
theorem aen {a b:Rat}:gp b a<0↔b<a:=by unfold gp;split<;>(try split)<;>grind
theorem sv {a b:Rat}:gp b a > 0↔a<b:=by unfold gp;split<;>(try split)<;>grind
open H0 in
theorem fA (a b:Rat) (h:rl a+rl b<=549755813888):ax ak 111 [aa a,aa b] (aa (a+b)):=by
 refine aR Tryz.func111 ?_
 refine dk ?_
 refine cp gM (aq9 _ _ _ J) ?_
 refine aB ?_
 exact fi [] rfl rfl rfl (an.av _) (p7 _) dC (by rw [aiN];exact .pure (an.pure _))
open H0 in
theorem oW (a b:Rat) (h:rl a+rl b<=549755813888):ax ak 181 [aa a,aa b] (aa (a-b)):=by
 refine aR Tryz.func181 ?_
 refine df ?_
 refine cp gM (aq9 _ _ _ J) ?_
 refine aB ?_
 rw [Rat.sub_eq_add_neg]
 exact fi [] rfl rfl rfl (an.av _) (p7 _) dC (by rw [aFz];exact .pure (an.pure _))
open H0 in
theorem ajg (a b:Rat) (h:rl a+rl b<=549755813888):ax ak 135 [aa a,aa b] (aa (if b<a then b else a)):=by
 refine aR Tryz.func135 ?_
 refine bw ?_
 refine cp au (mG _ _ J) ?_
 refine aQ ?_
 refine ia (fun L=>∃ (q:Rat) (L1:St),(q=(if b<a then b else a)/\rl q<=549755813888)/\L=(((St.mk L1.slot (hp [(2,⟨3,[aa q],true⟩),(3,⟨3,[aa b],true⟩),(4,⟨3,[.agg [.v (.bool false),.list 1 [],.list 1 []]],true⟩)])).put (some 2) (.aF 2 3 0 0)).put (some 4) (.aF 4 3 0 0))) ?_ ?_
 ·refine aL rfl ?_ ?_<;>intro re h8
  ·refine a7 ?_
   exact⟨b,_,⟨by rw [if_pos (aen.1 h8)],J⟩,((aj (aj (bJ cl) cl) cl)).symm⟩
  ·refine aH ?_
   exact⟨a,_,⟨by rw [if_neg (fun h=>h8 (aen.2 h))],J⟩,((aj (aj (bJ cl) cl) cl)).symm⟩
 ·rintro _ ⟨q,LC8,⟨hq,jF⟩,rfl⟩
  refine aB ?_
  refine cp aO (ajP _ J) ?_
  refine aB ?_
  rw [<-hq]
  exact jJ
open H0 in
theorem ah2 (a b:Rat) (h:rl a+rl b<=549755813888):ax ak 136 [aa a,aa b] (aa (if a<b then b else a)):=by
 refine aR Tryz.func136 ?_
 refine bw ?_
 refine cp au (mG _ _ J) ?_
 refine aQ ?_
 refine ia (fun L=>∃ (q:Rat) (L1:St),(q=(if a<b then b else a)/\rl q<=549755813888)/\L=(((St.mk L1.slot (hp [(2,⟨3,[aa q],true⟩),(3,⟨3,[aa b],true⟩),(4,⟨3,[.agg [.v (.bool false),.list 1 [],.list 1 []]],true⟩)])).put (some 2) (.aF 2 3 0 0)).put (some 4) (.aF 4 3 0 0))) ?_ ?_
 ·refine aL rfl ?_ ?_<;>intro re h8
  ·refine a7 ?_
   exact⟨b,_,⟨by rw [if_pos (sv.1 h8)],J⟩,((aj (aj (bJ cl) cl) cl)).symm⟩
  ·refine aH ?_
   exact⟨a,_,⟨by rw [if_neg (fun h=>h8 (sv.2 h))],J⟩,((aj (aj (bJ cl) cl) cl)).symm⟩
 ·rintro _ ⟨q,LC8,⟨hq,jF⟩,rfl⟩
  refine aB ?_
  refine cp aO (ajP _ J) ?_
  refine aB ?_
  rw [<-hq]
  exact jJ
theorem auc {o:List Nat} {N:Nat} (hL:bV o) (hv:val o=N) (h:o.length=0\/4294967296 ^ (o.length-1)<=N):o=aq N:=by
 have h1:(aq N).length<=o.length:=by rw [<-hv];exact axv hL
 have h2:o.length<=(aq N).length:=by
  rcases h with h | h
  ·omega
  ·rcases kD (aq N).length o.length with bZ | kP
   ·have:=uy (n:=N) (k:=o.length-1) J
    omega
   ·exact kP
 have e1:=ajp hL rfl
 have e2:=ajp (cZ N) rfl
 rw [e1,e2,cb,hv]
 congr 1;omega
theorem aDN {m:Nat} (h:(aq m).length=2):m=(aq m).getD 1 0*4294967296+(aq m).getD 0 0:=by
 have e:=cb m
 generalize aq m=l at h e
 match l,h with
 | [x,y],_=>rw [val_two] at e;simp;omega
theorem orC {a b:Nat} (hb:b<4294967296) (hx:a<4294967296):dM .or .u64 (b:Nat) ((a*4294967296:Nat):Int)=some (.int .u64 ((a*4294967296+b:Nat):Int)):=orV (s:=32) hb J
theorem y7:(0:Int).toNat=0:=rfl
theorem tz1:(1:Int).toNat=1:=rfl
theorem fo {α β:Type} (f:α->β) (o:List α):(o.map f).take o.length=o.map f:=by rw [cE aW]
theorem eO {α β:Type} (f:α->β) (o:List α) (x:α):o.map f++[f x]=(o++[x]).map f:=by simp
theorem dW {α:Type} (o:List α) (x:α):(o++[x]).length=o.length+1:=by simp
theorem ak1 (o:List Nat) (x:Nat):val (o++[x])=val o+4294967296 ^ o.length*x:=by rw [aee];simp [val]
theorem alD {o:List Nat} (h:bV o) {x:Nat} (hx:x<4294967296):bV (o++[x]):=aqC h (fun y hy=>by simp at hy;omega)
section
variable {m n c s:Nat} {o:List Nat}
theorem aG9 (hv:val o+4294967296 ^ o.length*c=val ((aq m).take o.length)+val ((aq n).take o.length)) (hs:s=c+(aq m).getD o.length 0+(aq n).getD o.length 0) :
  val (o++[s % 4294967296])+4294967296 ^ (o.length+1)*(s/4294967296)=val ((aq m).take (o.length+1))+val ((aq n).take (o.length+1)):=by
 rw [ak1,pv,pv,jw]
 have h1:=abT (4294967296 ^ o.length) s
 have h2:4294967296 ^ o.length*s=4294967296 ^ o.length*c+4294967296 ^ o.length*(aq m).getD o.length 0+4294967296 ^ o.length*(aq n).getD o.length 0:=by rw [hs,eA,eA]
 omega
theorem afU {m k:Nat} (h:(aq m).length<=k):val ((aq m).take k)=m:=by rw [cE h,cb]
theorem aFG (hv:val o+4294967296 ^ o.length*c=val ((aq m).take o.length)+val ((aq n).take o.length)) (dj:o.length<=max (aq m).length (aq n).length\/(o.length=max (aq m).length (aq n).length+1/\c=0))
  (hg:o.length<max (aq m).length (aq n).length\/c≠0):o.length+1=max (aq m).length (aq n).length+1->4294967296 ^ (o.length+1-1)<=m+n:=by
 intro h
 rw [afU J,afU J] at hv
 have:4294967296 ^ o.length*1<=4294967296 ^ o.length*c:=lr _ J
 rw [rO];omega
theorem agO {m:Nat} (h:0<(aq m).length):4294967296 ^ ((aq m).length-1)<=m:=by
 rcases kD m (4294967296 ^ ((aq m).length-1)) with h1 | h1
 ·have:=xf h1;omega
 ·exact h1
theorem aIv (hc:c<=1) (dj:o.length<=max (aq m).length (aq n).length\/(o.length=max (aq m).length (aq n).length+1/\c=0)) (hg:o.length<max (aq m).length (aq n).length\/c≠0)
  (hs:s=c+(aq m).getD o.length 0+(aq n).getD o.length 0):o.length+1<=max (aq m).length (aq n).length\/(o.length+1=max (aq m).length (aq n).length+1/\s/4294967296=0):=by
 by_cases h:o.length<max (aq m).length (aq n).length
 ·exact oB
 ·rw [uF (aq m) _ J,uF (aq n) _ J] at hs
  exact .inr ⟨J,J⟩
theorem aDJ (hc:c<=1) (cq:bV o) (dj:o.length<=max (aq m).length (aq n).length\/(o.length=max (aq m).length (aq n).length+1/\c=0)) (hv:val o+4294967296 ^ o.length*c=val ((aq m).take o.length)+val ((aq n).take o.length))
  (kP:o.length=max (aq m).length (aq n).length+1->4294967296 ^ (o.length-1)<=m+n) (hg:¬ (o.length<max (aq m).length (aq n).length\/c≠0)):aq (m+n)=o:=by
 rw [afU J,afU J,show c=0 by omega] at hv
 refine(auc cq J ?_).symm
 by_cases h0:o.length=0
 ·exact .inl h0
 refine .inr ?_
 rcases dj with h | h
 ·rcases alI (aq m).length (aq n).length with hh | hh
  ·have:=agO (m:=n) J
   rw [show o.length=(aq n).length by omega];omega
  ·have:=agO (m:=m) J
   rw [show o.length=(aq m).length by omega];omega
 ·exact kP h.1
end
theorem aEj {k br y2 xU x:Nat} {a b o:List Nat} (dj:k<o.length) (cq:bV o) (nF:br<=1) (hxl:a.getD k 0<4294967296) (yW:b.getD k 0<4294967296) (hv:val (o.take k)+val (b.take k)=val (a.take k)+4294967296 ^ k*br) (hx:x=br+b.getD k 0)
  (h:(a.getD k 0<x/\y2=a.getD k 0+4294967296/\xU=1)\/(x<=a.getD k 0/\y2=a.getD k 0/\xU=0)) :
  x<=y2/\xU<=1/\bV (o.set k ((y2-x) % 4294967296))/\val ((o.set k ((y2-x) % 4294967296)).take (k+1))+val (b.take (k+1))=val (a.take (k+1))+4294967296 ^ (k+1)*xU:=by
 rcases h with⟨h1,rfl,rfl⟩ | ⟨h1,rfl,rfl⟩
 ·refine⟨J,J,mn cq _ _ J,?_⟩
  rw [show (a.getD k 0+4294967296-x) % 4294967296=4294967296+a.getD k 0-x by omega]
  exact at9 dj hv hx h1 J
 ·refine⟨J,J,mn cq _ _ J,?_⟩
  rw [ir (by omega:a.getD k 0-x<4294967296)]
  exact asz dj hv hx h1
namespace aqc
theorem aw {p q:Prop} (k:q) (e:p=q:=by simp only [e1,e2,e3,e4,p1,p2,p3,q1,q2,q3,l1,t0,t1,r1,r2,r3,r4,Nat.zero_add,Nat.reduceMul,Nat.reduceAdd,b1,b2,b3,b4,b5,b6,i1,i2,i3,i4,i5,i6,Nat.reduceBEq,ej,ek,fU,List.take_zero,List.take_nil,List.nil_append,aG fX,LV.kill];exact rfl):p:=e.mpr k
end aqc
open aqc in
theorem vj (l:List Nat) (h:bV l) (hl:l.length<=4398046511104):ax ak 124 [eX l] (bp (val l)):=by
 unfold eX bp
 rw [<-vq h]
 unfold xp
 refine aR Tryz.func124 ?_
 have ej:True:=trivial
 have ek:True:=trivial
 refine df ?_
 refine dI (fun(k:Nat) L=>(((St.mk L.slot (hp [])).put (some 0) (.list 1 (l.map bG))).put (some 3) (ae k))) (fun k=>k<=l.length/\jh l.length l=jh k l) (fun k=>k) l.length ⟨bF _,rfl⟩ ?_
 rintro k L1 ⟨hk,wN⟩
 refine ay ?_
 refine ep 8 rfl ?_ ?_<;>intro re h8
 ·obtain⟨j,rfl⟩:∃ j,k=j+1:=⟨k-1,J⟩
  have ej:(((j+1:Nat):Int)-1).toNat=j:=by omega
  have ek:(((j+1:Nat):Int)-1)=j:=by omega
  refine bB ?_
  refine aL rfl ?_ ?_<;>intro oG mV
  ·refine bh ?_
   exact lU j ⟨J,wN.trans (by simp only [jh];rw [if_pos (by simpa using mV)])⟩
  ·refine bh ?_
   refine ah rfl acR ?_
   refine bO rfl axM ?_
   refine aB ?_
   rw [wN,jh,if_neg (show ¬ l.getD j 0=0 by omega)]
   exact lW [22] rfl rfl (dH fX rfl rfl rfl)
 ·have lJ:k=0:=by omega
  subst lJ
  refine lF ?_
  refine ah rfl acR ?_
  refine bO rfl axM ?_
  refine aB ?_
  rw [wN,show jh 0 l=0 from rfl]
  exact lW [22] rfl rfl (dH fX rfl rfl rfl)
open H0 in
theorem aa8 (n:Nat) (hn:n<18446744073709551616):ax ak 103 [cX n] (bp n):=by
 have hL:bV [n % 4294967296,n/4294967296 % 4294967296]:=by
  intro x hx;simp at hx;omega
 have hV:val [n % 4294967296,n/4294967296 % 4294967296]=n:=by rw [val_two];omega
 refine aR Tryz.func103 ?_
 refine dk ?_
 refine sr [8] su (vj _ iE sP) ?_
 refine aB ?_
 exact dO rfl (by rw [hV];exact .pure (kf _))
namespace apv
theorem aw {p q:Prop} (k:q) (e:p=q:=by simp only [e1,e2,e3,e4,p1,p2,p3,q1,q2,q3,l1,t0,t1,r1,r2,r3,r4,Nat.zero_add,Nat.reduceMul,Nat.reduceAdd,b1,b2,b3,b4,b5,b6,i1,i2,i3,i4,i5,i6,Nat.reduceBEq,fU,y7,tz1];exact rfl):p:=e.mpr k
end apv
open apv in
theorem agN (m:Nat) (hl:(aq m).length<=1099511627776):ax ak 230 [bp m] (.a9 [cX (if m<18446744073709551616 then m else 0),bL (decide (m<18446744073709551616))]):=by
 have kM:=ix m 0
 have oa:=ix m 1
 refine aR Tryz.func230 ?_
 refine lF ?_
 refine aL rfl ?_ ?_<;>intro h6r h6
 ·have hm:m=0:=sk.1 (oC J)
  refine bB ?_
  subst hm
  exact aak
 ·refine ay ?_
  refine aL rfl ?_ ?_<;>intro re h8
  ·have hm:=aa2 (n:=m) J
   have fc:=tF.1 (show (aq m).length<=1 by omega)
   refine dk ?_
   rw [if_pos J,decide_eq_true J]
   refine vu (x:=cX ((aq m).getD 0 0)) rfl ?_ rfl (.pure rfl)
   rw [hm.1]
   exact .pure rfl
  ·refine ay ?_
   refine aL rfl ?_ ?_<;>intro um nA
   ·have h2v:m=(aq m).getD 1 0*4294967296+(aq m).getD 0 0:=aDN J
    have fc:=zJ.1 (show (aq m).length<=2 by omega)
    refine ao ?_
    refine aY 12 al ?_
    refine bg ?_
    refine ah rfl (.sh rfl rfl (aeJ (by simp only [fU,y7,tz1];omega))) ?_
    refine ah rfl (.bin rfl rfl (orC (by simp only [fU,y7,tz1];omega) (by simp only [fU,y7,tz1];omega))) ?_
    refine bf ?_
    rw [if_pos fc,decide_eq_true fc]
    refine vu (x:=cX ((aq m).getD 1 0*4294967296+(aq m).getD 0 0)) rfl ?_ rfl (.pure rfl)
    rw [<-h2v]
    exact .pure rfl
   ·have fc:¬ m<18446744073709551616:=fun h=>by have:=zJ.2 h;omega
    refine bh ?_
    rw [if_neg fc,decide_eq_false fc]
    exact aak
open adH in
theorem afT (m n:Nat) (fS:(aq m).length<=1099511627776) (mr:(aq n).length<=1099511627776):ax ak 47 [bp m,bp n] (iL (lL m n)):=by
 refine aR Tryz.func47 ?_
 have ej:True:=trivial
 have ek:True:=trivial
 refine eQ ?_
 refine aL rfl ?_ ?_<;>intro pA sC
 ·refine bh ?_
  refine aL rfl ?_ ?_<;>intro oG mV
  ·have hE:=agR (m:=m) (n:=n) J
   refine bg ?_
   first | (rw [qq hE];exact dO rfl (.pure rfl)) | (rw [sY hE];exact dO rfl (.pure rfl)) | (rw [tZ hE];exact dO rfl (.pure rfl))
  ·have hE:=agR (m:=n) (n:=m) J
   refine bB ?_
   first | (rw [qq hE];exact dO rfl (.pure rfl)) | (rw [sY hE];exact dO rfl (.pure rfl)) | (rw [tZ hE];exact dO rfl (.pure rfl))
 ·have hlen:(aq m).length=(aq n).length:=by omega
  clear sC pA
  refine bw ?_
  refine dI (fun(k:Nat) L=>((((St.mk L.slot (hp [])).put (some 0) (bp m)).put (some 1) (bp n)).put (some 5) (iL ((k:Int)-1)))) (fun k=>k<=(aq m).length/\(aq m).drop k=(aq n).drop k) (fun k=>k) ((aq m).length) ⟨bF _,by rw [ad6,kB J]⟩ ?_
  rintro k L1 ⟨hk,hd⟩
  refine bf ?_
  refine aL rfl ?_ ?_<;>intro aae ze
  ·obtain⟨j,rfl⟩:∃ j,k=j+1:=⟨k-1,J⟩
   have ej:(((j+1:Nat):Int)-1).toNat=j:=by omega
   have ek:(((j+1:Nat):Int)-1)=j:=by omega
   refine ay ?_
   refine aY 9 al ?_
   refine bC ?_
   refine aL rfl ?_ ?_<;>intro amS h31
   ·have hE:=aiT (cZ m) (k:=j) J J hd J
    rw [cb,cb] at hE
    refine bw ?_
    first | (rw [qq hE];exact dO rfl (.pure rfl)) | (rw [sY hE];exact dO rfl (.pure rfl)) | (rw [tZ hE];exact dO rfl (.pure rfl))
   ·refine aQ ?_
    refine aY 9 al ?_
    refine bC ?_
    refine aL rfl ?_ ?_<;>intro zi pS
    ·have hE:=aiT (cZ n) (k:=j) J J hd.symm J
     rw [cb,cb] at hE
     refine bC ?_
     first | (rw [qq hE];exact dO rfl (.pure rfl)) | (rw [sY hE];exact dO rfl (.pure rfl)) | (rw [tZ hE];exact dO rfl (.pure rfl))
    ·refine bB ?_
     exact lU j ⟨J,ard J J hd J⟩
  ·obtain rfl:k=0:=by omega
   rw [ks,ks] at hd
   have hE:m=n:=by have:=congrArg val hd;rwa [cb,cb] at this
   refine bC ?_
   first | (rw [qq hE];exact dO rfl (.pure rfl)) | (rw [sY hE];exact dO rfl (.pure rfl)) | (rw [tZ hE];exact dO rfl (.pure rfl))
namespace amw
theorem aw {p q:Prop} (k:q) (e:p=q:=by simp only [e1,e2,e3,e4,p1,p2,p3,q1,q2,q3,l1,t0,t1,r1,r2,r3,r4,Nat.zero_add,Nat.reduceMul,Nat.reduceAdd,b1,b2,b3,b4,b5,b6,i1,i2,i3,i4,i5,i6,Nat.reduceBEq,fU,List.take_zero,List.take_nil,List.nil_append,aG fX,LV.kill,fo,eO,dW,List.length_cons,List.length_nil];exact rfl):p:=e.mpr k
end amw
open amw in
theorem aA6 (m n:Nat) (fS:(aq m).length<=1099511627776) (mr:(aq n).length<=1099511627776):ax ak 95 [bp m,bp n] (bp (m+n)):=by
 refine aR Tryz.func95 ?_
 refine aop ?_
 refine jm (az.own (t:=5) 50 1 rfl rfl) ?_
 refine iv (fun(o:List Nat) (c:Nat) L=>((((((St.mk L.slot (hp [(50,⟨1,o.map bG,true⟩)])).put (some 0) (bp m)).put (some 1) (bp n)).put (some 5) (.ref 50 1 0 o.length)).put (some 6) (cX c)).put (some 7) (ae o.length))) (fun o c=>c<=1/\bV o/\(o.length<=max (aq m).length (aq n).length\/(o.length=max (aq m).length (aq n).length+1/\c=0))/\val o+4294967296 ^ o.length*c=val ((aq m).take o.length)+val ((aq n).take o.length)/\(o.length=max (aq m).length (aq n).length+1->4294967296 ^ (o.length-1)<=m+n)) (fun o c=>max (aq m).length (aq n).length+2-o.length) ([]) 0 ⟨J,(by intro x hx;cases hx),.inl (bS _),by simp [val],by simp⟩ ?_
 rintro o c L1 ⟨hc,cq,dj,hv,kP⟩
 have tL:=ix m o.length
 have hyk:=ix n o.length
 refine aH ?_
 refine ia (fun L=>∃ (t:Bool) (L1:St),(t=decide (o.length<max (aq m).length (aq n).length\/c≠0))/\L=(((((((St.mk L1.slot (hp [(50,⟨1,o.map bG,true⟩)])).put (some 0) (bp m)).put (some 1) (bp n)).put (some 5) (.ref 50 1 0 o.length)).put (some 6) (cX c)).put (some 7) (ae o.length)).put (some 21) (bL t))) ?_ ?_
 ·refine ay ?_
  refine ep 12 rfl ?_ ?_<;>intro abL h12
  ·refine bC ?_
   exact⟨true,_,by symm;rw [decide_eq_true_iff];omega,((aj (aj (aj (aj (aj (aj (bJ cl) cl) cl) cl) cl) cl) cl)).symm⟩
  ·refine ay ?_
   refine ep 18 rfl ?_ ?_<;>intro aau xT
   ·refine a7 ?_
    exact⟨true,_,by symm;rw [decide_eq_true_iff];omega,((aj (aj (aj (aj (aj (aj (bJ cl) cl) cl) cl) cl) cl) cl)).symm⟩
   ·refine a7 ?_
    exact⟨((c:Int) != 0),_,by rw [ags,bne_iff_ne,decide_eq_true_iff];omega,((aj (aj (aj (aj (aj (aj (bJ cl) cl) cl) cl) cl) cl) cl)).symm⟩
 ·rintro _ ⟨t,LR4,ht,rfl⟩
  refine ao ?_
  refine aL rfl ?_ ?_<;>intro abv h21
  ·rw [ht,decide_eq_true_iff] at abv
   have hg:=abv
   refine dk ?_
   refine ia (fun L=>∃ (s1:Nat) (L1:St),(s1=c+(aq m).getD o.length 0)/\L=((((((St.mk L1.slot (hp [(50,⟨1,o.map bG,true⟩)])).put (some 0) (bp m)).put (some 1) (bp n)).put (some 5) (.ref 50 1 0 o.length)).put (some 6) (cX s1)).put (some 7) (ae o.length))) ?_ ?_
   ·refine aL rfl ?_ ?_<;>intro zP h27
    ·refine bC ?_
     exact⟨c+(aq m).getD o.length 0,_,rfl,((aj (aj (aj (aj (aj (bJ cl) cl) cl) cl) cl) cl)).symm⟩
    ·refine aH ?_
     exact⟨c,_,by rw [uF (aq m) o.length J];rfl,((aj (aj (aj (aj (aj (bJ cl) cl) cl) cl) cl) cl)).symm⟩
   ·rintro _ ⟨s1,aBX,il,rfl⟩
    refine bh ?_
    refine ia (fun L=>∃ (s:Nat) (L1:St),(s=c+(aq m).getD o.length 0+(aq n).getD o.length 0)/\L=((((((St.mk L1.slot (hp [(50,⟨1,o.map bG,true⟩)])).put (some 0) (bp m)).put (some 1) (bp n)).put (some 5) (.ref 50 1 0 o.length)).put (some 6) (cX s)).put (some 7) (ae o.length))) ?_ ?_
    ·refine aL rfl ?_ ?_<;>intro aCE h38
     ·refine bC ?_
      exact⟨s1+(aq n).getD o.length 0,_,by rw [il],((aj (aj (aj (aj (aj (bJ cl) cl) cl) cl) cl) cl)).symm⟩
     ·refine aH ?_
      exact⟨s1,_,by rw [il,uF (aq n) o.length J];rfl,((aj (aj (aj (aj (aj (bJ cl) cl) cl) cl) cl) cl)).symm⟩
    ·rintro _ ⟨s,aJm,hs,rfl⟩
     refine bf ?_
     refine bO rfl (.app (news:=[bG (s % 4294967296)]) rfl rfl rfl rfl rfl aW (.inl rfl) ai oX oX abS rR rfl abe (.inl ⟨49,0,_,rfl,by decide,rfl,rfl,by simp,rfl,rfl⟩) bq bq ai) ?_
     refine aQ ?_
     refine bR (az.kill _ 49) ?_
     refine bw ?_
     exact fO (o++[s % 4294967296]) (s/4294967296) ⟨J,alD cq J,by rw [dW];exact aIv hc dj hg hs,by rw [dW];exact aG9 hv hs,by rw [dW];exact aFG hv dj hg⟩ (hm:=by rw [dW];omega)
  ·rw [ht,decide_eq_false_iff_not] at abv
   have hN:=aDJ hc cq dj hv kP abv
   refine bw ?_
   skip
   exact lW [50] rfl rfl (by rw [show bp (m+n)=.list 1 (o.map bG) by rw [<-hN];rfl];exact dH fX rfl rfl rfl)
open acx in
theorem ak7 (m n:Nat) (fS:(aq m).length<=1099511627776) (mr:(aq n).length<=1099511627776) (hle:n<=m):ax ak 173 [bp m,bp n] (bp (m-n)):=by
 have oN:=nL hle
 refine aR Tryz.func173 ?_
 refine bB ?_
 refine dF rfl rfl (.lf (n:=(aq m).length) (m:=(aq m).length) ml ml om om om) ?_
 refine eQ ?_
 refine tz (fun(k:Nat) (o:List Nat) (br:Nat) L=>((((((St.mk L.slot (hp [(12,⟨1,o.map bG,true⟩)])).put (some 0) (bp m)).put (some 1) (bp n)).put (some 5) (.ref 12 1 0 (aq m).length)).put (some 6) (cX br)).put (some 7) (ae k))) (fun k o br=>k<=(aq m).length/\o.length=(aq m).length/\br<=1/\bV o/\val (o.take k)+val ((aq n).take k)=val ((aq m).take k)+4294967296 ^ k*br) (fun k o br=>(aq m).length-k) 0 (aV (aq m).length 0) 0 ⟨bS _,by simp,J,vH _,by simp [val]⟩ ?_
 rintro k o br L1 ⟨hk,dj,nF,cq,hv⟩
 have tL:=ix m k
 have hyk:=ix n k
 refine bB ?_
 refine aL rfl ?_ ?_<;>intro vT sa
 ·refine nc ?_
  refine ia (fun L=>∃ (x:Nat) (L1:St),(x=br+(aq n).getD k 0)/\L=(((((((St.mk L1.slot (hp [(12,⟨1,o.map bG,true⟩)])).put (some 0) (bp m)).put (some 1) (bp n)).put (some 5) (.ref 12 1 0 (aq m).length)).put (some 6) (cX br)).put (some 7) (ae k)).put (some 8) (cX x))) ?_ ?_
  ·refine aL rfl ?_ ?_<;>intro tD rf
   ·refine bC ?_
    exact⟨br+(aq n).getD k 0,_,rfl,((aj (aj (aj (aj (aj (aj (bJ cl) cl) cl) cl) cl) cl) cl)).symm⟩
   ·refine aH ?_
    exact⟨br,_,by rw [uF _ k J];rfl,((aj (aj (aj (aj (aj (aj (bJ cl) cl) cl) cl) cl) cl) cl)).symm⟩
  ·rintro _ ⟨x,aKV,hx,rfl⟩
   refine yE ?_
   refine ia (fun L=>∃ (y2:Nat) (xU:Nat) (L1:St),(((aq m).getD k 0<x/\y2=(aq m).getD k 0+4294967296/\xU=1)\/(x<=(aq m).getD k 0/\y2=(aq m).getD k 0/\xU=0))/\L=((((((((St.mk L1.slot (hp [(12,⟨1,o.map bG,true⟩)])).put (some 0) (bp m)).put (some 1) (bp n)).put (some 5) (.ref 12 1 0 (aq m).length)).put (some 6) (cX xU)).put (some 7) (ae k)).put (some 8) (cX x)).put (some 9) (cX y2))) ?_ ?_
   ·refine aL rfl ?_ ?_<;>intro aCE h38
    ·refine bC ?_
     exact⟨(aq m).getD k 0+4294967296,1,_,.inl ⟨J,rfl,rfl⟩,((aj (aj (aj (aj (aj (aj (aj (bJ cl) cl) cl) cl) cl) cl) cl) cl)).symm⟩
    ·refine aH ?_
     exact⟨(aq m).getD k 0,0,_,.inr ⟨J,rfl,rfl⟩,((aj (aj (aj (aj (aj (aj (aj (bJ cl) cl) cl) cl) cl) cl) cl) cl)).symm⟩
   ·rintro _ ⟨y2,xU,aJm,hf,rfl⟩
    obtain⟨xL,ot,uG,hf4⟩:=aEj J cq nF tL hyk hv hx hf
    refine nc ?_
    exact s8 (k+1) (o.set k ((y2-x) % 4294967296)) xU ⟨J,by simp [dj],ot,uG,hf4⟩
 ·obtain rfl:k=(aq m).length:=by omega
  refine bg ?_
  refine sr [12] su (vj _ iE sP) ?_
  refine aB ?_
  have e:=asU (cZ m) cq dj oN (by rw [cb,cb];exact hle) hv
  rw [vq cq,cb,cb] at e
  have e2:=congrArg val e
  rw [cb,cb] at e2
  rw [<-e2]
  exact dR
open H0 in
theorem aqJ (m n:Nat) (fS:(aq m).length<=1099511627776) (mr:(aq n).length<=1099511627776):ax ak 96 [bp m,bp n] (.a9 [eX (adR m n),iL (abj m n)]):=by
 refine aR Tryz.func96 ?_
 refine bC ?_
 refine cp au (afT _ _ J J) ?_
 refine aQ ?_
 refine aL rfl ?_ ?_<;>intro wg h9
 ·have bZ:m<n:=by unfold lL at h9;split at h9;assumption;split at h9<;>omega
  refine bg ?_
  rw [adR,if_pos bZ,abj,if_pos bZ]
  exact vu rfl (.nil 1) rfl (.pure rfl)
 ·have hle:n<=m:=by
   rcases kD m n with h | h
   ·rw [qq h] at h9;omega
   ·exact h
  refine ay ?_
  refine cp au (ak7 _ _ J J J) ?_
  refine a7 ?_
  rw [agl hle,alf.2 hle]
  exact vu rfl (.pure (kf _)) rfl (.pure rfl)
theorem aFd {x:Nat} (h:0<x):dK x=dK (x/2 ^ 1)+1:=by
 have:=ai0 (n:=x) (k:=1)
 rcases kD x 2 with h1 | h1
 ·obtain rfl:x=1:=by omega
  rfl
 ·rw [this J];omega
open anx in
theorem adv (m n:Nat) (fS:(aq m).length<=1099511627776) (mr:(aq n).length<=1099511627776):ax ak 59 [bp m,bp n] (bp (m*n)):=by
 refine aR Tryz.func59 ?_
 have kh:True:=trivial
 refine bw ?_
 refine dF rfl rfl (.lf (n:=(aq m).length+(aq n).length) (m:=(aq m).length+(aq n).length) ml ml om om om) ?_
 refine bh ?_
 refine iv (fun(i:Nat) (o:List Nat) L=>(((((St.mk L.slot (hp [(14,⟨1,o.map bG,true⟩)])).put (some 0) (bp m)).put (some 1) (bp n)).put (some 5) (.ref 14 1 0 ((aq m).length+(aq n).length))).put (some 6) (ae i))) (fun i o=>i<=(aq m).length/\o.length=(aq m).length+(aq n).length/\bV o/\val o=val ((aq m).take i)*val (aq n)/\∀ p,i+(aq n).length<=p->o.getD p 0=0) (fun i o=>(aq m).length-i) 0 (aV ((aq m).length+(aq n).length) 0) ⟨bS _,by simp,vH _,by simp [val,ajo],fun p _=>apJ _ _⟩ ?_
 rintro i o L1 ⟨hi,dj,cq,hv,hz⟩
 have zH:=ix m i
 refine bB ?_
 refine aL rfl ?_ ?_<;>intro aau xT
 ·refine nm ?_
  refine tz (fun(j:Nat) (o:List Nat) (c:Nat) L=>(((((((St.mk L.slot (hp [(14,⟨1,o.map bG,true⟩)])).put (some 0) (bp m)).put (some 1) (bp n)).put (some 5) (.ref 14 1 0 ((aq m).length+(aq n).length))).put (some 6) (ae i)).put (some 7) (cX c)).put (some 8) (ae j))) (fun j o c=>j<=(aq n).length/\o.length=(aq m).length+(aq n).length/\bV o/\c<4294967296/\val o+4294967296 ^ (i+j)*c=val ((aq m).take i)*val (aq n)+4294967296 ^ i*((aq m).getD i 0*val ((aq n).take j))/\∀ p,i+(aq n).length<=p->o.getD p 0=0) (fun j o c=>(aq n).length-j) 0 o 0 ⟨bS _,dj,cq,J,by rw [hv];simp [val],hz⟩ ?_
  rintro j o c L2 ⟨hj,dj,cq,hc,hv,hz⟩
  have hyj:=ix n j
  have hzj:=iN cq (i+j)
  have hs:=ayl hc zH hyj hzj
  have kh:((i:Int)+(j:Int)).toNat=i+j:=by omega
  refine bB ?_
  refine aL rfl ?_ ?_<;>intro rG vz
  ·refine a7 ?_
   refine aY 22 al ?_
   refine aJZ ?_
   exact s8 (j+1) (o.set (i+j) ((c+((aq m).getD i 0*(aq n).getD j 0+o.getD (i+j) 0)) % 4294967296)) ((c+((aq m).getD i 0*(aq n).getD j 0+o.getD (i+j) 0))/4294967296) ⟨J,by simp [dj],mn cq _ _ (jX _ J),J,awC J hv rfl,aoI J hz⟩
  ·obtain rfl:j=(aq n).length:=by omega
   have aCa:((i:Int)+((aq n).length:Int)).toNat=i+(aq n).length:=by omega
   refine yE ?_
   exact fO (i+1) (o.set (i+(aq n).length) (c % 4294967296)) ⟨J,by simp [dj],mn cq _ _ (jX _ J),by rw [ir hc];exact aqR J J (hz _ (bF _)) rfl rfl hv,asB hz⟩
 ·obtain rfl:i=(aq m).length:=by omega
  refine bg ?_
  refine sr [14] su (vj _ iE sP) ?_
  refine aB ?_
  rw [mQ,cb,cb] at hv
  rw [<-hv]
  exact dR
open H0 in
theorem aEt (m d:Nat) (fS:(aq m).length<=549755813888) (hd:d<4294967296):ax ak 235 [bp m,qe d] (bp (m*d)):=by
 have hld:(aq d).length<=1:=tF.2 hd
 refine aR Tryz.func235 ?_
 refine bh ?_
 refine cp aO (aa8 _ J) ?_
 refine cp au (adv _ _ J J) ?_
 refine aB ?_
 exact dR
open adH in
theorem azi (m d:Nat) (fS:(aq m).length<=1099511627776) (kM:0<d) (hd:d<4294967296):ax ak 231 [bp m,qe d] (.a9 [bp (m/d),qe (m % d)]):=by
 refine aR Tryz.func231 ?_
 have ej:True:=trivial
 have ek:True:=trivial
 refine bh ?_
 refine dF rfl rfl (.lf (n:=(aq m).length) (m:=(aq m).length) ml ml om om om) ?_
 refine nO ?_
 refine tz (fun(k:Nat) (q:List Nat) (r:Nat) L=>((((((St.mk L.slot (hp [(11,⟨1,q.map bG,true⟩)])).put (some 0) (bp m)).put (some 1) (qe d)).put (some 6) (.ref 11 1 0 (aq m).length)).put (some 7) (cX r)).put (some 8) (iL ((k:Int)-1)))) (fun k q r=>k<=(aq m).length/\q.length=(aq m).length/\bV q/\r<d/\val (q.drop k)*d+r=val ((aq m).drop k)) (fun k q r=>k) ((aq m).length) (aV (aq m).length 0) 0 ⟨bF _,by simp,vH _,kM,by simp [val]⟩ ?_
 rintro k q r L1 ⟨hk,jF,lO,hr,hv⟩
 refine bf ?_
 refine aL rfl ?_ ?_<;>intro vT sa
 ·obtain⟨j,rfl⟩:∃ j,k=j+1:=⟨k-1,J⟩
  have ej:(((j+1:Nat):Int)-1).toNat=j:=by omega
  have ek:(((j+1:Nat):Int)-1)=j:=by omega
  have hxj:=ix m j
  refine yE ?_
  refine ah rfl aeu ?_
  refine lF ?_
  exact s8 j (q.set j ((r*4294967296+(aq m).getD j 0)/d % 4294967296)) ((r*4294967296+(aq m).getD j 0) % d) ⟨J,by simp [jF],mn lO _ _ (jX _ J),jX _ kM,by rw [ir (apk hr hxj)];exact aqf J jF hv rfl⟩
 ·obtain rfl:k=0:=by omega
  refine bg ?_
  refine sr [11] su (vj _ iE sP) ?_
  refine bf ?_
  obtain⟨E1,E2⟩:=arC kM hr lO hv
  rw [vq lO] at E1
  have E3:=congrArg val E1
  rw [cb,cb,cb] at E3
  rw [cb] at E2
  rw [<-E3,<-E2]
  have E4:r % 4294967296=r:=ir J
  refine vu rfl (.pure (kf _)) rfl ?_
  show da _ (qe (r % 4294967296)) (qe r)
  rw [E4]
  exact .pure rfl
open af2 in
theorem aKa (m:Nat) (fS:(aq m).length<=1099511627776):ax ak 232 [bp m] (iL (dK m)):=by
 refine aR Tryz.func232 ?_
 have ej:True:=trivial
 refine dk ?_
 refine aL rfl ?_ ?_<;>intro h7r h7
 ·have hz:m=0:=sk.1 (oC J)
  subst hz
  refine bf ?_
  exact dR
 ·have kp:0<(aq m).length:=by omega
  have ej:(((aq m).length:Int)-1).toNat=(aq m).length-1:=by omega
  have hz:=apj kp
  have abG:=ix m ((aq m).length-1)
  have anC:dK ((aq m).getD ((aq m).length-1) 0)<=32:=vK.2 abG
  refine yE ?_
  refine iv (fun(x q:Nat) L=>(((St.mk L.slot (hp [])).put (some 3) (ae q)).put (some 4) (qe x))) (fun x q=>q+dK x=dK m/\x<4294967296/\dK m<=35184372088832) (fun x q=>x) ((aq m).getD ((aq m).length-1) 0) (32*((aq m).length-1)) ⟨hz,abG,J⟩ ?_
  rintro x q L1 ⟨hq,hx,hbm⟩
  refine bf ?_
  refine aL rfl ?_ ?_<;>intro agy h19
  ·have lH:0<x:=by omega
   refine dk ?_
   refine ah rfl (.sh rfl rfl (aes (m:=1) ai)) ?_
   refine aQ ?_
   exact fO (x/2 ^ 1) (q+1) ⟨by have:=aFd lH;omega,J,hbm⟩
  ·obtain rfl:x=0:=by omega
   have gJ:dK 0=0:=rfl
   obtain rfl:q=dK m:=by omega
   refine bw ?_
   exact dR
end Go.Proofs.YthcadngkamjpdaaGreat
namespace Go.Lg
open Go.Proofs.YthcadngkamjpdaaGreat in
theorem az.mv {L:St} {t b sz off len:Nat} {blk:bA} (d:Nat) (gJ:b≠0) (kM:d≠0) (gX:b≠d) (h:L.slot t=.ref b sz off len) (hb:L.heap b=some blk) (hd:L.heap d=none) :
  az L (((L.kill b).bU d (some ⟨blk.sz,bH b blk.vals,blk.mt⟩)).put (some t) (.ref d sz off len)):=by
 rintro n W X Z0 a w ⟨eh,bT,μ,Z,hc,hr⟩
 have ab4:=vF hc hd
 have hk:=hc.kill b gJ
 have xn:=aef b hr
 let bD:Nat->Option Nat:=fun c=>if c=d then μ b else ko μ b c
 have hm:∀ c id,ko μ b c=some id->bD c=some id:=fun c id hh=>by
  have:c≠d:=by
   rintro rfl
   unfold ko at hh;split at hh
   ·cases hh
   ·rw [ab4] at hh;cases hh
  simp only [bD,if_neg this];exact hh
 have hinv:∀ c id,bD c=some id->(c=d/\μ b=some id)\/(c≠d/\ko μ b c=some id):=fun c id hh=>by
  simp only [bD] at hh;split at hh
  ·rename_i e;exact .inl ⟨e,hh⟩
  ·rename_i e;exact .inr ⟨e,hh⟩
 have iP:∀ c id,ko μ b c=some id->c≠b/\μ c=some id:=fun c id h=>by
  unfold ko at h;split at h
  ·cases h
  ·exact⟨by assumption,h⟩
 have hbb:∀ id,ko μ b b=some id->False:=fun id hh=>(iP b id hh).1 rfl
 have aog:∀ {bk:bA} {id:Nat},ug Z (ko μ b) w bk id->ug Z bD w bk id:=fun hh=>ug.mono (fun _ h=>h) hm (Frame.refl _ _ _) rfl hh
 refine⟨eh,bT,bD,Z,?_,fun s=>?_⟩
 ·rw [mz]
  refine⟨hc.cx,hc.lg,hc.jy,hc.lh,?_,?_,?_,hc.nV,?_,?_,?_,?_⟩
  ·intro c c' id h1 h2
   rcases hinv c id h1 with⟨e1,g1⟩ | ⟨e1,g1⟩<;>rcases hinv c' id h2 with⟨e2,g2⟩ | ⟨e2,g2⟩
   ·rw [e1,e2]
   ·have:=iP c' id g2;exact absurd (hc.inj _ _ id this.2 g1) this.1
   ·have:=iP c id g1;exact absurd (hc.inj _ _ id this.2 g2) this.1
   ·exact hc.inj c c' id (iP c id g1).2 (iP c' id g2).2
  ·intro c id h1
   rcases hinv c id h1 with⟨e1,g1⟩ | ⟨e1,g1⟩
   ·exact hc.own b id g1
   ·exact hc.own c id (iP c id g1).2
  ·intro c id h1 hx
   rcases hinv c id h1 with⟨e1,g1⟩ | ⟨e1,g1⟩
   ·exact absurd (hc.x0 b id g1 hx) gJ
   ·exact hc.x0 c id (iP c id g1).2 hx
  ·intro id hx
   have h0:=hk.x1 id hx
   exact hm 0 id h0
  ·intro c id bk h1 lY fu
   rcases hinv c id h1 with⟨e1,g1⟩ | ⟨e1,g1⟩
   ·subst e1
    simp only [St.bU,if_true,fv] at lY
    subst lY
    exact hc.ja b id blk g1 hb fu
   ·simp only [St.bU,if_neg e1] at lY
    exact hk.ja c id bk g1 lY fu
  ·intro c id bk h1 lY fu
   rcases hinv c id h1 with⟨e1,g1⟩ | ⟨e1,g1⟩
   ·subst e1
    simp only [St.bU,if_true,fv] at lY
    subst lY
    exact hc.ca b id blk g1 hb fu
   ·simp only [St.bU,if_neg e1] at lY
    exact hk.ca c id bk g1 lY fu
  ·intro c id h1
   rcases hinv c id h1 with⟨e1,g1⟩ | ⟨e1,g1⟩
   ·subst e1
    obtain⟨bk,q1,cc,T,part,rest,q2,q3,q4⟩:=hc.heap b id g1
    rw [hb] at q1;cases q1
    refine⟨⟨blk.sz,bH b blk.vals,blk.mt⟩,by simp [St.bU],aog ⟨cc,T,part,rest,q2,q3,?_⟩⟩
    exact a6.kill (fun _ h=>h) (fun k id hk h=>by simp [ko,hk,h]) (Frame.refl _ _ _) _ _ q4
   ·obtain⟨bk,q1,q2⟩:=hk.heap c id g1
    exact⟨bk,by simp only [St.bU,if_neg e1];exact q1,aog q2⟩
 ·rw [iI]
  split
  ·rename_i eI
   subst eI
   have e:=hr s
   rw [h] at e
   refine⟨by simp [LV.isAgg],fun hh=>?_⟩
   have e2:=e.2 rfl
   simp only [aJ] at e2 ⊢
   rcases e2 with e2 | ⟨id,cap,c,T,fz,q1,q2,q3⟩
   ·exact .inl e2
   ·exact .inr ⟨id,cap,c,T,fz,q1,by simp only [bD,if_true];exact q2,q3⟩
  ·exact bu.mono (fun _ h=>h) hm (Frame.refl _ _ _) (xn s)
end Go.Lg
namespace Go.Proofs.YthcadngkamjpdaaGreat
open Go.Lg
theorem alb {s:Nat} (h:s<32):dM .quo .i64 (s:Nat) 32=some (.int .i64 0):=by
 have:((s:Int)).tdiv 32=0:=by rw [Int.tdiv_eq_ediv_of_nonneg J];omega
 simp [dM,this,IntWalk.i64_in]
theorem axC {s:Nat} (h:s<32):dM .rem .i64 (s:Nat) 32=some (.int .i64 (s:Nat)):=by
 have:((s:Int)).tmod 32=s:=by rw [Int.tmod_eq_emod_of_nonneg J];omega
 simp [dM,this]
theorem aCq {m s c x:Nat} {o:List Nat} (hv:val o+4294967296 ^ o.length*c=val ((aq m).take o.length)*2 ^ s) (hx:x=(aq m).getD o.length 0*2 ^ s+c) :
  val (o++[x % 4294967296])+4294967296 ^ (o.length+1)*(x/4294967296)=val ((aq m).take (o.length+1))*2 ^ s:=by
 rw [ak1,pv,jw,iw,fJ (4294967296 ^ o.length) ((aq m).getD o.length 0)]
 have h1:=abT (4294967296 ^ o.length) x
 have h2:4294967296 ^ o.length*x=4294967296 ^ o.length*((aq m).getD o.length 0*2 ^ s)+4294967296 ^ o.length*c:=by rw [hx,eA]
 omega
theorem aGj {m s c:Nat} {o:List Nat} (hv:val o+4294967296 ^ o.length*c=val ((aq m).take o.length)*2 ^ s) (ho:o.length=(aq m).length) (hc:c<4294967296):val (o++[c % 4294967296])=m*2 ^ s:=by
 rw [ak1,ir hc,hv,afU J]
theorem aEU {s x y:Nat} (hs:s<32) (hx:x<4294967296):(y*4294967296+x)/2 ^ s % 4294967296=x/2 ^ s+y % 2 ^ s*2 ^ (32-s):=by
 have hd:4294967296=2 ^ (32-s)*2 ^ s:=by rw [<-mA,show 32-s+s=32 by omega]
 have hp:0<2 ^ s:=lC J
 obtain⟨_,h2⟩:=anI (z:=y) (show s<=32 by omega) hx
 have e1:(y*4294967296+x)/2 ^ s=y*2 ^ (32-s)+x/2 ^ s:=by
  rw [show y*4294967296+x=x+(y*2 ^ (32-s))*2 ^ s by rw [fJ,<-hd];omega,Nat.add_mul_div_right _ _ hp];omega
 have e2:y*2 ^ (32-s)=y % 2 ^ s*2 ^ (32-s)+4294967296*(y/2 ^ s):=by
  have e3:y*2 ^ (32-s)=(2 ^ s*(y/2 ^ s)+y % 2 ^ s)*2 ^ (32-s):=by rw [yG]
  rw [e3,iw,hd,Nat.mul_right_comm,eH (2 ^ s) (2 ^ (32-s))];omega
 rw [e1,e2,show y % 2 ^ s*2 ^ (32-s)+4294967296*(y/2 ^ s)+x/2 ^ s=(y % 2 ^ s*2 ^ (32-s)+x/2 ^ s)+4294967296*(y/2 ^ s) by omega,Nat.add_mul_mod_self_left,ir h2]
 omega
theorem aDD {i s:Nat} {w o:List Nat} (hi:i<w.length) (hs:s<32) (hv:2 ^ s*val (w.take i)=val (o.take i)+4294967296 ^ i*(o.getD i 0 % 2 ^ s)) :
  2 ^ s*val ((w.set i (o.getD i 0/2 ^ s+o.getD (i+1) 0 % 2 ^ s*2 ^ (32-s))).take (i+1))=val (o.take (i+1))+4294967296 ^ (i+1)*(o.getD (i+1) 0 % 2 ^ s):=by
 have hd:4294967296=2 ^ s*2 ^ (32-s):=by rw [<-mA,show s+(32-s)=32 by omega]
 rw [aaS _ _ _ hi,eA,hv,pv,jw]
 have h1:=yG (o.getD i 0) (2 ^ s)
 generalize o.getD i 0/2 ^ s=q at *
 generalize o.getD i 0 % 2 ^ s=t at *
 generalize o.getD (i+1) 0 % 2 ^ s=u at *
 generalize 4294967296 ^ i=p at *
 rw [<-h1]
 have e1:2 ^ s*(p*(q+u*2 ^ (32-s)))=p*(2 ^ s*q)+p*4294967296*u:=by
  rw [hd,eA,eA]
  simp only [fJ,Nat.mul_left_comm,eH]
 rw [e1,eA]
 omega
theorem azl {r s:Nat} {o:List Nat} (dj:o.length=(aq (r*2 ^ s)).length) (hv:2 ^ s*val (o.take (aq (r*2 ^ s)).length)=val ((aq (r*2 ^ s)).take (aq (r*2 ^ s)).length)+4294967296 ^ (aq (r*2 ^ s)).length*((aq (r*2 ^ s)).getD (aq (r*2 ^ s)).length 0 % 2 ^ s)):val o=r:=by
 rw [uF _ _ (bF _),as6,zC,mg,mQ,<-dj,mQ,cb,eH r] at hv
 exact Nat.eq_of_mul_eq_mul_left (lC J) hv
theorem aJV (k:Nat):((aV k 0).map bG).take k=(aV k 0).map bG:=by rw [cE aW]
theorem aJi {m:Nat} (k:Nat) (h:0<(aq m).length):aq (m*4294967296 ^ k)=aV k 0++aq m:=by
 have hv:val (aV k 0++aq m)=m*4294967296 ^ k:=by rw [aee,ajo,cb];simp [eH]
 refine(auc (aqC (vH k) (cZ m)) hv (.inr ?_)).symm
 have:=agO h
 simp only [List.length_append,List.length_replicate]
 rw [show k+(aq m).length-1=(aq m).length-1+k by omega,mA]
 exact eT _ this
open amw in
theorem apZ (m s:Nat) (fS:(aq m).length<=549755813888) (hs:s<32):ax ak 233 [bp m,ae s] (bp (m*2 ^ s)):=by
 obtain⟨ju,tC⟩:=agc hs
 refine aR Tryz.func233 ?_
 refine bg ?_
 refine ah rfl (.bin rfl rfl (alb hs)) ?_
 refine dF rfl rfl (.lf (n:=0) (m:=0) ml ml om om om) ?_
 refine eQ ?_
 refine jm (az.mv (t:=5) (b:=10) 31 ai ai ai rfl rfl rfl) ?_
 refine iv (fun(o:List Nat) (c:Nat) L=>((((((St.mk L.slot (hp [(31,⟨1,o.map bG,true⟩)])).put (some 0) (bp m)).put (some 1) (ae s)).put (some 5) (.ref 31 1 0 o.length)).put (some 6) (cX c)).put (some 7) (ae o.length))) (fun o c=>o.length<=(aq m).length/\c<2 ^ s/\bV o/\val o+4294967296 ^ o.length*c=val ((aq m).take o.length)*2 ^ s) (fun o c=>(aq m).length-o.length) ([]) 0 ⟨bS _,tC,(by intro x hx;cases hx),by simp [val]⟩ ?_
 rintro o c L1 ⟨dj,hc,cq,hv⟩
 have tL:=ix m o.length
 have o5:=aoH tL ju
 refine bB ?_
 refine aL rfl ?_ ?_<;>intro um nA
 ·refine dk ?_
  refine ah rfl (.bin rfl rfl (axC hs)) ?_
  refine ah rfl (.sh rfl rfl (avQ J (by(try simp only [t1,fU]);omega))) ?_
  refine ah rfl (.bin rfl rfl (orV hc (by(try simp only [t1,fU]);omega))) ?_
  refine bB ?_
  refine bO rfl (.app (news:=[bG (((aq m).getD o.length 0*2 ^ s+c) % 4294967296)]) rfl rfl rfl rfl rfl aW (.inl rfl) ai oX oX abS rR rfl abe (.inl ⟨30,0,_,rfl,by decide,rfl,rfl,by simp,rfl,rfl⟩) bq bq ai) ?_
  refine aQ ?_
  refine bR (az.kill _ 30) ?_
  refine bw ?_
  exact fO (o++[((aq m).getD o.length 0*2 ^ s+c) % 4294967296]) (((aq m).getD o.length 0*2 ^ s+c)/4294967296) ⟨by rw [dW];omega,auK tL hc,alD cq J,by rw [dW];exact aCq hv rfl⟩ (hm:=by rw [dW];omega)
 ·have hoe:o.length=(aq m).length:=by omega
  have hV:=aGj hv hoe (show c<4294967296 by omega)
  refine bC ?_
  refine bO rfl (.app (news:=[bG (c % 4294967296)]) rfl rfl rfl rfl rfl aW (.inr rfl) ai oX oX abS rR rfl abe (.inl ⟨37,0,_,rfl,by decide,rfl,rfl,by simp,rfl,rfl⟩) bq bq ai) ?_
  simp only [aG fX,fo,eO,dW,List.length_cons,List.length_nil]
  refine sr [38] su (vj (o++[c % 4294967296]) (alD cq J) (by rw [dW];omega)) ?_
  refine aB ?_
  rw [<-hV]
  exact dR
namespace axu
theorem aw {p q:Prop} (k:q) (e:p=q:=by simp only [e1,e2,e3,e4,p1,p2,p3,q1,q2,q3,l1,t0,t1,r1,r2,r3,r4,Nat.zero_add,Nat.reduceMul,Nat.reduceAdd,b1,b2,b3,b4,b5,b6,i1,i2,i3,i4,i5,i6,Nat.reduceBEq,fU,List.drop_zero,mh,eyy];exact rfl):p:=e.mpr k
end axu
open axu in
theorem aJW (r s:Nat) (fS:(aq (r*2 ^ s)).length<=549755813888) (hs:s<32):ax ak 236 [bp (r*2 ^ s),ae s] (bp r):=by
 obtain⟨ju,tC⟩:=agc hs
 have aaB:=aqK (l:=aq (r*2 ^ s)) (r:=r) (show s<=32 by omega) (cb _)
 refine aR Tryz.func236 ?_
 have mh:True:=trivial
 have eyy:True:=trivial
 refine bB ?_
 refine ah rfl (.bin rfl rfl (alb hs)) ?_
 refine a7 ?_
 refine aL rfl ?_ ?_<;>intro abL h12
 ·have hm:r*2 ^ s=0:=sk.1 (oC J)
  have lE:r=0:=by rcases Nat.mul_eq_zero.1 hm with h | h<;>omega
  subst lE
  refine bf ?_
  exact dO rfl (.nil 1)
 ·refine ay ?_
  refine ah rfl (.bin rfl rfl (alb hs)) ?_
  refine ah rfl (.abJ (a:=0) fX rfl oX rR rfl om) ?_
  refine bf ?_
  refine dF rfl rfl (.lf (n:=(aq (r*2 ^ s)).length) (m:=(aq (r*2 ^ s)).length) ml ml om om om) ?_
  refine bh ?_
  refine iv (fun(i:Nat) (o:List Nat) L=>(((((St.mk L.slot (hp [(19,⟨1,o.map bG,true⟩)])).put (some 0) (bp (r*2 ^ s))).put (some 1) (ae s)).put (some 5) (.ref 19 1 0 (aq (r*2 ^ s)).length)).put (some 6) (ae i))) (fun i o=>i<=(aq (r*2 ^ s)).length/\o.length=(aq (r*2 ^ s)).length/\bV o/\2 ^ s*val (o.take i)=val ((aq (r*2 ^ s)).take i)+4294967296 ^ i*((aq (r*2 ^ s)).getD i 0 % 2 ^ s)) (fun i o=>(aq (r*2 ^ s)).length-i) 0 (aV (aq (r*2 ^ s)).length 0) ⟨bS _,by simp,vH _,by rw [aaB];simp [val]⟩ ?_
  rintro i o L1 ⟨hi,dj,cq,hv⟩
  have mh:((i:Int)+1).toNat=i+1:=by omega
  have zH:=ix (r*2 ^ s) i
  have hyi:=ix (r*2 ^ s) (i+1)
  obtain⟨hh1,hh2⟩:=anI (z:=(aq (r*2 ^ s)).getD (i+1) 0) (show s<=32 by omega) zH
  refine bB ?_
  refine aL rfl ?_ ?_<;>intro tD rf
  ·refine yE ?_
   refine ia (fun L=>∃ (y:Nat) (L1:St),(y=(aq (r*2 ^ s)).getD (i+1) 0*4294967296+(aq (r*2 ^ s)).getD i 0)/\L=((((((St.mk L1.slot (hp [(19,⟨1,o.map bG,true⟩)])).put (some 0) (bp (r*2 ^ s))).put (some 1) (ae s)).put (some 5) (.ref 19 1 0 (aq (r*2 ^ s)).length)).put (some 6) (ae i)).put (some 7) (cX y))) ?_ ?_
   ·refine aL rfl ?_ ?_<;>intro wx uK
    ·refine bg ?_
     refine ah rfl (.sh rfl rfl (aeJ (by(try simp only [t1,fU,mh]);omega))) ?_
     refine ah rfl (.bin rfl rfl (orC (by(try simp only [t1,fU]);omega) (by(try simp only [t1,fU,mh]);omega))) ?_
     refine aQ ?_
     exact⟨(aq (r*2 ^ s)).getD (i+1) 0*4294967296+(aq (r*2 ^ s)).getD i 0,_,rfl,((aj (aj (aj (aj (aj (bJ cl) cl) cl) cl) cl) cl)).symm⟩
    ·refine aH ?_
     exact⟨(aq (r*2 ^ s)).getD i 0,_,by rw [uF _ (i+1) J,sb,fg],((aj (aj (aj (aj (aj (bJ cl) cl) cl) cl) cl) cl)).symm⟩
   ·rintro _ ⟨y,aLt,hy,rfl⟩
    have eyy:y/2 ^ s % 4294967296=((aq (r*2 ^ s)).getD i 0/2 ^ s+(aq (r*2 ^ s)).getD (i+1) 0 % 2 ^ s*2 ^ (32-s)):=by rw [hy];exact aEU hs zH
    refine ay ?_
    refine ah rfl (.bin rfl rfl (axC hs)) ?_
    refine ah rfl (.sh rfl rfl (aes (m:=s) (by show s<=64;omega))) ?_
    refine bw ?_
    exact fO (i+1) (o.set i ((aq (r*2 ^ s)).getD i 0/2 ^ s+(aq (r*2 ^ s)).getD (i+1) 0 % 2 ^ s*2 ^ (32-s))) ⟨J,by simp [dj],mn cq _ _ J,aDD J hs hv⟩
  ·obtain rfl:i=(aq (r*2 ^ s)).length:=by omega
   refine bg ?_
   refine sr [19] su (vj _ iE sP) ?_
   refine aB ?_
   have hV:=azl dj hv
   rw [<-hV]
   exact dR
namespace axc
theorem aw {p q:Prop} (k:q) (e:p=q:=by simp only [e1,e2,e3,e4,p1,p2,p3,q1,q2,q3,l1,t0,t1,r1,r2,r3,r4,Nat.zero_add,Nat.reduceMul,Nat.reduceAdd,b1,b2,b3,b4,b5,b6,i1,i2,i3,i4,i5,i6,Nat.reduceBEq,List.take_zero,List.take_nil,List.nil_append,aG fX,LV.kill,fo,eO,dW,List.length_cons,List.length_nil,aJV,<-List.map_append];exact rfl):p:=e.mpr k
end axc
open axc in
theorem aw6 (m k:Nat) (fS:(aq m).length<=1099511627776) (hk:k<=1099511627776):ax ak 234 [bp m,ae k] (bp (m*4294967296 ^ k)):=by
 refine aR Tryz.func234 ?_
 refine dk ?_
 refine aL rfl ?_ ?_<;>intro h7r h7
 ·have hm:m=0:=sk.1 (oC J)
  subst hm
  refine bf ?_
  rw [sb]
  exact dO rfl (.nil 1)
 ·have hE:=aJi k (show 0<(aq m).length by omega)
  refine a7 ?_
  refine dF rfl rfl (.lf (n:=k) (m:=k) ml ml om om om) ?_
  refine ao ?_
  refine bO rfl (.app (news:=(aq m).map bG) rfl rfl rfl rfl rfl aW (.inr rfl) ai oX oX abS rR rfl abe (.inr (.inl rfl)) bq bq ai) ?_
  refine aB ?_
  rw [show bp (m*4294967296 ^ k)=.list 1 ((aV k 0++aq m).map bG) by rw [<-hE];rfl]
  exact lW [11] rfl rfl (dH fX rfl rfl aW)
theorem aBp (l:List Nat) (k:Nat):val l=val (l.take k)+4294967296 ^ k*val (l.drop k):=by
 rcases alI k l.length with h | h
 ·exact tp l k h
 ·rw [cE h,kB h];simp [val]
theorem arb (l:List Nat) (k:Nat):val (l.drop k)=l.getD k 0+4294967296*val (l.drop (k+1)):=by
 rcases kD k l.length with h | h
 ·exact oS h
 ·rw [kB h,kB J,uF _ _ h];rfl
theorem afC {a:Nat} (h:1<=a) (h2:a<=9223372036854775807):dM .sub .i64 (a:Nat) 1=some (.int .i64 ((a-1:Nat):Int)):=by
 rw [aaa J J];congr 2;omega
theorem aER {n:Nat} (h:0<(aq n).length):(aq n).drop ((aq n).length-1)=aq ((aq n).getD ((aq n).length-1) 0):=by
 have h1:=afo (aff n) h
 have h2:=ix n ((aq n).length-1)
 rw [ac0 J h2]
 rw [List.drop_eq_getElem_cons J,kB J,bE,List.getElem?_eq_getElem J]
 rfl
theorem aAf {R V n j:Nat} (hn:(aq V).length=n+1) (bZ:R<V*4294967296 ^ (j+1)) (hv:0<(aq V).getD n 0) :
  R/4294967296 ^ j/V<=min (((aq R).getD (j+(n+1)) 0*4294967296+(aq R).getD (j+n) 0)/(aq V).getD n 0) 4294967295:=by
 have kY:0<V:=uN (fun h=>by rw [h,we] at hn;cases hn)
 have hVn:V<4294967296 ^ (n+1):=uy J
 have hz:=ahH (ul:=aq R) (n:=n+1) (j:=j) hVn (by rw [cb];exact bZ)
 have hq2:R/4294967296 ^ j/V<4294967296:=by
  rw [nw kY,nw (uj j),eH 4294967296,fJ,<-Nat.pow_succ']
  exact bZ
 refine Nat.le_min.2 ⟨?_,J⟩
 rw [yl hv]
 have hVs:=tp (aq V) n J
 have hVd:val ((aq V).drop n)=(aq V).getD n 0:=by
  rw [oS J,kB J];simp [val]
 rw [hVd,cb] at hVs
 have hR:R/4294967296 ^ (j+n)=(aq R).getD (j+(n+1)) 0*4294967296+(aq R).getD (j+n) 0:=by
  have e:=aBp (aq R) (j+n)
  rw [cb] at e
  have hl:val ((aq R).take (j+n))<4294967296 ^ (j+n):=tE (xc (cZ R) _) bq
  have hd:val ((aq R).drop (j+n))=(aq R).getD (j+(n+1)) 0*4294967296+(aq R).getD (j+n) 0:=by
   have z:val ((aq R).drop (j+n+2))=0:=af8 (fun p=>by rw [afA];exact hz _ J)
   rw [arb,arb,z,show j+n+1=j+(n+1) by omega];omega
  rw [<-hd]
  conv=>lhs;rw [e]
  rw [Nat.add_mul_div_left _ _ (uj _),aaM hl,fg]
 rw [<-hR,mA,<-Nat.div_div_eq_div_mul,yl (uj n),fJ]
 refine bb (lr _ ?_) (arc (R/4294967296 ^ j) V)
 rw [eH]
 omega
theorem aAP {R V j d:Nat} (hV:0<V) (h:R<V*d*4294967296 ^ j):R/4294967296 ^ j/V<d:=by
 rw [nw hV,nw (uj j),eH d V];exact h
theorem az5 {R V j d:Nat} (hV:0<V) (h:V*d*4294967296 ^ j<=R):d<=R/4294967296 ^ j/V:=by
 rw [yl hV,yl (uj j),eH d V];exact h
theorem aEY {R V j d A:Nat} {ql:List Nat} (hV:0<V) (hd:d=R/4294967296 ^ j/V) (hp:V*d*4294967296 ^ j<=R) (hj:j<ql.length) (hv:R+V*4294967296 ^ (j+1)*val (ql.drop (j+1))=A) :
  R-V*d*4294967296 ^ j+V*4294967296 ^ j*val ((ql.set j d).drop j)=A/\R-V*d*4294967296 ^ j<V*4294967296 ^ j:=by
 have:=arR (ul:=aq (R-V*d*4294967296 ^ j)) (ul0:=aq R) (ql:=ql) (x:=d) (j:=j) (U0:=A) hV (by rw [cb];exact hd) (by rw [cb,cb,eH d V,eH (4294967296 ^ j)];omega) hj (by rw [cb];exact hv)
 rw [cb] at this
 exact this
theorem ayy {m n L K s:Nat} (hL:(aq (n*2 ^ s)).length=L) (h0:0<L) (hK:K+L=(aq (m*2 ^ s)).length+1):m*2 ^ s<n*2 ^ s*4294967296 ^ K:=by
 have h1:m*2 ^ s<4294967296 ^ (aq (m*2 ^ s)).length:=uy (bF _)
 have h2:=agO (m:=n*2 ^ s) J
 refine abQ h1 ?_
 rw [show (aq (m*2 ^ s)).length=(L-1)+K by omega,mA,<-hL]
 exact eT _ h2
theorem ayZ {m s k:Nat} (h:(aq m).length<=k) (hs:s<32):(aq (m*2 ^ s)).length<=k+1 :=
 gw h (tF.2 (by have:=agc hs;omega))
theorem axH (k:Nat):(aq (4294967296 ^ k)).length<=k+1:=xf (Nat.pow_lt_pow_right J J)
theorem aC3 {V j d:Nat} (h:1<=d):V*d*4294967296 ^ j-V*4294967296 ^ j=V*(d-1)*4294967296 ^ j:=by
 obtain⟨e,rfl⟩:∃ e,d=e+1:=⟨d-1,J⟩
 rw [rO,eA,kE,iw];omega
theorem aEn {V j d:Nat} (h:1<=d):V*4294967296 ^ j<=V*d*4294967296 ^ j:=by
 refine eT _ ?_
 have:=lr V h
 omega
namespace auV
theorem aw {p q:Prop} (k:q) (e:p=q:=by simp only [e1,e2,e3,e4,p1,p2,p3,q1,q2,q3,l1,t0,t1,r1,r2,r3,r4,Nat.zero_add,Nat.reduceMul,Nat.reduceAdd,b1,b2,b3,b4,b5,b6,i1,i2,i3,i4,i5,i6,Nat.reduceBEq,fU,cb,eln,edz,esm,esn,eLn,edm,ek,oL,nR,eL1,ed,y7,edd,es];exact rfl):p:=e.mpr k
end auV
open auV in
theorem anS (m n:Nat) (fS:(aq m).length<=68719476736) (mr:(aq n).length<=68719476736) (iy:0<n):ax ak 172 [bp m,bp n] (.a9 [bp (m/n),bp (m % n),iL 0]):=by
 refine aR Tryz.func172 ?_
 have eln:True:=trivial
 have edz:True:=trivial
 have esm:True:=trivial
 have esn:True:=trivial
 have eLn:True:=trivial
 have edm:True:=trivial
 have ek:True:=trivial
 have oL:True:=trivial
 have nR:True:=trivial
 have eL1:True:=trivial
 have ed:True:=trivial
 have edd:True:=trivial
 have es:True:=trivial
 refine eQ ?_
 refine aL rfl ?_ ?_<;>intro abv h21
 ·have rV:=sk.1 (oC (show (aq n).length=0 by omega))
  omega
 ·refine bf ?_
  refine cp au (afT _ _ J J) ?_
  refine aQ ?_
  refine aL rfl ?_ ?_<;>intro afB yD
  ·have bZ:m<n:=by unfold lL at yD;split at yD;assumption;split at yD<;>omega
   refine aQ ?_
   refine cp aO (vj _ iE J) ?_
   refine bf ?_
   rw [aaM bZ,ir bZ]
   exact abN [] rfl rfl (.nil 1) rfl (.pure (kf _)) rfl (.pure rfl)
  ·have kP:n<=m:=by
    rcases kD m n with h | h
    ·rw [qq h] at yD;omega
    ·exact h
   have aog:=nL kP
   refine ay ?_
   refine cp aO (agN _ J) ?_
   refine bw ?_
   refine aL rfl ?_ ?_<;>intro ad5 h33
   ·have az0:m<18446744073709551616:=by simpa using ad5
    have esm:(if m<18446744073709551616 then m else 0)=m:=if_pos az0
    have esn:(if n<18446744073709551616 then n else 0)=n:=if_pos J
    have aK0:m/n<=m:=uO _ _
    have aKw:=jX m iy
    refine aQ ?_
    refine cp aO (agN _ J) ?_
    refine bg ?_
    refine aY 11 al ?_
    refine aH ?_
    refine ah rfl aeu ?_
    refine cp aO (aa8 _ J) ?_
    refine aH ?_
    refine ah rfl (.bin rfl rfl (aml J)) ?_
    refine cp aO (aa8 _ J) ?_
    refine bf ?_
    exact aea
   ·refine bh ?_
    refine aL rfl ?_ ?_<;>intro ab9 h49
    ·have mi:=aa2 (n:=n) J
     have eLn:=mi.1
     have lN:=tF.1 (show (aq n).length<=1 by omega)
     have gk:=jX m iy
     refine ay ?_
     simp only [y7,fU,eLn]
     refine cp au (azi m n J iy lN) ?_
     refine bw ?_
     refine cp aO (aa8 _ J) ?_
     refine bf ?_
     exact aea
    ·obtain⟨ln,hL⟩:∃ ln,(aq n).length=ln+1:=⟨(aq n).length-1,J⟩
     have eL1:(aq n).length-1=ln:=by omega
     have mj:=aER (n:=n) J
     rw [eL1] at mj
     have anl:=afo (aff n) (show 0<(aq n).length by omega)
     rw [eL1] at anl
     have htl:=ix n ln
     have htb:dK ((aq n).getD ln 0)<=32:=vK.2 htl
     have aKG:(aq ((aq n).getD ln 0)).length<=1:=tF.2 htl
     obtain⟨s,hs⟩:∃ s,s=32-dK ((aq n).getD ln 0):=⟨_,rfl⟩
     have es:(32:Int)-((dK ((aq n).getD ln 0):Nat):Int)=((s:Nat):Int):=by rw [aqM htb,hs]
     obtain⟨th,jV,ahY,vC⟩:=as9 (n:=ln) hL hs
     have kY:0<n*2 ^ s:=qn iy (lC J)
     have tV:0<(aq (n*2 ^ s)).getD ln 0:=by have:=avd jV ahY;omega
     have hUl:=ayZ fS th
     have hUV:(aq (n*2 ^ s)).length<=(aq (m*2 ^ s)).length:=nL (eT _ kP)
     obtain⟨K,hK⟩:∃ K,K+ln=(aq (m*2 ^ s)).length:=⟨(aq (m*2 ^ s)).length-ln,J⟩
     have eI:=ayy (m:=m) (n:=n) (s:=s) (K:=K) jV J J
     refine bf ?_
     refine ah rfl nh ?_
     refine ah rfl (.abJ (a:=(aq n).length-1) fX rfl oX rR rfl om) ?_
     rw [eL1,mj]
     refine cp aO (aKa _ J) ?_
     refine bg ?_
     refine cp au (apZ _ _ J th) ?_
     refine aH ?_
     refine cp au (apZ _ _ J th) ?_
     refine nO ?_
     refine dF rfl rfl (.lf (n:=K) (m:=K) ml ml om om om) ?_
     refine df ?_
     refine tz (fun(k R:Nat) (ql:List Nat) L=>(((((((St.mk L.slot (hp [(82,⟨1,ql.map bG,true⟩)])).put (some 1) (bp (n*2 ^ s))).put (some 4) (.ref 82 1 0 K)).put (some 13) (ae s)).put (some 14) (ae (ln+1))).put (some 5) (bp R)).put (some 15) (iL ((k:Int)-1)))) (fun k R ql=>k<=K/\ql.length=K/\bV ql/\R<=m*2 ^ s/\R+(n*2 ^ s)*4294967296 ^ k*val (ql.drop k)=m*2 ^ s/\R<(n*2 ^ s)*4294967296 ^ k) (fun k R ql=>k) K (m*2 ^ s) (aV K 0) ⟨bF _,by simp,vH _,bF _,by rw [kB aW];simp [val],eI⟩ ?_
     rintro k R ql L1 ⟨hk,jF,lO,hRU,hv,bZ⟩
     refine bf ?_
     refine aL rfl ?_ ?_<;>intro aGT vJ
     ·obtain⟨j,rfl⟩:∃ j,k=j+1:=⟨k-1,J⟩
      have ek:(((j+1:Nat):Int)-1)=(j:Int):=by omega
      have oL:((j:Int)+((ln+1:Nat):Int)).toNat=j+(ln+1):=by omega
      have nR:((j:Int)+((ln+1:Nat):Int)-1).toNat=j+ln:=by omega
      have hRl:=nL hRU
      have eln:(((ln+1:Nat):Int)-1).toNat=ln:=by omega
      have gk:=ix R (j+(ln+1))
      have mW:=ix R (j+ln)
      have auz:=aAf (R:=R) (n:=ln) (j:=j) jV bZ tV
      have rM:=ix (n*2 ^ s) ln
      refine lF ?_
      refine ia (fun L=>∃ (hi:Nat) (L1:St),(hi=(aq R).getD (j+(ln+1)) 0)/\L=((((((((St.mk L1.slot (hp [(82,⟨1,ql.map bG,true⟩)])).put (some 1) (bp (n*2 ^ s))).put (some 4) (.ref 82 1 0 K)).put (some 13) (ae s)).put (some 14) (ae (ln+1))).put (some 5) (bp R)).put (some 15) (iL (((j+1:Nat):Int)-1))).put (some 16) (cX hi))) ?_ ?_
      ·refine aL rfl ?_ ?_<;>intro aKq h96
       ·refine bC ?_
        exact⟨(aq R).getD (j+(ln+1)) 0,_,rfl,((aj (aj (aj (aj (aj (aj (aj (bJ cl) cl) cl) cl) cl) cl) cl) cl)).symm⟩
       ·refine aH ?_
        exact⟨0,_,(uF _ _ J).symm,((aj (aj (aj (aj (aj (aj (aj (bJ cl) cl) cl) cl) cl) cl) cl) cl)).symm⟩
      ·rintro _ ⟨hi,aKb,iZ,rfl⟩
       refine dk ?_
       refine ia (fun L=>∃ (top:Nat) (L1:St),(top=((aq R).getD (j+(ln+1)) 0*4294967296+(aq R).getD (j+ln) 0))/\L=((((((((St.mk L1.slot (hp [(82,⟨1,ql.map bG,true⟩)])).put (some 1) (bp (n*2 ^ s))).put (some 4) (.ref 82 1 0 K)).put (some 13) (ae s)).put (some 14) (ae (ln+1))).put (some 5) (bp R)).put (some 15) (iL (((j+1:Nat):Int)-1))).put (some 16) (cX top))) ?_ ?_
       ·refine aL rfl ?_ ?_<;>intro aKQ aKh
        ·refine aH ?_
         refine ah rfl (.sh rfl rfl (aeJ J)) ?_
         refine bg ?_
         refine ah rfl (.bin rfl rfl (orU (by simp only [t1,fU,nR];omega) J)) ?_
         refine aQ ?_
         exact⟨hi*4294967296+(aq R).getD (j+ln) 0,_,by rw [iZ],((aj (aj (aj (aj (aj (aj (aj (bJ cl) cl) cl) cl) cl) cl) cl) cl)).symm⟩
        ·refine aH ?_
         refine ah rfl (.sh rfl rfl (aeJ J)) ?_
         refine aQ ?_
         exact⟨hi*4294967296,_,by rw [iZ,uF (aq R) (j+ln) J];exact(mg _).symm,((aj (aj (aj (aj (aj (aj (aj (bJ cl) cl) cl) cl) cl) cl) cl) cl)).symm⟩
       ·rintro _ ⟨top,aLj,htp,rfl⟩
        have aLv:top/(aq (n*2 ^ s)).getD ln 0<=top:=uO _ _
        have edm:(if (4294967295:Int)<((top/(aq (n*2 ^ s)).getD ln 0:Nat):Int) then(4294967295:Int) else((top/(aq (n*2 ^ s)).getD ln 0:Nat):Int))=((min (top/(aq (n*2 ^ s)).getD ln 0) 4294967295:Nat):Int):=by split<;>omega
        subst htp
        obtain⟨d0,kM⟩:∃ d0,d0=min (((aq R).getD (j+(ln+1)) 0*4294967296+(aq R).getD (j+ln) 0)/(aq (n*2 ^ s)).getD ln 0) 4294967295:=⟨_,rfl⟩
        rw [<-kM] at auz edm
        have hdz:d0<4294967296:=by rw [kM];exact xD (aoX _ _) ai
        clear kM
        have edz:d0 % 4294967296=d0:=ir hdz
        have hlz:=gw (adz jV) (tF.2 hdz)
        refine bh ?_
        refine ah rfl (.bin rfl rfl (aiK (by simp only [t1,fU,eln];omega) J)) ?_
        refine bB ?_
        refine cp au (aEt _ _ J J) ?_
        refine ao ?_
        refine cp au (aw6 _ _ (by rw [edz];omega) J) ?_
        refine a7 ?_
        refine dI (fun(d:Nat) L=>(((((((((St.mk L.slot (hp [(82,⟨1,ql.map bG,true⟩)])).put (some 1) (bp (n*2 ^ s))).put (some 4) (.ref 82 1 0 K)).put (some 13) (ae s)).put (some 14) (ae (ln+1))).put (some 5) (bp R)).put (some 15) (iL (((j+1:Nat):Int)-1))).put (some 17) (cX d)).put (some 18) (bp ((n*2 ^ s)*d*4294967296 ^ j)))) (fun d=>R/4294967296 ^ j/(n*2 ^ s)<=d/\d<4294967296) (fun d=>d) d0 ⟨auz,hdz⟩ ?_
        rintro d L2 ⟨hdq,hdB⟩
        have kN:=gw (adz jV) (tF.2 hdB)
        have nN:=gw kN (axH j)
        have td:=gw (adz jV) (axH j)
        refine a7 ?_
        refine cp au (afT _ _ J J) ?_
        refine aQ ?_
        refine aL rfl ?_ ?_<;>intro aKH ahX
        ·have hgt:R<n*2 ^ s*d*4294967296 ^ j:=by unfold lL at ahX;split at ahX;omega;split at ahX;assumption;omega
         have hdq:=aAP kY hgt
         have kM:1<=d:=xD (bS _) hdq
         have alq:=aEn (V:=n*2 ^ s) (j:=j) kM
         have edd:=aC3 (V:=n*2 ^ s) (j:=j) kM
         refine df ?_
         refine cp au (aw6 _ _ J J) ?_
         refine cp au (ak7 _ _ J J alq) ?_
         refine aB ?_
         exact lU (d-1) ⟨J,J⟩
        ·have jf:n*2 ^ s*d*4294967296 ^ j<=R:=by
          rcases kD R (n*2 ^ s*d*4294967296 ^ j) with h | h
          ·rw [sY h] at ahX;omega
          ·exact h
         have hdE:=Nat.le_antisymm (az5 kY jf) hdq
         obtain⟨mi,lN⟩:=aEY kY hdE jf (show j<ql.length by omega) hv
         have ed:d % 4294967296=d:=ir hdB
         refine nO ?_
         refine cp au (ak7 _ _ J J jf) ?_
         refine bh ?_
         exact s8 j (R-(n*2 ^ s)*d*4294967296 ^ j) (ql.set j d) ⟨J,by simp [jF],mn lO _ _ hdB,bb (agn _ _) hRU,mi,lN⟩
     ·obtain rfl:k=0:=by omega
      rw [ks,air,kE] at hv
      rw [air,kE] at bZ
      have hRl:=nL hRU
      obtain⟨hqf,hRf⟩:=asR (ul:=aq R) (ql:=ql) (A:=m) (s:=s) iy (by rw [cb];exact hv) (by rw [cb];exact bZ)
      rw [cb] at hRf
      refine bg ?_
      refine sr [82] su (vj _ iE J) ?_
      refine aH ?_
      rw [hRf]
      refine cp au (aJW (m % n) s (by rw [<-hRf];omega) th) ?_
      refine ay ?_
      rw [<-hqf]
      exact aea
namespace aqG
theorem aw {p q:Prop} (k:q) (e:p=q:=by simp only [e1,e2,e3,e4,p1,p2,p3,q1,q2,q3,l1,t0,t1,r1,r2,r3,r4,Nat.zero_add,Nat.reduceMul,Nat.reduceAdd,b1,b2,b3,b4,b5,b6,i1,i2,i3,i4,i5,i6,Nat.reduceBEq,fU,cb,esm,esn];exact rfl):p:=e.mpr k
end aqG
open aqG in
theorem aF3 (m n:Nat) (fS:(aq m).length<=68719476736) (mr:(aq n).length<=68719476736):ax ak 171 [bp m,bp n] (bp (fL m n)):=by
 refine aR Tryz.func171 ?_
 have esm:True:=trivial
 have esn:True:=trivial
 refine bg ?_
 refine cp aO (vj _ (cZ _) J) ?_
 refine ao ?_
 refine cp aO (vj _ (cZ _) J) ?_
 refine ay ?_
 refine iv (fun(x y:Nat) L=>(((St.mk L.slot (hp [])).put (some 0) (bp x)).put (some 1) (bp y))) (fun x y=>fL x y=fL m n/\(aq x).length<=68719476736/\(aq y).length<=68719476736) (fun x y=>y) m n ⟨rfl,fS,mr⟩ ?_
 rintro x y L1 ⟨hg,hx,hy⟩
 refine bg ?_
 refine aL rfl ?_ ?_<;>intro aau xT
 ·have kW:0<y:=uN (fun h=>by rw [h,we] at xT;simp at xT)
  refine ay ?_
  refine cp aO (agN _ J) ?_
  refine bh ?_
  refine cp aO (agN _ J) ?_
  refine bB ?_
  refine ia (fun L=>∃ (t:Bool) (L1:St),(t=decide (x<18446744073709551616/\y<18446744073709551616))/\L=((((((St.mk L1.slot (hp [])).put (some 0) (bp x)).put (some 1) (bp y)).put (some 5) (cX (if x<18446744073709551616 then x else 0))).put (some 7) (cX (if y<18446744073709551616 then y else 0))).put (some 32) (bL t))) ?_ ?_
  ·refine aQ ?_
   refine ep 30 rfl ?_ ?_<;>intro av7 h30
   ·refine aB ?_
    exact⟨decide (y<18446744073709551616),_,by rw [decide_eq_decide];omega,((aj (aj (aj (aj (aj (bJ cl) cl) cl) cl) cl) cl)).symm⟩
   ·refine aB ?_
    exact⟨false,_,by symm;rw [decide_eq_false_iff_not];omega,((aj (aj (aj (aj (aj (bJ cl) cl) cl) cl) cl) cl)).symm⟩
  ·rintro _ ⟨t,LR5,ht,rfl⟩
   refine ao ?_
   refine aL rfl ?_ ?_<;>intro ael h32
   ·rw [ht,decide_eq_true_iff] at ael
    obtain⟨axz,arl⟩:=ael
    have esm:(if x<18446744073709551616 then x else 0)=x:=if_pos axz
    have esn:(if y<18446744073709551616 then y else 0)=y:=if_pos arl
    refine aH ?_
    refine iv (fun(p q:Nat) L=>(((St.mk L.slot (hp [])).put (some 5) (cX p)).put (some 7) (cX q))) (fun p q=>fL p q=fL m n/\p<18446744073709551616/\q<18446744073709551616) (fun p q=>q) x y ⟨hg,axz,arl⟩ ?_
    rintro p q L2 ⟨yw,hm,hn⟩
    refine bf ?_
    refine aL rfl ?_ ?_<;>intro amD h34
    ·refine aQ ?_
     refine aY 6 al ?_
     refine bB ?_
     exact fO q (p % q) ⟨by rw [qj,<-ad2,qj];exact yw,hn,by have:=jX p (show q > 0 by omega);omega⟩ (hm:=jX _ J)
    ·obtain rfl:q=0:=by omega
     refine bg ?_
     refine cp aO (aa8 _ J) ?_
     refine bB ?_
     rw [<-yw,aeR]
     exact dR
   ·refine ay ?_
    refine cp au (anS _ _ J J (by first | assumption | omega)) ?_
    refine iY ?_
    exact fO y (x % y) ⟨by rw [qj,<-ad2,qj];exact hg,hy,bb (nL (xz (jX x kW))) hy⟩ (hm:=jX _ kW)
 ·have kW:y=0:=sk.1 (oC J)
  refine bw ?_
  subst kW
  rw [<-hg,aeR]
  exact dR
section
variable {q a b:Rat}
theorem az4:(-q<0)↔0<q:=by grind
theorem avv {n:Nat}:0<(aq n).length↔0<n:=by
 constructor
 ·intro h;exact uN (fun e=>by rw [e,we] at h;cases h)
 ·intro h;exact List.length_pos_iff.2 (fun e=>by have:=sk.1 e;omega)
theorem aBz:0<q↔0<q.num:=by rw [at3];simp
theorem arx (h:(!decide (q<0))=true):decide (((aq q.num.natAbs).length:Int) > 0)=decide (-q<0):=by
 rw [decide_eq_decide,az4,aBz]
 have h1:¬ q<0:=by simpa using h
 rw [agr] at h1
 have:=avv (n:=q.num.natAbs)
 omega
theorem auB (h:(!decide (q<0))=false):false=decide (-q<0):=by
 have h1:q<0:=by simpa using h
 symm;rw [decide_eq_false_iff_not];grind
theorem aIY (s:Bool) (h:s=decide (-q<0)):aa (-q)=.agg [.v (.bool s),bp q.num.natAbs,bp (km q)]:=by
 rw [vP,h,wK,wK,anX,akg,akr]
theorem avt:a=b↔decide (a<0)=decide (b<0)/\a.num.natAbs=b.num.natAbs/\km a=km b:=by
 constructor
 ·rintro rfl;exact⟨rfl,rfl,rfl⟩
 ·rintro⟨h1,h2,h3⟩
  have hd:a.den=b.den:=amM (by rw [h3])
  rw [<-nQ a,<-nQ b,h1,h2,hd]
theorem aIu (h:(decide (a<0)==decide (b<0))=false):false=decide (a=b):=by
 symm;rw [decide_eq_false_iff_not,avt];intro h2;rw [h2.1] at h;simp at h
end
end Go.Proofs.YthcadngkamjpdaaGreat
namespace Go.Lg
open Go.Proofs.YthcadngkamjpdaaGreat in
theorem gR.avE {P:Program} {L:St} {dst:Option Nat} {T:TypeId} {p x:Operand} {b:Nat} {q:Rat} {s:Bool} (hp:L.ev p=.aF b 3 0 0) (hb:L.heap b=some ⟨3,[aa q],true⟩) (hx:L.ev x=.v (.bool s)) (hT:bK P T 1 false)
  (hs:s=decide (-q<0)):gR P L dst (.store T p x) ((L.bU b (some ⟨3,[aa (-q)],true⟩)).put dst .any):=by
 have h0:LV.put (aa q) 0 (L.ev x)=some (aa (-q)):=by
  rw [hx,aIY s hs,vP q]
  have e1:∀ n,(bp n).av=1:=fun _=>rfl
  simp [LV.put,qY,cL,LV.av,LV.isAgg]
 exact gR.store (P:=P) (dst:=dst) (T:=T) (p:=p) (x:=x) (y:=aa q) (y':=aa (-q)) hp hb rfl rfl rfl (an.av _) h0 (by rw [hx];exact hT) (by rw [hx];exact⟨(fun h=>by cases h),(fun _ h=>by cases h)⟩)
end Go.Lg
namespace Go.Proofs.YthcadngkamjpdaaGreat
open Go.Lg
theorem aGu {n:Int} (h1:-9223372036854775808<=n) (h2:n<0):IntKind.i64.wrap (0-(n+1))=(((-(n+1)).toNat:Nat):Int):=by
 rw [IntWalk.i64_in _ J];omega
open H0 in
theorem adQ (q:Rat):ax ak 60 [aa q] (bp q.den):=by
 refine aR Tryz.func60 ?_
 refine eQ ?_
 refine aL rfl ?_ ?_<;>intro h6r h6
 ·have oa:=aot (show (aq (km q)).length=0 by omega)
  refine bg ?_
  rw [oa,show bp 1=.list 1 ([1].map bG) from rfl]
  exact lW [7] rfl rfl (dH fX rfl rfl rfl)
 ·have oa:=ajJ (q:=q) J
  refine bh ?_
  rw [<-oa]
  exact dR
namespace atx
theorem aw {p q:Prop} (k:q) (e:p=q:=by simp only [e1,e2,e3,e4,p1,p2,p3,q1,q2,q3,l1,t0,t1,r1,r2,r3,r4,Nat.zero_add,Nat.reduceMul,Nat.reduceAdd,b1,b2,b3,b4,b5,b6,i1,i2,i3,i4,i5,i6,Nat.reduceBEq,fU,cb,y7];exact rfl):p:=e.mpr k
end atx
open atx in
theorem aid (s:Bool) (m n:Nat) (fS:(aq m).length<=68719476736) (mr:(aq n).length<=68719476736) (iy:0<n):ax ak 94 [bL s,bp m,bp n] (aa (qv s m n)):=by
 refine aR Tryz.func94 ?_
 refine bg ?_
 refine cp aO (vj _ (cZ _) J) ?_
 refine ao ?_
 refine cp aO (vj _ (cZ _) J) ?_
 refine bw ?_
 refine aL rfl ?_ ?_<;>intro um nA
 ·have hm:m=0:=sk.1 (oC J)
  refine bg ?_
  rw [hm,afR,rQ]
  exact adu
 ·have iS:0<m:=avv.1 J
  have hg:0<fL m n:=amR _ iS
  have hE:=aeA s iS iy
  have hgl:(aq (fL m n)).length<=68719476736:=bb (nL (acr iS (aaH _ _))) fS
  have hqa:(aq (m/fL m n)).length<=68719476736:=bb (nL (uO _ _)) fS
  have xy:(aq (n/fL m n)).length<=68719476736:=bb (nL (uO _ _)) mr
  have aBJ:=aa2 (n:=fL m n)
  refine ay ?_
  refine cp au (aF3 _ _ J J) ?_
  refine a7 ?_
  refine ia (fun L=>∃ (t:Bool) (L1:St),(t=decide (fL m n≠1))/\L=(((((((St.mk L1.slot (hp [(6,⟨3,[.agg [.v (.bool false),.list 1 [],.list 1 []]],true⟩)])).put (some 0) (bL s)).put (some 1) (bp m)).put (some 2) (bp n)).put (some 6) (.aF 6 3 0 0)).put (some 7) (bp (fL m n))).put (some 27) (bL t))) ?_ ?_
  ·refine a7 ?_
   refine ep 22 rfl ?_ ?_<;>intro aem h22
   ·refine bf ?_
    exact⟨true,_,by symm;rw [decide_eq_true_iff];intro e;rw [e,aiR] at h22;exact h22 rfl,((aj (aj (aj (aj (aj (aj (bJ cl) cl) cl) cl) cl) cl) cl)).symm⟩
   ·refine bf ?_
    exact⟨(((aq (fL m n)).getD 0 0:Int) != 1),_,by have:=(aBJ J).1;rw [ags,bne_iff_ne,decide_eq_true_iff];omega,((aj (aj (aj (aj (aj (aj (bJ cl) cl) cl) cl) cl) cl) cl)).symm⟩
  ·rintro _ ⟨t,LR5,ht,rfl⟩
   refine ao ?_
   refine ia (fun L=>∃ (x:Nat) (y:Nat) (L1:St),(x=m/fL m n/\y=n/fL m n)/\L=(((((St.mk L1.slot (hp [(6,⟨3,[.agg [.v (.bool false),.list 1 [],.list 1 []]],true⟩)])).put (some 0) (bL s)).put (some 1) (bp x)).put (some 2) (bp y)).put (some 6) (.aF 6 3 0 0))) ?_ ?_
   ·refine aL rfl ?_ ?_<;>intro zP h27
    ·refine aB ?_
     refine cp au (anS _ _ J J hg) ?_
     refine bh ?_
     refine cp au (anS _ _ J J hg) ?_
     refine bf ?_
     exact⟨m/fL m n,n/fL m n,_,⟨rfl,rfl⟩,((aj (aj (aj (aj (bJ cl) cl) cl) cl) cl)).symm⟩
    ·have mB:fL m n=1:=by rw [ht,decide_eq_false_iff_not] at zP;omega
     refine aH ?_
     exact⟨m,n,_,⟨by rw [mB,aeV],by rw [mB,aeV]⟩,((aj (aj (aj (aj (bJ cl) cl) cl) cl) cl)).symm⟩
   ·rintro _ ⟨x,y,aBX,⟨hx,hy⟩,rfl⟩
    rw [<-hx,<-hy] at hE
    have kW:0<y:=by rw [hy];exact ahq (acr iy (alT _ _)) hg
    refine bg ?_
    refine ep 45 rfl ?_ ?_<;>intro anY h45
    ·refine bf ?_
     refine aL rfl ?_ ?_<;>intro aKF h50
     ·have pG:y=1:=by have:=(aa2 (n:=y) J).1;omega
      refine df ?_
      rw [hE,if_pos pG]
      exact fi [] rfl rfl rfl rfl rfl dC (.agg (.cons (.pure rfl) (.cons (.pure (kf _)) (.cons (.nil 1) .nil))))
     ·have pG:y≠1:=by have:=(aa2 (n:=y) J).1;omega
      refine bw ?_
      rw [hE,if_neg pG]
      exact afX
    ·have pG:y≠1:=fun e=>by rw [e,aiR] at h45;exact h45 rfl
     refine lF ?_
     rw [hE,if_neg pG]
     exact afX
open H0 in
theorem ajT (n:Int) (h1:-9223372036854775808<=n) (h2:n<=9223372036854775807):ax ak 50 [iL n] (.a9 [bp n.natAbs,bL (decide (n<0))]):=by
 refine aR Tryz.func50 ?_
 refine dk ?_
 refine aL rfl ?_ ?_<;>intro h5r h5
 ·refine aB ?_
  refine ah rfl (.neg rfl) ?_
  refine ah rfl (.aiZ (n:=(-(n+1)).toNat) ah6 ahI (by simp only [e1,p1,p2,uC];rw [aGu h1 h5]) J) ?_
  refine ah rfl (.bin rfl rfl (asP (show (-(n+1)).toNat+1<18446744073709551616 by omega))) ?_
  refine cp aO (aa8 ((-(n+1)).toNat+1) J) ?_
  refine ay ?_
  rw [decide_eq_true h5,show n.natAbs=(-(n+1)).toNat+1 by omega]
  exact vu rfl (.pure (kf _)) rfl (.pure rfl)
 ·refine a7 ?_
  refine ah rfl (.aiZ (n:=n.natAbs) ah6 ahI (by simp only [e1,p1,p2,uC];rw [show ((n.natAbs:Nat):Int)=n by omega];rfl) J) ?_
  refine cp aO (aa8 n.natAbs J) ?_
  refine a7 ?_
  rw [decide_eq_false h5]
  exact vu rfl (.pure (kf _)) rfl (.pure rfl)
open H0 in
theorem aFa (n d:Int) (h1:-9223372036854775808<=n) (h2:n<=9223372036854775807) (h3:-9223372036854775808<=d) (h4:d<=9223372036854775807) (hd:d≠0):ax ak 61 [iL n,iL d] (.a9 [aa ((n:Rat)/(d:Rat)),iL 0]):=by
 refine aR Tryz.func61 ?_
 refine dk ?_
 refine aL rfl ?_ ?_<;>intro acj yc
 ·exact absurd yc hd
 ·refine a7 ?_
  refine cp aO (ajT _ J J) ?_
  refine bh ?_
  refine cp aO (ajT _ J J) ?_
  refine df ?_
  refine cp gM (aid (decide (n<0) != decide (d<0)) n.natAbs d.natAbs (bb (zJ.2 J) J) (bb (zJ.2 J) J) J) ?_
  refine a7 ?_
  rw [<-ae5]
  exact agw
open H0 in
theorem awq (n d:Int) (h1:-9223372036854775808<=n) (h2:n<=9223372036854775807) (h3:-9223372036854775808<=d) (h4:d<=9223372036854775807) (hd:d≠0):ax ak 24 [iL n,iL d] (aa ((n:Rat)/(d:Rat))):=by
 refine aR Tryz.func24 ?_
 refine bB ?_
 refine cp au (aFa _ _ J J J J J) ?_
 refine eQ ?_
 exact jJ
open H0 in
theorem aaX (n:Int) (h1:-9223372036854775808<=n) (h2:n<=9223372036854775807):ax ak 17 [iL n] (aa (n:Rat)):=by
 refine aR Tryz.func17 ?_
 refine bg ?_
 refine cp aO (ajT _ J J) ?_
 refine nm ?_
 rw [<-aek n]
 have hz:n.natAbs=0\/0<n.natAbs:=by omega
 rcases hz with hz | hz
 ·obtain rfl:n=0:=by omega
  rw [show qv (decide ((0:Int)<0)) (0:Int).natAbs 1=0 from afR _ _,rQ]
  exact adu
 ·rw [aeA _ hz J,Nat.gcd_one_right,aeV,if_pos J]
  exact fi [] rfl rfl rfl rfl rfl dC (.agg (.cons (.pure rfl) (.cons (.pure (kf _)) (.cons (.pure rfl) .nil))))
open H0 in
theorem ahE (q:Rat):ax ak 21 [aa q] (iL (di q)):=by
 have hq:=axs q
 refine aR Tryz.func21 ?_
 refine eQ ?_
 refine aL rfl ?_ ?_<;>intro h6r h6
 ·have hz:q.num.natAbs=0:=sk.1 (oC J)
  refine bf ?_
  rw [hq,if_pos hz]
  exact dR
 ·have hz:q.num.natAbs≠0:=fun e=>by rw [e,we] at h6;exact h6 rfl
  refine bB ?_
  refine aL rfl ?_ ?_<;>intro re h8
  ·refine bf ?_
   rw [hq,if_neg hz,if_pos h8]
   exact dR
  ·refine bg ?_
   rw [hq,if_neg hz,if_neg h8]
   exact dR
namespace asH
theorem aw {p q:Prop} (k:q) (e:p=q:=by simp only [e1,e2,e3,e4,p1,p2,p3,q1,q2,q3,l1,t0,t1,r1,r2,r3,r4,Nat.zero_add,Nat.reduceMul,Nat.reduceAdd,b1,b2,b3,b4,b5,b6,i1,i2,i3,i4,i5,i6,Nat.reduceBEq,cb,eSb];exact rfl):p:=e.mpr k
end asH
open asH in
theorem aou (a b:Rat) (h:rl a+rl b<=34359738368):ax ak 43 [aa a,aa b] (aa (a+b)):=by
 have a1:=oV a
 have a2:=qH a
 have a3:=qO a
 have c1:=oV b
 have c2:=qH b
 have c3:=qO b
 have a0:=a.den_pos
 have c0:=b.den_pos
 have m1:=gw a1 c2
 have m2:=gw c1 a2
 have m3:=gw a2 c2
 have m4:=gw a1 c1
 have m5:=gw a2 c1
 have m6:=gw c2 a2
 have np:=qn a0 c0
 have m7:(aq (a.num.natAbs*b.den+b.num.natAbs*a.den)).length<=rl a+rl b+1:=aoa m1 J
 have ls1:(aq (a.num.natAbs*b.den-b.num.natAbs*a.den)).length<=rl a+rl b:=bb (nL (agn _ _)) m1
 have ls2:(aq (b.num.natAbs*a.den-a.num.natAbs*b.den)).length<=rl b+rl a:=bb (nL (agn _ _)) m2
 refine aR Tryz.func43 ?_
 have eSb:True:=trivial
 refine nm ?_
 refine aL rfl ?_ ?_<;>intro oG mV
 ·have hz:=aa4 (q:=a) J
  refine bg ?_
  rw [hz,Rat.zero_add]
  exact jJ
 ·refine bC ?_
  refine aL rfl ?_ ?_<;>intro aae ze
  ·have hz:=aa4 (q:=b) J
   refine bg ?_
   rw [hz,Rat.add_zero]
   exact jJ
  ·refine aQ ?_
   refine aY 12 al ?_
   refine aQ ?_
   refine cp aO (adQ _) ?_
   refine cp au (adv _ _ J J) ?_
   refine aQ ?_
   refine cp aO (adQ _) ?_
   refine cp au (adv _ _ J J) ?_
   refine a7 ?_
   refine aY 6 al ?_
   refine ao ?_
   refine cp aO (adQ _) ?_
   refine ao ?_
   refine cp aO (adQ _) ?_
   refine cp au (adv _ _ J J) ?_
   refine dk ?_
   refine aL rfl ?_ ?_<;>intro afm h41
   ·refine ao ?_
    refine aY 7 al ?_
    refine aB ?_
    refine cp au (aA6 _ _ J J) ?_
    refine ao ?_
    refine cp gM (aid _ _ _ J J np) ?_
    refine a7 ?_
    have E:=add_same (k:=1) (x:=a.num.natAbs*b.den) (y:=b.num.natAbs*a.den) (d:=a.den*b.den) J (kE _) (kE _) (kE _) (eq_of_beq afm)
    rw [aiN,<-eq_of_beq afm] at E
    rw [E]
    exact jJ
   ·refine bf ?_
    refine cp au (afT _ _ J J) ?_
    refine aQ ?_
    refine aL rfl ?_ ?_<;>intro aK8 h52
    ·have bZ:a.num.natAbs*b.den<b.num.natAbs*a.den:=by unfold lL at h52;split at h52;assumption;split at h52<;>omega
     have eSb:=agl (xz bZ)
     refine aB ?_
     refine cp au (aqJ _ _ J J) ?_
     refine dk ?_
     refine cp gM (aid _ _ _ J J np) ?_
     refine a7 ?_
     have E:=amd (k:=1) (x:=a.num.natAbs*b.den) (y:=b.num.natAbs*a.den) (d:=a.den*b.den) J (kE _) (kE _) (kE _) (acL afm) (xz bZ)
     rw [aiN] at E
     rw [E]
     exact jJ
    ·have hle:b.num.natAbs*a.den<=a.num.natAbs*b.den:=by
      rcases kD (a.num.natAbs*b.den) (b.num.natAbs*a.den) with h | h
      ·rw [qq h] at h52;omega
      ·exact h
     have eSb:=agl hle
     refine ay ?_
     refine cp au (aqJ _ _ J J) ?_
     refine dk ?_
     refine cp gM (aid _ _ _ J J np) ?_
     refine aB ?_
     have E:=ami (k:=1) (x:=a.num.natAbs*b.den) (y:=b.num.natAbs*a.den) (d:=a.den*b.den) J (kE _) (kE _) (kE _) (acL afm) hle
     rw [aiN] at E
     rw [E]
     exact jJ
open H0 in
theorem agJ (a b:Rat) (h:rl a+rl b<=34359738368):ax ak 22 [aa a,aa b] (iL (gp a b)):=by
 have a1:=oV a
 have a2:=qH a
 have a3:=qO a
 have c1:=oV b
 have c2:=qH b
 have c3:=qO b
 have a0:=a.den_pos
 have c0:=b.den_pos
 have m1:=gw a1 c2
 have m2:=gw c1 a2
 have m3:=gw a2 c2
 have m4:=gw a1 c1
 have m5:=gw a2 c1
 have m6:=gw c2 a2
 have np:=qn a0 c0
 refine aR Tryz.func22 ?_
 refine bB ?_
 refine aY 6 al ?_
 refine ao ?_
 refine cp aO (ahE _) ?_
 refine ao ?_
 refine cp aO (ahE _) ?_
 refine bC ?_
 refine aL rfl ?_ ?_<;>intro um nA
 ·refine bg ?_
  refine aL rfl ?_ ?_<;>intro acD h17
  ·refine bg ?_
   rw [aps h17]
   exact dR
  ·refine bB ?_
   rw [avG J]
   exact dR
 ·have pd:di a=di b:=by omega
  obtain⟨c,hc⟩:∃ c,c=lL (a.num.natAbs*b.den) (b.num.natAbs*a.den):=⟨_,rfl⟩
  refine aQ ?_
  refine aY 12 al ?_
  refine aQ ?_
  refine cp aO (adQ _) ?_
  refine cp au (adv _ _ J J) ?_
  refine aQ ?_
  refine cp aO (adQ _) ?_
  refine cp au (adv _ _ J J) ?_
  refine cp au (afT _ _ J J) ?_
  refine bh ?_
  refine aL rfl ?_ ?_<;>intro av7 h30
  ·refine bB ?_
   rw [aiD pd,if_pos h30,<-axN rfl]
   exact dR
  ·refine bB ?_
   rw [aiD pd,if_neg h30]
   exact dR
end Go.Proofs.YthcadngkamjpdaaGreat
end
