/- Texts LgTy, N1, N2, N3, N4, N5, N6, N7, N8, N9, N10, N11, R1, R2, R3, R4, R5, B1, M1, R6, B2 of this proof, joined. -/
import Derived.Test.YtbkmfcmgilhaaaaGreatQW3
import Derived.Test.YtbkmfcmgilhaaaaGreatChecked
set_option linter.unusedVariables false
set_option linter.unusedSimpArgs false
open And renaming intro->dI
open Bool renaming and_eq_true->jS,eq_iff_iff->adt,false_eq_true->afF
open Classical renaming byContradiction->rE
open Go.Proofs.Tryz renaming f227->agz,func139->atW,func240->aB5,prog->ai,t134->au3,t147->ax9,t198->ax3,t28->aCV,t31->aBw,t40->az9,t42->aCz,t53->aBv,t60->aCv,t93->aAm,underlying113->avb,underlying121->ajy,underlying124->abf,underlying126->aB6,underlying134->aCi,underlying143->pF,underlying144->ar9,underlying147->azx,underlying153->wa,underlying157->acq,underlying158->aBn,underlying170->azQ,underlying176->auQ,underlying198->avM,underlying2->akL,underlying206->aBD,underlying22->aaU,underlying224->aub,underlying239->asA,underlying25->dp,underlying26->mg,underlying28->azs,underlying29->rV,underlying3->avZ,underlying31->as1,underlying35->azw,underlying4->avf,underlying40->awN,underlying42->aCY,underlying43->uW,underlying5->arR,underlying51->nF,underlying53->awV,underlying60->aAL,underlying65->auU,underlying67->ayp,underlying82->ax7,underlying87->aA1,underlying93->awh
open Int renaming emod_lt_of_pos->aaE,emod_nonneg->aaQ,natAbs_neg->amZ
open List renaming append_assoc->pn,append_nil->ey,drop_eq_getElem_cons->xR,drop_length->abX,drop_of_length_le->mE,drop_zero->jv,eq_nil_of_length_eq_zero->pQ,getD_eq_getElem?_getD->bq,getElem?_eq_getElem->ck,length_append->jx,length_cons->dR,length_map->cC,length_nil->fX,length_set->lQ,length_take->fH,map_nil->gy,nil_append->fD,replicate->av,set_cons_succ->du,set_cons_zero->dD,take_length->py,take_nil->gU,take_of_length_le->cy,take_succ_eq_append_getElem->adQ
open Nat renaming add_comm->vQ,add_mul->iV,add_sub_cancel->tD,add_zero->nW,div_add_mod->aeW,div_eq_of_lt->acT,div_le_self->x6,div_lt_iff_lt_mul->pM,div_mul_le_self->avh,div_one->ahi,div_pos->ajZ,gcd->gO,gcd_comm->tf,gcd_dvd_left->acH,gcd_dvd_right->aoI,gcd_pos_of_pos_left->apH,gcd_rec->agm,gcd_zero_right->ahb,le_add_left->azN,le_div_iff_mul_le->aaY,le_mul_of_pos_right->awi,le_of_dvd->aeQ,le_of_eq->afT,le_of_lt->ym,le_refl->bF,le_total->aou,le_trans->aP,lt_of_le_of_lt->wQ,lt_of_lt_of_le->zT,lt_or_eq_of_le->axH,lt_or_ge->g7,min_le_right->ase,mod_eq_of_lt->jU,mod_lt->nA,mul_add->fp,mul_assoc->iD,mul_comm->ie,mul_le_mul_left->l9,mul_le_mul_right->jd,mul_one->lJ,mul_pos->oR,mul_zero->abI,pos_of_ne_zero->xU,pow_add->nw,pow_le_pow_right->mN,pow_pos->ov,pow_succ->kC,pow_zero->aeh,reduceAdd->bp,reduceBEq->bh,reduceEqDiff->dC,reduceMul->bo,sub_le->aiT,sub_mul->aBm,succ_mul->yz,zero_add->fZ,zero_le->bW,zero_mod->axr,zero_mul->afY
open Option.some renaming injEq->gj
open Rat renaming div_def->gQ,lt_iff->ayi,neg_den->ank,neg_num->aqR,num_eq_zero->aCR,sub_eq_add_neg->aid
section
set_option linter.unusedVariables false
set_option linter.unusedSimpArgs false
set_option maxHeartbeats 8000000
set_option maxRecDepth 100000
namespace Go.Proofs.YtbkmfcmgilhaaaaGreat
open Go.Lg
theorem fol:ai.follows .mixedOrders=true:=k6
mutual
def zc:LV->List Value
 | .v x=>[x]
 | .list _ _=>[.slice none 0 0]
 | .agg l=>zcs l
 |_=>[]
def zcs:List LV->List Value
 | []=>[]
 |x::xs=>zc x++zcs xs
end
mutual
def zOK:LV->Bool
 | .v x=>x.oneCell'
 | .list _ []=>true
 | .agg l=>af1 l
 |_=>false
def af1:List LV->Bool
 | []=>true
 |x::xs=>zOK x&&af1 xs
end
mutual
theorem awz:∀x,zOK x=true->(zc x).length=x.aq
 | .v x,_=>rfl
 | .list _ [],_=>rfl
 | .agg l,h=>by rw[zOK]at h;rw[zc,aDi l h];rfl
 | .list _ (_::_),h=>by cases h
 | .ref ..,h=>by cases h
 | .lj ..,h=>by cases h
 | .aB ..,h=>by cases h
 | .cx _,h=>by cases h
 | .aY _,h=>by cases h
 | .dT ..,h=>by cases h
 | .any,h=>by cases h
theorem aDi:∀l,af1 l=true->(zcs l).length=dg l
 | [],_=>rfl
 |x::xs,h=>by
  rw[af1,jS]at h;rw[zcs,dg,jx,awz x h.1,aDi xs h.2]
end
section
variable {Z:Nat->Prop} {μ:Nat->Option Nat} {w:World}
mutual
theorem auP:∀x,zOK x=true->aH Z μ w x (zc x)
 | .v x,h=>by rw[zOK]at h;exact aHv h
 | .list n [],_=>adr n
 | .agg l,h=>by rw[zOK]at h;rw[zc];exact aN4 (aug l h)
 | .list _ (_::_),h=>by cases h
 | .ref ..,h=>by cases h
 | .lj ..,h=>by cases h
 | .aB ..,h=>by cases h
 | .cx _,h=>by cases h
 | .aY _,h=>by cases h
 | .dT ..,h=>by cases h
 | .any,h=>by cases h
theorem aug:∀l,af1 l=true->cP Z μ w l (zcs l)
 | [],_=>aGx
 |x::xs,h=>by
  rw[af1,jS]at h;rw[zcs];exact aIw (awz x h.1) (auP x h.1) (aug xs h.2)
end
end
theorem zk{P:Program}{T:TypeId}{z:LV}{i:TypeInfo}{zv:Value}(h1:P.info? T=some i)(h2:i.zero=some zv)(h3:z.pure=true)(h4:zOK z=true)(h5:zc z=zv.cells.toList):dM P T z :=
 ⟨i,zv,h1,h2,h3,fun _ _ _=>h5▸auP z h4⟩
theorem T2:bS ai 2 1 false:=⟨by kernel_rfl,_,akL,rfl⟩
theorem B2:ow ai 2 8:=⟨Tryz.t2,by kernel_rfl,rfl⟩
theorem Z2:dM ai 2 (.v (.int .i64 0)):=by exact zk (i:=Tryz.t2) k6 rfl rfl rfl rfl
instance:TI ai 2 1 false:=⟨T2⟩
theorem T3:bS ai 3 1 false:=⟨by kernel_rfl,_,avZ,rfl⟩
theorem B3:ow ai 3 8:=⟨Tryz.t3,by kernel_rfl,rfl⟩
theorem Z3:dM ai 3 (.v (.int .i64 0)):=by exact zk (i:=Tryz.t3) k6 rfl rfl rfl rfl
instance:TI ai 3 1 false:=⟨T3⟩
instance:BI ai 3 8:=⟨B3⟩
instance:ZI ai 3 (.v (.int .i64 0)):=⟨Z3⟩
instance:UN ai 4 .bool:=⟨avf⟩
theorem T4:bS ai 4 1 false:=⟨by kernel_rfl,_,avf,rfl⟩
instance:TI ai 4 1 false:=⟨T4⟩
instance:UN ai 5 (.int .u8):=⟨arR⟩
instance:UN ai 22 (.slice 3):=⟨aaU⟩
theorem T22:bS ai 22 1 false:=⟨by kernel_rfl,_,aaU,rfl⟩
instance:TI ai 22 1 false:=⟨T22⟩
instance:UN ai 25 (.slice 31):=⟨dp⟩
theorem T25:bS ai 25 1 false:=⟨by kernel_rfl,_,dp,rfl⟩
instance:TI ai 25 1 false:=⟨T25⟩
instance:UN ai 26 (.slice 42):=⟨mg⟩
theorem T26:bS ai 26 1 false:=⟨by kernel_rfl,_,mg,rfl⟩
instance:TI ai 26 1 false:=⟨T26⟩
theorem fo:bS ai 28 3 true:=⟨by kernel_rfl,_,azs,rfl⟩
theorem B28:ow ai 28 56:=⟨aCV,by kernel_rfl,rfl⟩
theorem Z28:dM ai 28 (.agg [.v (.int .i64 0),.v (.slice none 0 0),.v (.slice none 0 0)]):=by exact zk (i:=aCV) k6 rfl rfl rfl rfl
instance:TI ai 28 3 true:=⟨fo⟩
instance:ZI ai 28 (.agg [.v (.int .i64 0),.v (.slice none 0 0),.v (.slice none 0 0)]):=⟨Z28⟩
theorem aAr:mP ai 28 [(1,false),(1,false),(1,false)]:=⟨_,azs,⟨rfl,T3,⟨rfl,T25,⟨rfl,T26,trivial⟩⟩⟩,by decide⟩
instance:SI ai 28 [(1,false),(1,false),(1,false)]:=⟨aAr⟩
instance:UN ai 29 (.slice 198):=⟨rV⟩
theorem T29:bS ai 29 1 false:=⟨by kernel_rfl,_,rV,rfl⟩
instance:TI ai 29 1 false:=⟨T29⟩
theorem cS:bS ai 31 3 true:=⟨by kernel_rfl,_,as1,rfl⟩
theorem jq:ow ai 31 56:=⟨aBw,by kernel_rfl,rfl⟩
theorem Z31:dM ai 31 (ae 0):=by rw[kZ];exact zk (i:=aBw) k6 rfl rfl rfl rfl
theorem jg:dM ai 31 (.agg [.v (.bool false),.list 1 [],.list 1 []]):=kZ▸Z31
instance:TI ai 31 3 true:=⟨cS⟩
instance:BI ai 31 56:=⟨jq⟩
instance:ZI ai 31 (.agg [.v (.bool false),.list 1 [],.list 1 []]):=⟨jg⟩
theorem ayK:mP ai 31 [(1,false),(1,false),(1,false)]:=⟨_,as1,⟨rfl,T4,⟨rfl,T29,⟨rfl,T29,trivial⟩⟩⟩,by decide⟩
instance:SI ai 31 [(1,false),(1,false),(1,false)]:=⟨ayK⟩
theorem T35:bS ai 35 5 true:=⟨by kernel_rfl,_,azw,rfl⟩
theorem Z35:dM ai 35 (.agg [.v (.int .i64 0),.v (.int .i64 0),ae 0]):=by rw[kZ];exact zk (i:=Tryz.t35) k6 rfl rfl rfl rfl
instance:TI ai 35 5 true:=⟨T35⟩
instance:ZI ai 35 (.agg [.v (.int .i64 0),.v (.int .i64 0),ae 0]):=⟨Z35⟩
theorem amd:mP ai 35 [(1,false),(1,false),(3,true)]:=⟨_,azw,⟨rfl,T3,⟨rfl,T3,⟨rfl,cS,trivial⟩⟩⟩,by decide⟩
instance:SI ai 35 [(1,false),(1,false),(3,true)]:=⟨amd⟩
instance:UN ai 40 (.array 3 31):=⟨awN⟩
theorem jw:bS ai 40 9 true:=⟨by kernel_rfl,_,awN,rfl⟩
theorem B40:ow ai 40 168:=⟨az9,by kernel_rfl,rfl⟩
theorem Z40:dM ai 40 (.agg [ae 0,ae 0,ae 0]):=by rw[kZ];exact zk (i:=az9) k6 rfl rfl rfl rfl
instance:TI ai 40 9 true:=⟨jw⟩
instance:ZI ai 40 (.agg [ae 0,ae 0,ae 0]):=⟨Z40⟩
theorem oT:bS ai 42 12 true:=⟨by kernel_rfl,_,aCY,rfl⟩
theorem B42:ow ai 42 224:=⟨aCz,by kernel_rfl,rfl⟩
theorem xu:dM ai 42 (.agg [.agg [ae 0,ae 0,ae 0],ae 0]):=by rw[kZ];exact zk (i:=aCz) k6 rfl rfl rfl rfl
instance:TI ai 42 12 true:=⟨oT⟩
instance:ZI ai 42 (.agg [.agg [ae 0,ae 0,ae 0],ae 0]):=⟨xu⟩
theorem aMm:mP ai 42 [(9,true),(3,true)]:=⟨_,aCY,⟨rfl,jw,⟨rfl,cS,trivial⟩⟩,by decide⟩
instance:SI ai 42 [(9,true),(3,true)]:=⟨aMm⟩
instance:UN ai 43 (.slice 53):=⟨uW⟩
theorem T43:bS ai 43 1 false:=⟨by kernel_rfl,_,uW,rfl⟩
instance:TI ai 43 1 false:=⟨T43⟩
instance:UN ai 51 (.slice 60):=⟨nF⟩
theorem T51:bS ai 51 1 false:=⟨by kernel_rfl,_,nF,rfl⟩
instance:TI ai 51 1 false:=⟨T51⟩
theorem uR:bS ai 53 4 true:=⟨by kernel_rfl,_,awV,rfl⟩
theorem B53:ow ai 53 64:=⟨aBv,by kernel_rfl,rfl⟩
theorem Z53:dM ai 53 (.agg [.v (.slice none 0 0),.v (.slice none 0 0),.v (.int .i64 0),.v (.int .i64 0)]):=by exact zk (i:=aBv) k6 rfl rfl rfl rfl
instance:TI ai 53 4 true:=⟨uR⟩
instance:ZI ai 53 (.agg [.v (.slice none 0 0),.v (.slice none 0 0),.v (.int .i64 0),.v (.int .i64 0)]):=⟨Z53⟩
theorem aM0:mP ai 53 [(1,false),(1,false),(1,false),(1,false)]:=⟨_,awV,⟨rfl,T51,⟨rfl,T51,⟨rfl,T3,⟨rfl,T3,trivial⟩⟩⟩⟩,by decide⟩
instance:SI ai 53 [(1,false),(1,false),(1,false),(1,false)]:=⟨aM0⟩
theorem lF:bS ai 60 6 true:=⟨by kernel_rfl,_,aAL,rfl⟩
theorem B60:ow ai 60 112:=⟨aCv,by kernel_rfl,rfl⟩
theorem Z60:dM ai 60 (.agg [ae 0,ae 0]):=by rw[kZ];exact zk (i:=aCv) k6 rfl rfl rfl rfl
instance:TI ai 60 6 true:=⟨lF⟩
instance:ZI ai 60 (.agg [ae 0,ae 0]):=⟨Z60⟩
theorem aiO:mP ai 60 [(3,true),(3,true)]:=⟨_,aAL,⟨rfl,cS,⟨rfl,cS,trivial⟩⟩,by decide⟩
instance:SI ai 60 [(3,true),(3,true)]:=⟨aiO⟩
instance:UN ai 65 (.array 3 40):=⟨auU⟩
theorem T65:bS ai 65 27 true:=⟨by kernel_rfl,_,auU,rfl⟩
theorem Z65:dM ai 65 (.agg [.agg [ae 0,ae 0,ae 0],.agg [ae 0,ae 0,ae 0],.agg [ae 0,ae 0,ae 0]]):=by rw[kZ];exact zk (i:=Tryz.t65) k6 rfl rfl rfl rfl
instance:TI ai 65 27 true:=⟨T65⟩
theorem T67:bS ai 67 36 true:=⟨by kernel_rfl,_,ayp,rfl⟩
theorem Z67:dM ai 67 (.agg [.agg [.agg [ae 0,ae 0,ae 0],.agg [ae 0,ae 0,ae 0],.agg [ae 0,ae 0,ae 0]],.agg [ae 0,ae 0,ae 0]]):=by rw[kZ];exact zk (i:=Tryz.t67) k6 rfl rfl rfl rfl
instance:TI ai 67 36 true:=⟨T67⟩
theorem aPs:mP ai 67 [(27,true),(9,true)]:=⟨_,ayp,⟨rfl,T65,⟨rfl,jw,trivial⟩⟩,by decide⟩
instance:SI ai 67 [(27,true),(9,true)]:=⟨aPs⟩
theorem Z73:dM ai 73 (.agg [.agg [.v (.int .i64 0),.v (.slice none 0 0),.v (.slice none 0 0)],.agg [.v (.int .i64 0),.v (.slice none 0 0),.v (.slice none 0 0)]]):=by exact zk (i:=Tryz.t73) k6 rfl rfl rfl rfl
theorem Z77:dM ai 77 (.agg [.agg [.v (.int .i64 0),.v (.int .i64 0),ae 0],.v (.slice none 0 0),.v (.int .i64 0)]):=by rw[kZ];exact zk (i:=Tryz.t77) k6 rfl rfl rfl rfl
theorem asQ:mP ai 77 [(5,true),(1,false),(1,false)]:=⟨_,Tryz.underlying77,⟨rfl,T35,⟨rfl,T43,⟨rfl,T3,trivial⟩⟩⟩,by decide⟩
instance:SI ai 77 [(5,true),(1,false),(1,false)]:=⟨asQ⟩
instance:UN ai 78 (.slice 28):=⟨Tryz.underlying78⟩
theorem T82:bS ai 82 3 true:=⟨by kernel_rfl,_,ax7,rfl⟩
theorem Z82:dM ai 82 (.agg [.v (.bool false),.v (.int .i64 0),.v (.int .i64 0)]):=by exact zk (i:=Tryz.t82) k6 rfl rfl rfl rfl
instance:TI ai 82 3 true:=⟨T82⟩
instance:ZI ai 82 (.agg [.v (.bool false),.v (.int .i64 0),.v (.int .i64 0)]):=⟨Z82⟩
theorem aMV:mP ai 82 [(1,false),(1,false),(1,false)]:=⟨_,ax7,⟨rfl,T4,⟨rfl,T3,⟨rfl,T3,trivial⟩⟩⟩,by decide⟩
instance:SI ai 82 [(1,false),(1,false),(1,false)]:=⟨aMV⟩
instance:UN ai 87 (.array 3 60):=⟨aA1⟩
theorem T87:bS ai 87 18 true:=⟨by kernel_rfl,_,aA1,rfl⟩
theorem Z87:dM ai 87 (.agg [.agg [ae 0,ae 0],.agg [ae 0,ae 0],.agg [ae 0,ae 0]]):=by rw[kZ];exact zk (i:=Tryz.t87) k6 rfl rfl rfl rfl
instance:TI ai 87 18 true:=⟨T87⟩
instance:ZI ai 87 (.agg [.agg [ae 0,ae 0],.agg [ae 0,ae 0],.agg [ae 0,ae 0]]):=⟨Z87⟩
theorem pX:bS ai 93 4 true:=⟨by kernel_rfl,_,awh,rfl⟩
theorem B93:ow ai 93 80:=⟨aAm,by kernel_rfl,rfl⟩
theorem Z93:dM ai 93 (.agg [.v (.slice none 0 0),.v (.slice none 0 0),.v (.int .i64 0),.v (.slice none 0 0)]):=by exact zk (i:=aAm) k6 rfl rfl rfl rfl
instance:TI ai 93 4 true:=⟨pX⟩
instance:ZI ai 93 (.agg [.v (.slice none 0 0),.v (.slice none 0 0),.v (.int .i64 0),.v (.slice none 0 0)]):=⟨Z93⟩
theorem aIG:mP ai 93 [(1,false),(1,false),(1,false),(1,false)]:=⟨_,awh,⟨rfl,T51,⟨rfl,T51,⟨rfl,T3,⟨rfl,T22,trivial⟩⟩⟩⟩,by decide⟩
instance:SI ai 93 [(1,false),(1,false),(1,false),(1,false)]:=⟨aIG⟩
instance:UN ai 95 (.slice 93):=⟨Tryz.underlying95⟩
instance:UN ai 102 (.slice 2):=⟨Tryz.underlying102⟩
theorem aOm:dM ai 105 (.agg [.v (.slice none 0 0),.v (.int .i64 0)]):=by exact zk (i:=Tryz.t105) k6 rfl rfl rfl rfl
theorem at0:mP ai 105 [(1,false),(1,false)]:=⟨_,Tryz.underlying105,⟨rfl,T22,⟨rfl,T3,trivial⟩⟩,by decide⟩
instance:SI ai 105 [(1,false),(1,false)]:=⟨at0⟩
instance:UN ai 113 (.array 4 31):=⟨avb⟩
theorem al5:bS ai 113 12 true:=⟨by kernel_rfl,_,avb,rfl⟩
theorem aHN:dM ai 113 (.agg [ae 0,ae 0,ae 0,ae 0]):=by rw[kZ];exact zk (i:=Tryz.t113) k6 rfl rfl rfl rfl
instance:TI ai 113 12 true:=⟨al5⟩
instance:ZI ai 113 (.agg [ae 0,ae 0,ae 0,ae 0]):=⟨aHN⟩
instance:UN ai 121 (.int .u64):=⟨ajy⟩
instance:UN ai 124 (.slice 147):=⟨abf⟩
theorem aAb:bS ai 124 1 false:=⟨by kernel_rfl,_,abf,rfl⟩
instance:TI ai 124 1 false:=⟨aAb⟩
theorem ai8:bS ai 126 3 true:=⟨by kernel_rfl,_,aB6,rfl⟩
theorem aHU:dM ai 126 (.agg [.v (.int .i64 0),.v (.slice none 0 0),.v (.slice none 0 0)]):=by exact zk (i:=Tryz.t126) k6 rfl rfl rfl rfl
instance:TI ai 126 3 true:=⟨ai8⟩
instance:ZI ai 126 (.agg [.v (.int .i64 0),.v (.slice none 0 0),.v (.slice none 0 0)]):=⟨aHU⟩
theorem aL9:mP ai 126 [(1,false),(1,false),(1,false)]:=⟨_,aB6,⟨rfl,T3,⟨rfl,T25,⟨rfl,aAb,trivial⟩⟩⟩,by decide⟩
instance:SI ai 126 [(1,false),(1,false),(1,false)]:=⟨aL9⟩
theorem aau:bS ai 134 3 true:=⟨by kernel_rfl,_,aCi,rfl⟩
theorem aPg:ow ai 134 56:=⟨au3,by kernel_rfl,rfl⟩
theorem aPq:dM ai 134 (.agg [.v (.slice none 0 0),.v (.int .i64 0),.v (.slice none 0 0)]):=by exact zk (i:=au3) k6 rfl rfl rfl rfl
instance:TI ai 134 3 true:=⟨aau⟩
instance:ZI ai 134 (.agg [.v (.slice none 0 0),.v (.int .i64 0),.v (.slice none 0 0)]):=⟨aPq⟩
theorem aL6:mP ai 134 [(1,false),(1,false),(1,false)]:=⟨_,aCi,⟨rfl,T51,⟨rfl,T3,⟨rfl,T22,trivial⟩⟩⟩,by decide⟩
instance:SI ai 134 [(1,false),(1,false),(1,false)]:=⟨aL6⟩
instance:UN ai 135 (.slice 134):=⟨Tryz.underlying135⟩
instance:UN ai 143 (.slice 31):=⟨pF⟩
theorem aEB:bS ai 143 1 false:=⟨by kernel_rfl,_,pF,rfl⟩
instance:TI ai 143 1 false:=⟨aEB⟩
instance:UN ai 144 (.array 4 143):=⟨ar9⟩
theorem amP:bS ai 144 4 true:=⟨by kernel_rfl,_,ar9,rfl⟩
theorem aFQ:dM ai 144 (.agg [.v (.slice none 0 0),.v (.slice none 0 0),.v (.slice none 0 0),.v (.slice none 0 0)]):=by exact zk (i:=Tryz.t144) k6 rfl rfl rfl rfl
instance:TI ai 144 4 true:=⟨amP⟩
instance:ZI ai 144 (.agg [.v (.slice none 0 0),.v (.slice none 0 0),.v (.slice none 0 0),.v (.slice none 0 0)]):=⟨aFQ⟩
instance:UN ai 147 (.array 4 31):=⟨azx⟩
theorem acY:bS ai 147 12 true:=⟨by kernel_rfl,_,azx,rfl⟩
theorem ar1:ow ai 147 224:=⟨ax9,by kernel_rfl,rfl⟩
theorem ajg:dM ai 147 (.agg [ae 0,ae 0,ae 0,ae 0]):=by rw[kZ];exact zk (i:=ax9) k6 rfl rfl rfl rfl
instance:TI ai 147 12 true:=⟨acY⟩
instance:ZI ai 147 (.agg [ae 0,ae 0,ae 0,ae 0]):=⟨ajg⟩
instance:UN ai 153 (.slice 40):=⟨wa⟩
theorem apS:bS ai 153 1 false:=⟨by kernel_rfl,_,wa,rfl⟩
instance:TI ai 153 1 false:=⟨apS⟩
instance:UN ai 157 (.array 2 60):=⟨acq⟩
theorem aoe:bS ai 157 12 true:=⟨by kernel_rfl,_,acq,rfl⟩
theorem ai4:dM ai 157 (.agg [.agg [ae 0,ae 0],.agg [ae 0,ae 0]]):=by rw[kZ];exact zk (i:=Tryz.t157) k6 rfl rfl rfl rfl
instance:TI ai 157 12 true:=⟨aoe⟩
instance:UN ai 158 (.array 2 157):=⟨aBn⟩
theorem aMj:bS ai 158 24 true:=⟨by kernel_rfl,_,aBn,rfl⟩
theorem ap8:dM ai 158 (.agg [.agg [.agg [ae 0,ae 0],.agg [ae 0,ae 0]],.agg [.agg [ae 0,ae 0],.agg [ae 0,ae 0]]]):=by rw[kZ];exact zk (i:=Tryz.t158) k6 rfl rfl rfl rfl
instance:TI ai 158 24 true:=⟨aMj⟩
instance:ZI ai 158 (.agg [.agg [.agg [ae 0,ae 0],.agg [ae 0,ae 0]],.agg [.agg [ae 0,ae 0],.agg [ae 0,ae 0]]]):=⟨ap8⟩
theorem aES:bS ai 170 2 true:=⟨by kernel_rfl,_,azQ,rfl⟩
theorem aGt:dM ai 170 (.agg [.v (.slice none 0 0),.v (.slice none 0 0)]):=by exact zk (i:=Tryz.t170) k6 rfl rfl rfl rfl
instance:TI ai 170 2 true:=⟨aES⟩
instance:ZI ai 170 (.agg [.v (.slice none 0 0),.v (.slice none 0 0)]):=⟨aGt⟩
theorem aNn:mP ai 170 [(1,false),(1,false)]:=⟨_,azQ,⟨rfl,apS,⟨rfl,apS,trivial⟩⟩,by decide⟩
instance:SI ai 170 [(1,false),(1,false)]:=⟨aNn⟩
instance:UN ai 176 (.array 2 40):=⟨auQ⟩
theorem aGA:bS ai 176 18 true:=⟨by kernel_rfl,_,auQ,rfl⟩
theorem au4:dM ai 176 (.agg [.agg [ae 0,ae 0,ae 0],.agg [ae 0,ae 0,ae 0]]):=by rw[kZ];exact zk (i:=Tryz.t176) k6 rfl rfl rfl rfl
instance:TI ai 176 18 true:=⟨aGA⟩
instance:ZI ai 176 (.agg [.agg [ae 0,ae 0,ae 0],.agg [ae 0,ae 0,ae 0]]):=⟨au4⟩
instance:UN ai 198 (.int .u32):=⟨avM⟩
theorem uZ:bS ai 198 1 false:=⟨by kernel_rfl,_,avM,rfl⟩
theorem aej:ow ai 198 4:=⟨ax3,by kernel_rfl,rfl⟩
theorem adB:dM ai 198 (.v (.int .u32 0)):=by exact zk (i:=ax3) k6 rfl rfl rfl rfl
instance:TI ai 198 1 false:=⟨uZ⟩
instance:BI ai 198 4:=⟨aej⟩
instance:UN ai 206 (.array 2 31):=⟨aBD⟩
theorem aDB:bS ai 206 6 true:=⟨by kernel_rfl,_,aBD,rfl⟩
theorem aIC:dM ai 206 (.agg [ae 0,ae 0]):=by rw[kZ];exact zk (i:=Tryz.t206) k6 rfl rfl rfl rfl
instance:TI ai 206 6 true:=⟨aDB⟩
instance:ZI ai 206 (.agg [ae 0,ae 0]):=⟨aIC⟩
instance:UN ai 224 (.array 3 143):=⟨aub⟩
theorem anz:bS ai 224 3 true:=⟨by kernel_rfl,_,aub,rfl⟩
theorem aMk:dM ai 224 (.agg [.v (.slice none 0 0),.v (.slice none 0 0),.v (.slice none 0 0)]):=by exact zk (i:=Tryz.t224) k6 rfl rfl rfl rfl
instance:TI ai 224 3 true:=⟨anz⟩
instance:ZI ai 224 (.agg [.v (.slice none 0 0),.v (.slice none 0 0),.v (.slice none 0 0)]):=⟨aMk⟩
instance:UN ai 239 (.array 4 25):=⟨asA⟩
theorem awb:bS ai 239 4 true:=⟨by kernel_rfl,_,asA,rfl⟩
theorem aKg:dM ai 239 (.agg [.v (.slice none 0 0),.v (.slice none 0 0),.v (.slice none 0 0),.v (.slice none 0 0)]):=by exact zk (i:=Tryz.t239) k6 rfl rfl rfl rfl
instance:TI ai 239 4 true:=⟨awb⟩
instance:ZI ai 239 (.agg [.v (.slice none 0 0),.v (.slice none 0 0),.v (.slice none 0 0),.v (.slice none 0 0)]):=⟨aKg⟩
instance:UN ai 256 (.array 3 206):=⟨Tryz.underlying256⟩
theorem aEv:dM ai 256 (.agg [.agg [ae 0,ae 0],.agg [ae 0,ae 0],.agg [ae 0,ae 0]]):=by rw[kZ];exact zk (i:=Tryz.t256) k6 rfl rfl rfl rfl
instance:ZI ai 256 (.agg [.agg [ae 0,ae 0],.agg [ae 0,ae 0],.agg [ae 0,ae 0]]):=⟨aEv⟩
theorem yN:dM ai 60 (ar (0,0)):=by rw[zQ];exact Z60
instance:EC ai 2 eE 1 false 0:=⟨jH,Z2,T2⟩
instance:EC ai 3 eE 1 false 0:=⟨jH,Z3,T3⟩
instance:EC ai 31 ae 3 true 0:=⟨ao,Z31,cS⟩
instance:EC ai 40 aR 9 true ⟨0,0,0⟩:=⟨cu,Z40,jw⟩
instance:EC ai 42 aA 12 true ⟨⟨0,0,0⟩,0⟩:=⟨ez,xu,oT⟩
instance:EC ai 60 ar 6 true (0,0):=⟨bj,yN,lF⟩
instance:AE ai 60 ar 6 true (0,0):=⟨bj,yN⟩
instance:EC ai 198 bR 1 false 0:=⟨iE,adB,uZ⟩
section
variable {f:FuncId} {fn:Func} {c:Code} {args:List LV} {r:LV}
theorem aL(hf:ai.funcs[f]?=some fn)
  (h:c9 ai c (fun e L=>match e with | .exit _=>False|_=>pB ai fn.results.toList L r []) (St.mk (fun t=>args.getD t .any) (hp [])))
  (hb:fn.body=some c:=by exact rfl) (hn:(fn.name== "runtime.NumGoroutine")=false:=by decide +kernel) (hd:mQ fn.ntmps c=true:=by decide +kernel) (hlen:args.length<=fn.ntmps:=by exact Nat.le_of_ble_eq_true rfl) (ht:∀g,r.b8 g=r:=by exact tm0):an ai f args r:=aOt fol hf hb hn hd hlen ht h
theorem zi{bs:List aV}(hf:ai.funcs[f]?=some fn)
  (h:c9 ai c (fun e L=>match e with | .exit _=>False|_=>pB ai fn.results.toList L r bs) (St.mk (fun t=>args.getD t .any) (hp [])))
  (hb:fn.body=some c:=by exact rfl) (hn:(fn.name== "runtime.NumGoroutine")=false:=by decide +kernel) (hd:mQ fn.ntmps c=true:=by decide +kernel) (hlen:args.length<=fn.ntmps:=by exact Nat.le_of_ble_eq_true rfl):mW ai f args r bs:=aHz fol hf hb hn hd hlen h
theorem fnM{blk blk':aV}(hf:ai.funcs[f]?=some fn)
  (h:c9 ai c (fun e L=>match e with | .exit _=>False|_=>abL ai fn.results.toList L r blk') (St.mk (fun t=>args.getD t .any) (hp [(0,blk)])))
  (hb:fn.body=some c:=by exact rfl) (hn:(fn.name== "runtime.NumGoroutine")=false:=by decide +kernel) (hd:mQ fn.ntmps c=true:=by decide +kernel) (hlen:args.length<=fn.ntmps:=by exact Nat.le_of_ble_eq_true rfl) (gX:blk.mt=true:=by exact rfl):pe ai f blk args r blk':=aGo fol hf hb hn hd hlen gX h
end
end Go.Proofs.YtbkmfcmgilhaaaaGreat
end
section
set_option linter.unusedVariables false
set_option linter.unusedSimpArgs false
set_option maxHeartbeats 8000000
set_option maxRecDepth 100000
attribute [local irreducible] Go.Lg.opsL Go.Lg.c9 Go.Lg.oF Go.Lg.qF
namespace Go.Proofs.YtbkmfcmgilhaaaaGreat
open Go.Lg
namespace ay1
theorem wD{p q:Prop}(k:q)(e:p=q:=by simp only[bD,bo,bp,bh,ej,ek];exact rfl):p:=e.mpr k
theorem wi{p:Prop}(h:p:=by first|(refine wD ?_;exact rfl)|exact rfl):p:=h
theorem aph{p q:Prop}(k:q)(e:p=q:=by simp only[bD,bo,bp,bh,ek];exact rfl):p:=e.mpr k
theorem nf2{p:Prop}(h:p:=by first|(refine aph ?_;exact rfl)|exact rfl):p:=h
end ay1
open ay1 H0 in
theorem axM(l:List Nat)(hl:l.length<=4611686018427387904):an ai 139 [fS l] (fS (aap l)):=by
 unfold fS aap;refine aL atW ?_;refine ff ?_;refine dy (fun(k:Nat) L=>(mS L [] [(3,ah k),(0,.list 1 (l.map bR))])) (fun k=>k<=l.length/\kG l.length l=kG k l) (fun k=>k) l.length ⟨bF _,rfl⟩ ?_;rintro k L1 ⟨hk,zY⟩;refine a6 ?_;refine dU 8 rfl ?_ ?_<;>intro nX h8
 ·obtain⟨j,rfl⟩:∃j,k=j+1:=⟨k-1,J⟩;have ej:(((j+1:Nat):Int)-1).toNat=j:=J;have ek:(((j+1:Nat):Int)-1)=j:=J;refine bK ?_;refine vP wi ?_;refine bn ?_;refine aD rfl ?_ ?_<;>intro rB n9
  ·refine bK ?_;refine vP nf2 ?_;refine bc ?_;exact ji j ⟨J,zY.trans (by simp only[kG];rw[if_pos (by simpa using n9)])⟩
  refine bM ?_;refine al rfl agb ?_;refine aK ?_;rw[zY,kG,if_neg (by simpa using n9)];exact eG rfl (.pure (eY iE _ _))
 have nN:k=0:=J;subst nN;have ej:True:=trivial;have ek:True:=trivial;refine bK ?_;refine vP wi ?_;refine bN ?_;refine al rfl agb ?_;refine aK ?_;rw[zY];exact eG rfl (.pure (eY iE _ _))
namespace aeU
theorem aJ{p q:Prop}(k:q)(e:p=q:=by simp only[bD,bo,bp,bh,ik];exact rfl):p:=e.mpr k
end aeU
open aeU in
theorem an2(a b:List Nat)(ha:cE a)(hb:cE b)(iC:a.length<=1099511627776)(oE:b.length<=1099511627776):an ai 239 [fS a,fS b] (bu (val a+val b)):=by
 unfold fS bu;refine aL Tryz.func239 ?_;refine iR ?_;refine iZ (fun L=>∃(x:List Nat) (y:List Nat) (L1:St),(cE x/\cE y/\x.length<=1099511627776/\y.length<=x.length/\val a+val b=val x+val y)/\L=(mS L1 [] [(1,.list 1 (y.map bR)),(0,.list 1 (x.map bR))])) ?_ ?_
 ·refine aD rfl ?_ ?_<;>intro zu h13
  ·refine bK ?_;exact⟨b,a,_,⟨hb,ha,oE,J,vQ _ _⟩,eW⟩
  refine bc ?_;exact⟨a,b,_,⟨ha,hb,iC,J,rfl⟩,eW⟩
 rintro _ ⟨x,y,aQt,⟨hx,hy,hlx,hyx,hxy⟩,rfl⟩;rw[hxy];refine a6 ?_;refine gv rfl rfl (.nr (n:=x.length+1) (m:=x.length+1) ml ml om om om) ?_;refine nh ?_;refine wz (fun(k:Nat) (o:List Nat) (c:Nat) L=>(mS L [(19,⟨1,o.map bR,true⟩)] [(22,ah k),(21,ah x.length),(20,.list 1 (x.map bR)),(6,dF c),(5,.ref 19 1 0 (x.length+1)),(1,.list 1 (y.map bR)),(0,.list 1 (x.map bR))])) (fun k o c=>k<=x.length/\o.length=x.length+1/\c<=1/\cE o/\val (o.take k)+4294967296^k*c=val (x.take k)+val (y.take k)) (fun k o c=>x.length-k) 0 (av (x.length+1) 0) 0 ⟨bW _,by simp,J,yL _,by simp[val]⟩ ?_;rintro k o c L1 ⟨hk,dK,hc,cI,hv⟩;have wM:=kj hx k;have hyk:=kj hy k;refine a6 ?_;refine aD rfl ?_ ?_<;>intro qZ sb
 ·refine azO ?_;refine aD rfl ?_ ?_<;>intro akT h34
  ·refine aDo ?_;exact vU (k+1) (o.set k ((c+x.getD k 0+y.getD k 0)%4294967296)) ((c+x.getD k 0+y.getD k 0)/4294967296) ⟨J,by simp[dK],J,ox cI _ _ (nA _ J),aus J hv rfl⟩
  refine abi ?_;exact vU (k+1) (o.set k ((c+x.getD k 0)%4294967296)) ((c+x.getD k 0)/4294967296) ⟨J,by simp[dK],J,ox cI _ _ (nA _ J),aus J hv (by rw[xC y k J];rfl)⟩
 obtain rfl:k=x.length:=J;refine lV ?_;refine vj [19] vm (axM _ vJ) ?_;refine aK ?_;rw[<-aEu (c:=c%4294967296) hyx dK cI J (by rw[jU J];exact hv)];exact eG rfl (.pure (abd _))
theorem tZ(l:List Nat)(h:cE l)(hl:l.length<=4611686018427387904):an ai 139 [fS l] (bu (val l)):=by
 have:=axM l hl;rwa[yt h]at this
namespace af9
theorem aJ{p q:Prop}(k:q)(e:p=q:=by simp only[bD,bo,bp,bh,ik,ej];exact rfl):p:=e.mpr k
end af9
open af9 in
theorem aDt(a:List Nat)(hl:a.length<=4611686018427387904):an ai 137 [fS a] (bL (decide (a.length=0\/a.getD (a.length-1) 0≠0))):=by
 unfold fS;refine aL Tryz.func137 ?_;have ej:True:=trivial;refine bN ?_;refine dU 6 rfl ?_ ?_<;>intro y5 h6
 ·have ej:True:=trivial;refine bG ?_;refine eG ?_ (.pure rfl);simp only[e1,e2,e3,e4,p1,p2,p3,q1,q2,q3,bh];congr 2
  first|(symm;rw[decide_eq_true_iff];omega)|(rw[adt,bne_iff_ne,decide_eq_true_iff];omega)
 have ej:((a.length:Int)-1).toNat=a.length-1:=J;refine bG ?_;refine eG ?_ (.pure rfl);simp only[e1,e2,e3,e4,p1,p2,p3,q1,q2,q3,bh];congr 2
 first|(symm;rw[decide_eq_true_iff];omega)|(rw[adt,bne_iff_ne,decide_eq_true_iff];omega)
namespace afW
theorem aJ{p q:Prop}(k:q)(e:p=q:=by simp only[bD,bo,bp,bh,ik,ej,ek];exact rfl):p:=e.mpr k
end afW
open afW in
theorem avz(a:List Nat)(h:cE a)(hl:a.length<=2):an ai 228 [fS a] (dF (val a)):=by
 unfold fS;refine aL Tryz.func228 ?_;have ej:True:=trivial;have ek:True:=trivial;refine nn ?_;refine kR (fun(k n:Nat) L=>(mS L [] [(4,iL ((k:Int)-1)),(3,dF n),(0,.list 1 (a.map bR))])) (fun k n=>k<=a.length/\n=val (a.drop k)) (fun k n=>k) a.length 0 ⟨bF _,by simp[val]⟩ ?_;rintro k n L1 ⟨hk,hn⟩;refine bK ?_;refine aD rfl ?_ ?_<;>intro sw h9
 ·obtain⟨j,rfl⟩:∃j,k=j+1:=⟨k-1,J⟩;have ej:(((j+1:Nat):Int)-1).toNat=j:=J;have ek:(((j+1:Nat):Int)-1)=j:=J;have hb:=kj h j;have ma:n<4294967296:=by have:=asP h (k:=j+1) (j:=1) J;rw[hn];simpa using this
  refine abE ?_;exact ja j (n*4294967296+a.getD j 0) ⟨J,by rw[rH J,hn];omega⟩
 obtain rfl:k=0:=J;have ej:True:=trivial;have ek:True:=trivial;rw[jv]at hn;rw[<-hn];refine bG ?_;exact ee
open afW in
theorem aiF(a b:List Nat)(ha:cE a)(hb:cE b)(iC:a.length<=1099511627776)(oE:b.length<=1099511627776):an ai 163 [fS a,fS b] (iL (l8 (val a) (val b))):=by
 refine aL Tryz.func163 ?_;have ej:True:=trivial;have ek:True:=trivial;refine bH ?_;refine cp cr (tZ _ ka J) ?_;refine bn ?_;refine cp cr (tZ _ ka J) ?_;refine ff ?_;refine aD rfl ?_ ?_<;>intro pU jI
 ·have adJ:(ak (val a)).length<=1099511627776:=by rw[<-yt ha];unfold aap;simp;omega
  refine b7 ?_;refine aD rfl ?_ ?_<;>intro ab0 yI
  ·have hE:=ajq (m:=val a) (n:=val b) J;refine bH ?_
   first|(rw[tk hE];exact eG rfl (.pure rfl))|(rw[vN hE];exact eG rfl (.pure rfl))|(rw[xa hE];exact eG rfl (.pure rfl))
  have hE:=ajq (m:=val b) (n:=val a) J;refine bM ?_
  first|(rw[tk hE];exact eG rfl (.pure rfl))|(rw[vN hE];exact eG rfl (.pure rfl))|(rw[xa hE];exact eG rfl (.pure rfl))
 have hlen:(ak (val a)).length=(ak (val b)).length:=J;have adJ:(ak (val a)).length<=1099511627776:=by rw[<-yt ha];unfold aap;simp;omega
 clear jI pU;refine bG ?_;refine dy (fun(k:Nat) L=>(mS L [] [(5,iL ((k:Int)-1)),(1,bu (val b)),(0,bu (val a))])) (fun k=>k<=(ak (val a)).length/\(ak (val a)).drop k=(ak (val b)).drop k) (fun k=>k) ((ak (val a)).length) ⟨bF _,by rw[abX,mE J]⟩ ?_;rintro k L1 ⟨hk,hd⟩;refine bK ?_;refine aD rfl ?_ ?_<;>intro um rT
 ·obtain⟨j,rfl⟩:∃j,k=j+1:=⟨k-1,J⟩;have ej:(((j+1:Nat):Int)-1).toNat=j:=J;have ek:(((j+1:Nat):Int)-1)=j:=J;refine nh ?_;refine aD rfl ?_ ?_<;>intro aay h35
  ·refine ff ?_;refine aD rfl ?_ ?_<;>intro aLJ h44
   ·have hE:=alC (dX (val a)) (k:=j) J J hd J;rw[cL,cL]at hE;refine bG ?_
    first|(rw[tk hE];exact eG rfl (.pure rfl))|(rw[vN hE];exact eG rfl (.pure rfl))|(rw[xa hE];exact eG rfl (.pure rfl))
   have hE:=alC (dX (val b)) (k:=j) J J hd.symm J;rw[cL,cL]at hE;refine dj ?_
   first|(rw[tk hE];exact eG rfl (.pure rfl))|(rw[vN hE];exact eG rfl (.pure rfl))|(rw[xa hE];exact eG rfl (.pure rfl))
  refine bM ?_;exact ji j ⟨J,avi J J hd J⟩
 obtain rfl:k=0:=J;have ej:True:=trivial;have ek:True:=trivial;rw[jv,jv]at hd;have hE:val a=val b:=by have:=congrArg val hd;rwa[cL,cL]at this
 refine bN ?_
 first|(rw[tk hE];exact eG rfl (.pure rfl))|(rw[vN hE];exact eG rfl (.pure rfl))|(rw[xa hE];exact eG rfl (.pure rfl))
theorem aB3{b:List Nat}(h:cE b):(ak (val b)).length<=b.length:=by
 rw[<-yt h];unfold aap;simp;exact ase _ _
open H0 in
theorem aHj(a b:List Nat)(ha:cE a)(hb:cE b)(iC:a.length<=1099511627776)(oE:b.length<=1099511627776)(bV:val a<val b):an ai 240 [fS a,fS b] (.aY [fS [],iL 7]):=by
 refine aL aB5 ?_;refine bN ?_;refine cp aC (aiF _ _ ka ka J J) ?_;refine bI ?_;refine aD rfl ?_ ?_<;>intro rB n9
 ·refine bH ?_;exact uC rfl (.nil 1) rfl (.pure rfl)
 exfalso;rw[tk bV]at n9;omega
theorem aDW{k br:Nat}{a b o:List Nat}(dK:k<o.length)(qj:br<=1)(hx:a.getD k 0<4294967296)(hyb:b.getD k 0<4294967296)(cI:cE o)(hv:val (o.take k)+val (b.take k)=val (a.take k)+4294967296^k*br){y d:Nat}
  (hy:y=br+b.getD k 0) (hd:d=(18446744073709551616+a.getD k 0-y)%18446744073709551616) :
  d/9223372036854775808<=1/\cE (o.set k (d%4294967296))/\val ((o.set k (d%4294967296)).take (k+1))+val (b.take (k+1))=val (a.take (k+1))+4294967296^(k+1)*(d/9223372036854775808):=by
 refine⟨J,ox cI _ _ J,?_⟩;rcases g7 (a.getD k 0) y with h|h
 ·have h1:d%4294967296=4294967296+a.getD k 0-y:=J;have h2:d/9223372036854775808=1:=J;rw[h1,h2];exact ayq dK hv hy h J
 have h1:d%4294967296=a.getD k 0-y:=J;have h2:d/9223372036854775808=0:=J;rw[h1,h2];exact awC dK hv hy h
open aeU in
theorem aIS(a b:List Nat)(ha:cE a)(hb:cE b)(iC:a.length<=1099511627776)(oE:b.length<=1099511627776)(hle:val b<=val a):an ai 240 [fS a,fS b] (.aY [bu (val a-val b),iL 0]):=by
 have ve:(ak (val b)).length<=a.length:=by
  apply aai;exact wQ hle (aew ha)
 refine aL aB5 ?_;refine bN ?_;refine cp aC (aiF _ _ ka ka J J) ?_;refine bI ?_;refine aD rfl ?_ ?_<;>intro rB n9
 ·exfalso;rcases axH hle with h|h
  ·rw[vN h]at n9;omega
  rw[xa h.symm]at n9;omega
 refine aW ?_;refine cp cr (tZ _ ka J) ?_;refine bK ?_;refine gv rfl rfl (.nr (n:=a.length) (m:=a.length) ml ml om om om) ?_;refine nh ?_;refine wz (fun(k:Nat) (o:List Nat) (br:Nat) L=>(mS L [(20,⟨1,o.map bR,true⟩)] [(23,ah k),(22,ah a.length),(21,.list 1 (a.map bR)),(7,dF br),(6,.ref 20 1 0 a.length),(1,bu (val b)),(0,.list 1 (a.map bR))])) (fun k o br=>k<=a.length/\o.length=a.length/\br<=1/\cE o/\val (o.take k)+val ((ak (val b)).take k)=val (a.take k)+4294967296^k*br) (fun k o br=>a.length-k) 0 (av a.length 0) 0 ⟨bW _,by simp,J,yL _,by simp[val]⟩ ?_;rintro k o br L1 ⟨hk,dK,qj,cI,hv⟩;have wM:=kj ha k;have hyk:=jN (val b) k;refine a6 ?_;refine aD rfl ?_ ?_<;>intro um rT
 ·refine apC ?_;refine iZ (fun L=>∃(y:Nat) (L1:St),(y=br+(ak (val b)).getD k 0)/\L=(mS L1 [(20,⟨1,o.map bR,true⟩)] [(10,dF y),(8,ah k),(9,bR (a.getD k 0)),(23,ah k),(22,ah a.length),(21,.list 1 (a.map bR)),(7,dF br),(6,.ref 20 1 0 a.length),(1,bu (val b)),(0,.list 1 (a.map bR))])) ?_ ?_
  ·refine aD rfl ?_ ?_<;>intro ab5 h32
   ·refine bN ?_;exact⟨br+(ak (val b)).getD k 0,_,rfl,eW⟩
   refine bc ?_;exact⟨br,_,by rw[xC _ k J];rfl,eW⟩
  rintro _ ⟨y,aRz,hy,rfl⟩;refine a6 ?_;refine al rfl (.bin rfl rfl (ag9 J)) ?_;refine zd ?_;exact vU (k+1) (o.set k ((18446744073709551616+a.getD k 0-y)%18446744073709551616%4294967296)) ((18446744073709551616+a.getD k 0-y)%18446744073709551616/9223372036854775808) ⟨J,by simp[dK],aDW J qj wM hyk cI hv hy rfl⟩
 obtain rfl:k=a.length:=J;refine bH ?_;refine vj [20] vm (tZ _ ka J) ?_;refine aW ?_;have e:=aw6 ha cI dK ve (by rw[cL];exact hle) hv;rw[yt cI,cL]at e;have e2:=congrArg val e;rw[cL,cL]at e2;rw[<-e2];exact uC rfl (.pure (mq _)) rfl (.pure rfl)
theorem aDd{c x y z:Nat}(hc:c<4294967296)(hx:x<4294967296)(hy:y<4294967296)(hz:z<4294967296):c+(x*y+z)<18446744073709551616:=by
 have:=x9 hx hy;omega
theorem mul_zero{i x:Nat}{a b o:List Nat}(hx:x=a.getD i 0)(h0:x=0)(hv:val o=val (a.take i)*val b):val o=val (a.take (i+1))*val b:=by
 rw[rY,<-hx,h0];simpa using hv
theorem arV{i m j x:Nat}{o:List Nat}(hj:j<m)(hz:∀p,i+m<=p->o.getD p 0=0):∀p,i+m<=p->(o.set (i+j) x).getD p 0=0:=fun p hp=>by
 rw[Go.Lg.getD_set_ne _ _ _ _ J];exact hz p hp
theorem awE{i m x:Nat}{o:List Nat}(hz:∀p,i+m<=p->o.getD p 0=0):∀p,i+1+m<=p->(o.set (i+m) x).getD p 0=0:=fun p hp=>by
 rw[Go.Lg.getD_set_ne _ _ _ _ J];exact hz p J
theorem atg(n p:Nat):(av n 0).getD p 0=0:=by
 rw[bq,List.getElem?_replicate];split<;>rfl
namespace aqf
theorem aJ{p q:Prop}(k:q)(e:p=q:=by simp only[bD,bo,bp,bh,ik,jV];exact rfl):p:=e.mpr k
end aqf
open aqf in
theorem aoG(a b:List Nat)(ha:cE a)(hb:cE b)(iC:a.length<=1099511627776)(oE:b.length<=1099511627776):an ai 164 [fS a,fS b] (bu (val a*val b)):=by
 unfold fS;refine aL Tryz.func164 ?_;have jV:True:=trivial;refine bG ?_;refine gv rfl rfl (.nr (n:=a.length+b.length) (m:=a.length+b.length) ml ml om om om) ?_;refine bG ?_;refine kR (fun(i:Nat) (o:List Nat) L=>(mS L [(16,⟨1,o.map bR,true⟩)] [(19,ah i),(18,ah a.length),(17,.list 1 (a.map bR)),(5,.ref 16 1 0 (a.length+b.length)),(1,.list 1 (b.map bR)),(0,.list 1 (a.map bR))])) (fun i o=>i<=a.length/\o.length=a.length+b.length/\cE o/\val o=val (a.take i)*val b/\∀p,i+b.length<=p->o.getD p 0=0) (fun i o=>a.length-i) 0 (av (a.length+b.length) 0) ⟨bW _,by simp,yL _,by simp[val,al2],fun p _=>atg _ _⟩ ?_;rintro i o L1 ⟨hi,dK,cI,hv,hz⟩;have hxi:=kj ha i;have jV:True:=trivial;refine a6 ?_;refine aD rfl ?_ ?_<;>intro wk h20
 ·refine nn ?_;refine aD rfl ?_ ?_<;>intro acR qT
  ·refine bM ?_;exact ja (i+1) o ⟨J,dK,cI,mul_zero rfl J hv,fun p hp=>hz p J⟩
  refine lN ?_;refine wz (fun(j:Nat) (o:List Nat) (c:Nat) L=>(mS L [(16,⟨1,o.map bR,true⟩)] [(28,ah j),(27,ah b.length),(26,.list 1 (b.map bR)),(8,dF c),(7,bR (a.getD i 0)),(6,ah i),(19,ah i),(18,ah a.length),(17,.list 1 (a.map bR)),(5,.ref 16 1 0 (a.length+b.length)),(1,.list 1 (b.map bR)),(0,.list 1 (a.map bR))])) (fun j o c=>j<=b.length/\o.length=a.length+b.length/\cE o/\c<4294967296/\val o+4294967296^(i+j)*c=val (a.take i)*val b+4294967296^i*(a.getD i 0*val (b.take j))/\∀p,i+b.length<=p->o.getD p 0=0) (fun j o c=>b.length-j) 0 o 0 ⟨bW _,dK,cI,J,by rw[hv];simp[val],hz⟩ ?_;rintro j o c L2 ⟨hj,dK,cI,hc,hv,hz⟩;have hyj:=kj hb j;have hzj:=kj cI (i+j);have hs:=aDd hc hxi hyj hzj;have jV:((i:Int)+(j:Int)).toNat=i+j:=J;refine a6 ?_;refine aD rfl ?_ ?_<;>intro adu h29
  ·refine aKZ ?_;exact vU (j+1) (o.set (i+j) ((c+(a.getD i 0*b.getD j 0+o.getD (i+j) 0))%4294967296)) ((c+(a.getD i 0*b.getD j 0+o.getD (i+j) 0))/4294967296) ⟨J,by simp[dK],ox cI _ _ (nA _ J),J,aA2 J hv rfl,arV J hz⟩
  obtain rfl:j=b.length:=J;have aHk:((i:Int)+(b.length:Int)).toNat=i+b.length:=J;refine abE ?_;exact ja (i+1) (o.set (i+b.length) (c%4294967296)) ⟨J,by simp[dK],ox cI _ _ (nA _ J),by rw[jU hc];exact auV J J (hz _ (bF _)) rfl rfl hv,awE hz⟩
 obtain rfl:i=a.length:=J;refine bH ?_;refine vj [16] vm (tZ _ ka vJ) ?_;refine aK ?_;rw[py]at hv;rw[<-hv];exact ee
open afW in
theorem aPa(a:List Nat)(d:Nat)(ha:cE a)(iC:a.length<=1099511627776)(lY:0<d)(hd:d<4294967296):an ai 266 [fS a,sY d] (.aY [bu (val a/d),sY (val a%d)]):=by
 unfold fS;refine aL Tryz.func266 ?_;have ej:True:=trivial;have ek:True:=trivial;refine b7 ?_;refine gv rfl rfl (.nr (n:=a.length) (m:=a.length) ml ml om om om) ?_;refine uV ?_;refine wz (fun(k:Nat) (q:List Nat) (r:Nat) L=>(mS L [(11,⟨1,q.map bR,true⟩)] [(8,iL ((k:Int)-1)),(7,dF r),(6,.ref 11 1 0 a.length),(1,sY d),(0,.list 1 (a.map bR))])) (fun k q r=>k<=a.length/\q.length=a.length/\cE q/\r<d/\val (q.drop k)*d+r=val (a.drop k)) (fun k q r=>k) a.length (av a.length 0) 0 ⟨bF _,by simp,yL _,lY,by simp[val]⟩ ?_;rintro k q r L1 ⟨hk,jG,mc,hr,hv⟩;refine bK ?_;refine aD rfl ?_ ?_<;>intro yY yW
 ·obtain⟨j,rfl⟩:∃j,k=j+1:=⟨k-1,J⟩;have ej:(((j+1:Nat):Int)-1).toNat=j:=J;have ek:(((j+1:Nat):Int)-1)=j:=J;have hxj:=kj ha j;refine abi ?_;refine al rfl ahT ?_;refine nn ?_;exact vU j (q.set j ((r*4294967296+a.getD j 0)/d%4294967296)) ((r*4294967296+a.getD j 0)%d) ⟨J,by simp[jG],ox mc _ _ (nA _ J),nA _ lY,by rw[jU (asI hr hxj)];exact atZ J jG hv rfl⟩
 obtain rfl:k=0:=J;have ej:True:=trivial;have ek:True:=trivial;refine bH ?_;refine vj [11] vm (tZ _ ka vJ) ?_;refine bK ?_;obtain⟨E1,E2⟩:=avC lY hr mc hv;rw[yt mc]at E1;have E3:=congrArg val E1;rw[cL,cL]at E3;rw[<-E3,<-E2];have E4:r%4294967296=r:=jU J;refine uC rfl (.pure (mq _)) rfl ?_;show dt _ (sY (r%4294967296)) (sY r);rw[E4];exact .pure rfl
theorem aiJ{s:Nat}(hs:s<32):2^s<=2147483648/\0<2^s:=⟨mN (n:=2) J (show s<=31 by omega),ov J⟩
theorem awA{m:Nat}(h:m<256):(0:Int)<=IntKind.u8.wrap (m:Int)/\(IntKind.u8.wrap (m:Int)).toNat=m:=by
 rw[IntKind.wrap_u8];omega
theorem arU{x p:Nat}(hx:x<4294967296)(hp:p<=2147483648):x*p<=9223372034707292160:=by
 have:=Nat.mul_le_mul (Nat.le_sub_one_of_lt hx) hp;simpa using this
theorem ayZ{x p c:Nat}(hx:x<4294967296)(hc:c<p):(x*p+c)/4294967296<p:=by
 rw[pM J];have:(x+1)*p<=4294967296*p:=jd _ hx;rw[iV]at this;rw[ie p];omega
open aeU in
theorem aPt(a:List Nat)(s:Nat)(ha:cE a)(iC:a.length<=1099511627776)(hs:s<32):mW ai 268 [fS a,ah s] (.ref 1 1 0 (a.length+1)) [⟨1,(jT (a.length+1) (val a*2^s)).map bR,true⟩]:=by
 unfold fS;refine zi Tryz.func268 ?_;refine b7 ?_;refine gv rfl rfl (.nr (n:=a.length+1) (m:=a.length+1) ml ml om om om) ?_;refine nh ?_;refine wz (fun(k:Nat) (o:List Nat) (c:Nat) L=>(mS L [(12,⟨1,o.map bR,true⟩)] [(15,ah k),(14,ah a.length),(13,.list 1 (a.map bR)),(6,dF c),(5,.ref 12 1 0 (a.length+1)),(1,ah s),(0,.list 1 (a.map bR))])) (fun k o c=>k<=a.length/\o.length=a.length+1/\c<2^s/\cE o/\val (o.take k)+4294967296^k*c=val (a.take k)*2^s) (fun k o c=>a.length-k) 0 (av (a.length+1) 0) 0 ⟨bW _,by simp,(aiJ hs).2,yL _,by simp[val]⟩ ?_;rintro k o c L1 ⟨hk,dK,hc,cI,hv⟩;have wM:=kj ha k;obtain⟨mj,tq⟩:=aiJ hs;have vv:=arU wM mj;refine a6 ?_;refine aD rfl ?_ ?_<;>intro yY yW
 ·refine lV ?_;refine al rfl (.sh rfl rfl (aAh J J)) ?_;refine al rfl (.bin rfl rfl (orV hc J)) ?_;refine zd ?_;exact vU (k+1) (o.set k ((a.getD k 0*2^s+c)%4294967296)) ((a.getD k 0*2^s+c)/4294967296) ⟨J,by simp[dK],ayZ wM hc,ox cI _ _ (nA _ J),aFa J hv rfl⟩
 obtain rfl:k=a.length:=J;refine abE ?_;have uU:c%4294967296=c:=jU J;have E:=aKt dK hv;have E2:=al3 (ox cI a.length c J) (by simp only[lQ];exact dK);rw[E]at E2;rw[<-E2];simp only[uU];exact age rfl rfl (bm iE _)
open H0 in
theorem arD(n:Nat)(hn:n<18446744073709551616):an ai 229 [dF n] (bu n):=by
 have hL:cE [n%4294967296,n/4294967296%4294967296]:=by
  intro x hx;simp at hx;omega
 have hV:val [n%4294967296,n/4294967296%4294967296]=n:=by rw[val_two];omega
 refine aL Tryz.func229 ?_;refine dj ?_;refine vj [8] vm (tZ _ ka vJ) ?_;refine aK ?_
 skip
 exact eG rfl (by rw[hV];exact .pure (mq _))
namespace as9
theorem wD{p q:Prop}(k:q)(e:p=q:=by simp only[bD,bo,bp,bh,hbn];exact rfl):p:=e.mpr k
theorem wi{p:Prop}(h:p:=by first|(refine wD ?_;exact rfl)|exact rfl):p:=h
end as9
open as9 H0 in
theorem ar4(n:Nat)(hn:n<4294967296):an ai 140 [sY n] (iL (eI n)):=by
 refine aL Tryz.func140 ?_;refine bG ?_;refine iZ (fun L=>∃(m:Nat) (q:Nat) (L1:St),(eI n=q+eI m/\m<65536/\q<=16)/\L=(mS L1 [] [(2,iL q),(0,sY m)])) ?_ ?_
 ·refine aD rfl ?_ ?_<;>intro h4r h4
  ·refine bI ?_;refine al rfl (.sh rfl rfl (agJ (m:=16) aj)) ?_;refine bK ?_;exact⟨n/2^16,16,_,⟨alL J,J,J⟩,eW⟩
  refine bc ?_;exact⟨n,0,_,⟨J,J,J⟩,eW⟩
 rintro _ ⟨m,q,LC4,⟨xH,hm,hq⟩,rfl⟩;refine bH ?_;refine iZ (fun L=>∃(m2:Nat) (q2:Nat) (L1:St),(eI n=q2+eI m2/\m2<256/\q2<=24)/\L=(mS L1 [] [(2,iL q2),(0,sY m2)])) ?_ ?_
 ·refine aD rfl ?_ ?_<;>intro nX h8
  ·refine bI ?_;refine al rfl (.sh rfl rfl (agJ (m:=8) aj)) ?_;refine bM ?_;exact⟨m/2^8,q+8,_,⟨by rw[xH,alL (n:=m) (k:=8) J];omega,J,J⟩,eW⟩
  refine bc ?_;exact⟨m,q,_,⟨xH,J,J⟩,eW⟩
 rintro _ ⟨m2,q2,LC8,⟨hb2,fC,hq2⟩,rfl⟩;have hb8:eI m2<=8:=yP.2 fC;have hbn:(UInt8.ofNat (eI m2)).toNat=eI m2:=(by decide:∀k,k<=8->(UInt8.ofNat k).toNat=k) _ hb8;refine a6 ?_;refine al rfl (.akc (b:=UInt8.ofNat (eI m2)) rfl Tryz.underlying9 rfl (awA fC).1 (by rw[(awA fC).2];exact tbl aG fC)) ?_;refine al rfl (.cvI arR avZ rfl J J) ?_;refine al rfl acz ?_;refine bn ?_;refine vP wi ?_;refine bc ?_;rw[hb2];exact eG rfl (by first|exact .pure rfl|(rw[hbn];exact .pure rfl))
open H0 in
theorem aPT(n:Nat)(hn:n<4294967296):an ai 267 [sY n] (iL (32-eI n)):=by
 have hb:eI n<=32:=yP.2 hn;refine aL Tryz.func267 ?_;refine bH ?_;refine cp cr (ar4 _ J) ?_;refine aW ?_;exact ee
theorem aet(l:List Nat)(h:cE l)(hl:l.length<=1099511627776):(ak (val l)).length<=1099511627776:=aP (aB3 h) hl
theorem asH{n:Nat}(h:0<(ak n).length):32*((ak n).length-1)+eI ((ak n).getD ((ak n).length-1) 0)=eI n:=by
 have:=aGT (dX n) (afz n) h;rw[cL]at this;omega
open af9 in
theorem agh(a:List Nat)(ha:cE a)(iC:a.length<=1099511627776):an ai 64 [fS a] (iL (eI (val a))):=by
 have bV:=aet a ha iC;refine aL Tryz.func64 ?_;have ej:True:=trivial;refine bH ?_;refine cp cr (tZ _ ka vJ) ?_;refine bN ?_;refine aD rfl ?_ ?_<;>intro h7r h7
 ·have h0:val a=0:=vh.1 (pQ J);have hz:eI (val a)=0:=aaa.2 h0;refine bK ?_;rw[hz];exact ee
 have nt:0<(ak (val a)).length:=J;have ej:(((ak (val a)).length:Int)-1).toNat=(ak (val a)).length-1:=J;have hz:=asH nt;have ad7:=jN (val a) ((ak (val a)).length-1);have aql:eI ((ak (val a)).getD ((ak (val a)).length-1) 0)<=32:=yP.2 ad7;refine ff ?_;refine cp cr (ar4 _ (by rw[ej];exact ad7)) ?_;refine al rfl (.bin rfl rfl (w6 (by simp only[ej,ik];omega) (by simp only[ej,ik];omega))) ?_;refine aK ?_;refine eG ?_ (.pure rfl);simp only[e1,e2,e3,e4,p1,p2,p3,q1,q2,q3,bh];congr 2;omega
namespace ayu
theorem wD{p q:Prop}(k:q)(e:p=q:=by simp only[bD,bo,bp,bh,List.take_zero,gU,fD,dO iE,LV.kill];exact rfl):p:=e.mpr k
theorem wi{p:Prop}(h:p:=by first|(refine wD ?_;exact rfl)|exact rfl):p:=h
end ayu
open ayu H0 in
theorem agZ(a:List Nat)(iC:a.length<=1099511627776):an ai 226 [fS a] (fS a):=by
 unfold fS;refine aL Tryz.func226 ?_;refine bK ?_;refine ah5 (aH6 (sz:=1) (l:=a.map bR) rfl rV (fun b hb=>?_));refine bn ?_;refine aD rfl ?_ ?_<;>intro h4r h4
 ·have aiG:a=[]:=by simpa using hb h4r
  subst aiG;refine bK ?_;exact eG rfl (.nil 1)
 refine a6 ?_;refine cj rfl (.app rfl rfl rfl rfl rfl (bW _) (.inr rfl) aj rV rV adB uZ rfl aej (.inr (.inl rfl)) aQ aQ aj) ?_;refine bn ?_;refine vP wi ?_;refine bc ?_;exact lZ [7] rfl rfl (da iE rfl rfl aE)
open aeU in
theorem ajK(a b:List Nat)(iC:a.length<=1099511627776)(oE:b.length<=1099511627776):an ai 162 [fS a,fS b] (bL (decide (a=b))):=by
 unfold fS;refine aL Tryz.func162 ?_;refine iR ?_;refine aD rfl ?_ ?_<;>intro nj pC
 ·have hE:a≠b:=by rintro rfl;omega
  refine bK ?_
  first|(rw[decide_eq_true hE];exact eG rfl (.pure rfl))|(rw[decide_eq_false hE];exact eG rfl (.pure rfl))
 have hl:a.length=b.length:=J;clear pC nj;refine bN ?_;refine dy (fun(k:Nat) L=>(mS L [] [(13,ah k),(12,ah a.length),(11,.list 1 (a.map bR)),(1,.list 1 (b.map bR)),(0,.list 1 (a.map bR))])) (fun k=>k<=a.length/\a.take k=b.take k) (fun k=>a.length-k) 0 ⟨bW _,rfl⟩ ?_;rintro k L1 ⟨hk,ht⟩;refine a6 ?_;refine aD rfl ?_ ?_<;>intro pU jI
 ·refine abE ?_;refine aD rfl ?_ ?_<;>intro um rT
  ·have hE:a≠b:=by rintro rfl;omega
   refine bN ?_
   first|(rw[decide_eq_true hE];exact eG rfl (.pure rfl))|(rw[decide_eq_false hE];exact eG rfl (.pure rfl))
  refine bH ?_;exact ji (k+1) ⟨J,aET J J ht J⟩
 obtain rfl:k=a.length:=J;have hE:a=b:=by rw[py,hl,py]at ht;exact ht
 refine bN ?_
 first|(rw[decide_eq_true hE];exact eG rfl (.pure rfl))|(rw[decide_eq_false hE];exact eG rfl (.pure rfl))
namespace asy
theorem aJ{p q:Prop}(k:q)(e:p=q:=by simp only[bD,bo,bp,bh,ej,ek,ik];exact rfl):p:=e.mpr k
end asy
open asy in
theorem aGO(l:List Nat)(hl:l.length<=4611686018427387904)(h0:0<l.length):pe ai 139 ⟨1,l.map bR,true⟩ [.ref 0 1 0 l.length] (.ref 0 1 0 (kG l.length l)) ⟨1,l.map bR,true⟩:=by
 refine fnM atW ?_;have ej:True:=trivial;have ek:True:=trivial;refine ff ?_;refine dy (fun(k:Nat) L=>(mS L [(0,⟨1,l.map bR,true⟩)] [(3,ah k),(0,.ref 0 1 0 l.length)])) (fun k=>k<=l.length/\kG l.length l=kG k l) (fun k=>k) l.length ⟨bF _,rfl⟩ ?_;rintro k L1 ⟨hk,zY⟩;refine a6 ?_;refine dU 8 rfl ?_ ?_<;>intro nX h8
 ·obtain⟨j,rfl⟩:∃j,k=j+1:=⟨k-1,J⟩;have ej:(((j+1:Nat):Int)-1).toNat=j:=J;have ek:(((j+1:Nat):Int)-1)=j:=J;refine bM ?_;refine aD rfl ?_ ?_<;>intro rB n9
  ·refine b7 ?_;exact ji j ⟨J,zY.trans (by simp only[kG];rw[if_pos (by simpa using n9)])⟩
  refine bM ?_;refine al rfl agb ?_;refine aK ?_;rw[zY,kG,if_neg (by simpa using n9)];exact yD rfl .ref rfl rfl (bm iE _)
 have nN:k=0:=J;subst nN;refine lV ?_;refine al rfl agb ?_;refine aK ?_;rw[zY];exact yD rfl .ref rfl rfl (bm iE _)
theorem aJz(l:List Nat)(n:Nat)(hn:n=l.length)(hl:n<=4611686018427387904)(h0:0<n):pe ai 139 ⟨1,l.map bR,true⟩ [.ref 0 1 0 n] (.ref 0 1 0 (kG n l)) ⟨1,l.map bR,true⟩:=by
 subst hn;exact aGO l hl h0
theorem ayJ(x s:Nat)(iC:(ak x).length<=1099511627776)(hs:s<32):mW ai 268 [bu x,ah s] (.ref 1 1 0 ((ak x).length+1)) [⟨1,(jT ((ak x).length+1) (x*2^s)).map bR,true⟩]:=by
 have:=aPt (ak x) s (dX x) iC hs;rw[cL]at this;exact this
theorem val_one(x:Nat):val [x]=x:=by simp[val]
theorem auN{x:Nat}(h:x<=32):(32:Int)-(x:Int)=((32-x:Nat):Int):=J
namespace aeF
theorem aJ{p q:Prop}(k:q)(e:p=q:=by simp only[bD,bo,bp,bh,ik,cL,ej,ek,es,eV,rF,qI,tz,u7,vK,rf,sT,jV,xe,wV,rP,tK,List.set_set,lQ,Nat.add_mod_mod,uM,vb,mT,me];exact rfl):p:=e.mpr k
theorem wD{p q:Prop}(k:q)(e:p=q:=by simp only[bD,bo,bp,bh,ik,cL,ej,ek,es,eV,rF,qI,tz,u7,vK,rf,sT,jV,xe,wV,rP,tK,List.set_set,lQ,Nat.add_mod_mod,uM,vb,mT,me,vK];exact rfl):p:=e.mpr k
theorem wi{p:Prop}(h:p:=by first|(refine wD ?_;exact rfl)|exact rfl):p:=h
theorem aph{p q:Prop}(k:q)(e:p=q:=by simp only[bD,bo,bp,bh,ik,cL,ej,ek,es,eV,rF,qI,tz,u7,vK,rf,sT,jV,xe,wV,rP,tK,List.set_set,lQ,Nat.add_mod_mod,uM,vb,mT,me,val_one];exact rfl):p:=e.mpr k
theorem nf2{p:Prop}(h:p:=by first|(refine aph ?_;exact rfl)|exact rfl):p:=h
theorem aE9{p q:Prop}(k:q)(e:p=q:=by simp only[bD,bo,bp,bh,ik,cL,ej,ek,es,eV,rF,qI,tz,u7,vK,rf,sT,jV,xe,wV,rP,tK,List.set_set,lQ,Nat.add_mod_mod,uM,vb,mT,me,acu,u7];exact rfl):p:=e.mpr k
theorem nf3{p:Prop}(h:p:=by first|(refine aE9 ?_;exact rfl)|exact rfl):p:=h
theorem atr{p q:Prop}(k:q)(e:p=q:=by simp only[bD,bo,bp,bh,ik,cL,ej,ek,es,eV,rF,qI,tz,u7,vK,rf,sT,jV,xe,wV,rP,tK,List.set_set,lQ,Nat.add_mod_mod,uM,vb,mT,me,me];exact rfl):p:=e.mpr k
theorem nf4{p:Prop}(h:p:=by first|(refine atr ?_;exact rfl)|exact rfl):p:=h
theorem gr{p:Prop}(h:p:=by first|rfl|(refine atr ?_;first|exact trivial|rfl|(congr 3<;>omega)|(congr 2<;>omega))):p:=h
theorem aFz{p q:Prop}(k:q)(e:p=q:=by simp only[bD,bo,bp,bh,ik,cL,ej,ek,es,eV,rF,qI,tz,u7,vK,rf,sT,jV,xe,wV,rP,tK,List.set_set,lQ,Nat.add_mod_mod,uM,vb,mT,me,me,u7];exact rfl):p:=e.mpr k
theorem vB{p:Prop}(h:p:=by first|rfl|(refine aFz ?_;first|exact trivial|rfl|(congr 3<;>omega)|(congr 2<;>omega))):p:=h
theorem aHO{p q:Prop}(k:q)(e:p=q:=by simp only[bD,bo,bp,bh,ik,cL,ej,ek,es,eV,rF,qI,tz,u7,vK,rf,sT,jV,xe,wV,rP,tK,List.set_set,lQ,Nat.add_mod_mod,uM,vb,mT,me,<-hT];exact rfl):p:=e.mpr k
theorem nf6{p:Prop}(h:p:=by first|(refine aHO ?_;exact rfl)|exact rfl):p:=h
end aeF
open aeF in
theorem aPl(b ul ql:List Nat)(n s m q0 j:Nat)(me:(ak (val b*2^s)).length=n+2)(lK:n+2<=m)(qm:m<=1099511627776)(mK:q0=m+1-(n+2))(hk:j+1<=q0)(nY:ul.length=m+1)(jG:ql.length=q0)(jb:cE ul)(mc:cE ql)(wX:2147483648<=(ak (val b*2^s)).getD (n+1) 0)(mV:0<(val b*2^s))(yC:(val b*2^s)<4294967296^(n+2))(bV:val ul<(val b*2^s)*4294967296^(j+1)){Q:lR->St->Prop}(L1:St)
  (hQ:∀(x:Nat) (L2:St),(val ul/4294967296^j/(val b*2^s)<=x/\x<=val ul/4294967296^j/(val b*2^s)+1/\x<4294967296)->Q .normal (mS L2 [(1001057,⟨1,ul.map bR,true⟩),(1001105,⟨1,(jT ((ak (val b)).length+1) (val b*2^s)).map bR,false⟩),(77,⟨1,ql.map bR,true⟩)] [(15,dF x),(13,iL (((j+1:Nat):Int)-1)),(12,ah (n+2)),(11,bu (val b*2^s)),(10,.ref 1001057 1 0 (m+1)),(9,ah s),(4,.ref 77 1 0 q0)])) :
  c9 ai ((adF agz [1,1,1,1,1,1,1,0,1,0,0,1,0,0,1,1,0]).getD .skip) Q (mS L1 [(1001057,⟨1,ul.map bR,true⟩),(1001105,⟨1,(jT ((ak (val b)).length+1) (val b*2^s)).map bR,false⟩),(77,⟨1,ql.map bR,true⟩)] [(16,dF ((ul.getD (n+2+j) 0*4294967296+ul.getD (n+1+j) 0)%(ak (val b*2^s)).getD (n+1) 0)),(15,dF ((ul.getD (n+2+j) 0*4294967296+ul.getD (n+1+j) 0)/(ak (val b*2^s)).getD (n+1) 0)),(13,iL (((j+1:Nat):Int)-1)),(12,ah (n+2)),(11,bu (val b*2^s)),(10,.ref 1001057 1 0 (m+1)),(9,ah s),(4,.ref 77 1 0 q0)]):=by
 have ej:True:=trivial;have ek:True:=trivial;have es:True:=trivial;have eV:True:=trivial;have rF:True:=trivial;have qI:True:=trivial;have tz:True:=trivial;have u7:True:=trivial;have vK:True:=trivial;have rf:True:=trivial;have sT:True:=trivial;have jV:True:=trivial;have xe:True:=trivial;have wV:True:=trivial;have rP:True:=trivial;have tK:True:=trivial;have uM:True:=trivial;have vb:True:=trivial;have mT:True:=trivial;have rF:((j:Int)+((n+2:Nat):Int)).toNat=n+2+j:=J;have qI:((j:Int)+((n+2:Nat):Int)-1).toNat=n+1+j:=J;have tz:((j:Int)+((n+2:Nat):Int)-2).toNat=n+j:=J;have rf:(((n+2:Nat):Int)-1).toNat=n+1:=J;have sT:(((n+2:Nat):Int)-2).toNat=n:=J;have ek:(((j+1:Nat):Int)-1)=(j:Int):=J;have aiQ:=jN ((val b*2^s)) (n+1);have ab2:=jN ((val b*2^s)) n;have hu0:=kj jb (n+2+j);have hu1:=kj jb (n+1+j);have wG:=kj jb (n+j);obtain⟨vl,rl,tw,n8,hVe,hRe,hRV⟩:=apL (j:=j) me J jb bV;have hun:=aPr hVe hRe tw ab2 hRV;have apZ:=aNC hVe hRe n8 wG J;have hqB:val ul/4294967296^j/(val b*2^s)<4294967296:=by rw[pM mV,ie];exact hRV
 refine ag7 rfl ?_;refine bn ?_;refine kR (fun(x rest:Nat) L=>(mS L [(1001057,⟨1,ul.map bR,true⟩),(1001105,⟨1,(jT ((ak (val b)).length+1) (val b*2^s)).map bR,false⟩),(77,⟨1,ql.map bR,true⟩)] [(16,dF rest),(15,dF x),(13,iL (((j+1:Nat):Int)-1)),(12,ah (n+2)),(11,bu (val b*2^s)),(10,.ref 1001057 1 0 (m+1)),(9,ah s),(4,.ref 77 1 0 q0)])) (fun x rest=>val ul/4294967296^j/(val b*2^s)<=x/\x*(ak (val b*2^s)).getD (n+1) 0+rest=(ul.getD (n+2+j) 0*4294967296+ul.getD (n+1+j) 0)/\rest<4294967296) (fun x rest=>x) ((ul.getD (n+2+j) 0*4294967296+ul.getD (n+1+j) 0)/(ak (val b*2^s)).getD (n+1) 0) ((ul.getD (n+2+j) 0*4294967296+ul.getD (n+1+j) 0)%(ak (val b*2^s)).getD (n+1) 0) ⟨apZ,by rw[ie];exact aeW _ _,Nat.lt_trans (nA _ J) aiQ⟩ ?_;rintro x rest L2 ⟨hx,xc,ahk⟩;have hxt:x<=x*(ak (val b*2^s)).getD (n+1) 0:=awi _ J;refine a6 ?_;refine dU 120 rfl ?_ ?_<;>intro aQb aQc
 ·have hxd:val ul/4294967296^j/(val b*2^s)<=x-1:=J;have lH:1<=x:=J;refine apC ?_;have aez:(x-1)*(ak (val b*2^s)).getD (n+1) 0+(rest+(ak (val b*2^s)).getD (n+1) 0)=(ul.getD (n+2+j) 0*4294967296+ul.getD (n+1+j) 0):=by
   have e:(x-1)*(ak (val b*2^s)).getD (n+1) 0+(ak (val b*2^s)).getD (n+1) 0=x*(ak (val b*2^s)).getD (n+1) 0:=by rw[<-yz];congr 1;omega
   omega
  refine zd ?_;refine aD rfl ?_ ?_<;>intro aFZ aKM
  ·have mn:=aCf (u2:=ul.getD (n+j) 0) aez hun hu1 ab2 J;refine aK ?_;exact acG (hQ (x-1) _ ⟨hxd,aor hVe hRe tw J mV aez (ym mn.1) mn.2,mn.1⟩) sX
  refine bI ?_;exact ja (x-1) (rest+(ak (val b*2^s)).getD (n+1) 0) ⟨hxd,aez,J⟩
 have hmul:=x9 (show x<4294967296 by omega) ab2;refine abE ?_;refine aD rfl ?_ ?_<;>intro aQ9 aNj
 ·have lH:1<=x:=by
   rcases Nat.eq_zero_or_pos x with e|e
   ·rw[e,afY]at aNj;omega
   exact e
  have hxd:val ul/4294967296^j/(val b*2^s)<=x-1:=by have:=aEO hVe hRe n8 mV xc J;omega
  refine aK ?_;have aez:(x-1)*(ak (val b*2^s)).getD (n+1) 0+(rest+(ak (val b*2^s)).getD (n+1) 0)=(ul.getD (n+2+j) 0*4294967296+ul.getD (n+1+j) 0):=by
   have e:(x-1)*(ak (val b*2^s)).getD (n+1) 0+(ak (val b*2^s)).getD (n+1) 0=x*(ak (val b*2^s)).getD (n+1) 0:=by rw[<-yz];congr 1;omega
   omega
  refine zd ?_;refine aD rfl ?_ ?_<;>intro aFZ aKM
  ·have mn:=aCf (u2:=ul.getD (n+j) 0) aez hun hu1 ab2 J;refine aK ?_;exact acG (hQ (x-1) _ ⟨hxd,aor hVe hRe tw J mV aez (ym mn.1) mn.2,mn.1⟩) sX
  refine bI ?_;exact ja (x-1) (rest+(ak (val b*2^s)).getD (n+1) 0) ⟨hxd,aez,J⟩
 refine aK ?_;exact acG (hQ (x) _ ⟨hx,aor hVe hRe tw J mV xc J J,J⟩) sX
open aeF in
theorem aJi(b ul ql:List Nat)(n s m q0 j:Nat)(me:(ak (val b*2^s)).length=n+2)(lK:n+2<=m)(qm:m<=1099511627776)(mK:q0=m+1-(n+2))(hk:j+1<=q0)(nY:ul.length=m+1)(jG:ql.length=q0)(jb:cE ul)(mc:cE ql)(wX:2147483648<=(ak (val b*2^s)).getD (n+1) 0)(mV:0<(val b*2^s))(yC:(val b*2^s)<4294967296^(n+2))(bV:val ul<(val b*2^s)*4294967296^(j+1))(x:Nat)(iT:val ul/4294967296^j/(val b*2^s)<=x)(hxB:x<4294967296){Q:lR->St->Prop}(L1:St)
  (hQ:∀(wl:List Nat) (c:Nat) (br:Nat) (L2:St),(wl.length=m+1/\cE wl/\c<4294967296/\br<=1/\val wl+4294967296^j*(x*(val b*2^s))=val ul+4294967296^(n+2+j)*(c+br)/\∀p,n+2+j<=p->wl.getD p 0=ul.getD p 0)->Q .normal (mS L2 [(1001057,⟨1,wl.map bR,true⟩),(1001105,⟨1,(jT ((ak (val b)).length+1) (val b*2^s)).map bR,false⟩),(77,⟨1,ql.map bR,true⟩)] [(18,dF c),(17,dF br),(15,dF x),(13,iL (((j+1:Nat):Int)-1)),(12,ah (n+2)),(11,bu (val b*2^s)),(10,.ref 1001057 1 0 (m+1)),(9,ah s),(4,.ref 77 1 0 q0)])) :
  c9 ai ((adF agz [1,1,1,1,1,1,1,0,1,0,0,1,0,0,1,1,1,1,0,1]).getD .skip) Q (mS L1 [(1001057,⟨1,ul.map bR,true⟩),(1001105,⟨1,(jT ((ak (val b)).length+1) (val b*2^s)).map bR,false⟩),(77,⟨1,ql.map bR,true⟩)] [(156,ah 0),(155,ah (n+2)),(154,bu (val b*2^s)),(18,dF 0),(17,dF 0),(15,dF x),(13,iL (((j+1:Nat):Int)-1)),(12,ah (n+2)),(11,bu (val b*2^s)),(10,.ref 1001057 1 0 (m+1)),(9,ah s),(4,.ref 77 1 0 q0)]):=by
 have ej:True:=trivial;have ek:True:=trivial;have es:True:=trivial;have eV:True:=trivial;have rF:True:=trivial;have qI:True:=trivial;have tz:True:=trivial;have u7:True:=trivial;have vK:True:=trivial;have rf:True:=trivial;have sT:True:=trivial;have jV:True:=trivial;have xe:True:=trivial;have wV:True:=trivial;have rP:True:=trivial;have tK:True:=trivial;have uM:True:=trivial;have vb:True:=trivial;have mT:True:=trivial;have rF:((j:Int)+((n+2:Nat):Int)).toNat=n+2+j:=J;have qI:((j:Int)+((n+2:Nat):Int)-1).toNat=n+1+j:=J;have tz:((j:Int)+((n+2:Nat):Int)-2).toNat=n+j:=J;have rf:(((n+2:Nat):Int)-1).toNat=n+1:=J;have sT:(((n+2:Nat):Int)-2).toNat=n:=J;have ek:(((j+1:Nat):Int)-1)=(j:Int):=J;have aiQ:=jN ((val b*2^s)) (n+1);have ab2:=jN ((val b*2^s)) n;have hu0:=kj jb (n+2+j);have hu1:=kj jb (n+1+j);have wG:=kj jb (n+j);refine ag7 rfl ?_;refine bn ?_
 refine lp4 (fun(i:Nat) (wl:List Nat) (c br:Nat) L=>(mS L [(1001057,⟨1,wl.map bR,true⟩),(1001105,⟨1,(jT ((ak (val b)).length+1) (val b*2^s)).map bR,false⟩),(77,⟨1,ql.map bR,true⟩)] [(156,ah i),(155,ah (n+2)),(154,bu (val b*2^s)),(18,dF c),(17,dF br),(15,dF x),(13,iL (((j+1:Nat):Int)-1)),(12,ah (n+2)),(11,bu (val b*2^s)),(10,.ref 1001057 1 0 (m+1)),(9,ah s),(4,.ref 77 1 0 q0)])) (fun i wl c br=>i<=n+2/\wl.length=m+1/\cE wl/\c<4294967296/\br<=1/\val wl+4294967296^j*(x*val ((ak (val b*2^s)).take i))=val ul+4294967296^(i+j)*(c+br)/\∀p,n+2+j<=p->wl.getD p 0=ul.getD p 0) (fun i wl c br=>n+2-i) 0 ul 0 0 ⟨bW _,nY,jb,J,J,by simp[val],fun _ _=>rfl⟩ (h0:=⟨_,au.of_eq (aX (aX (aX (aX (aX (aX (aX (aX (aX (aX (aX (aX (jB gr) gr) gr) gr) gr) gr) gr) gr) gr) gr) gr) gr) gr)⟩) ?_;rintro i wl c br L3 ⟨hi,gL,jW,hc,qj,hv5,hz5⟩;have jV:((i:Int)+(j:Int)).toNat=i+j:=J;have hvi:=jN (val b*2^s) i;have hmul:=x9 hxB hvi;have hwi:=kj jW (i+j);refine a6 ?_;refine aD rfl ?_ ?_<;>intro aQZ aQm
 ·refine apq ?_;refine al rfl (.bin rfl rfl (aJ1)) ?_;refine al rfl (.bin rfl rfl (ag9 J)) ?_;refine bn ?_;refine al rfl (.bin rfl rfl (ag9 J)) ?_;refine apq ?_;exact uv (i+1) (wl.set (i+j) (((18446744073709551616+(18446744073709551616+wl.getD (i+j) 0-(c+x*(ak (val b*2^s)).getD i 0)%4294967296)%18446744073709551616-br)%18446744073709551616)%4294967296)) ((c+x*(ak (val b*2^s)).getD i 0)/4294967296) (((18446744073709551616+(18446744073709551616+wl.getD (i+j) 0-(c+x*(ak (val b*2^s)).getD i 0)%4294967296)%18446744073709551616-br)%18446744073709551616)/9223372036854775808) (by
   obtain⟨g1,g2,g3⟩:=aD5 J jW qj hv5 (c1:=(c+x*(ak (val b*2^s)).getD i 0)) rfl rfl;exact⟨J,by simp[gL],g2,J,g1,g3,fun p hp=>by rw[Go.Lg.getD_set_ne _ _ _ _ J];exact hz5 p hp⟩) (he:=au.of_eq (aX (aX (aX (aX (aX (aX (aX (aX (aX (aX (aX (aX (jB gr) gr) gr) gr) gr) gr) gr) gr) gr) gr) gr) gr) gr))
 obtain rfl:i=n+2:=J;rw[cy J,cL]at hv5;refine aK ?_;exact acG (hQ (wl) (c) (br) _ ⟨gL,jW,hc,qj,hv5,hz5⟩) sX
open aeF in
theorem aMe(b ul ql:List Nat)(n s m q0 j:Nat)(me:(ak (val b*2^s)).length=n+2)(lK:n+2<=m)(qm:m<=1099511627776)(mK:q0=m+1-(n+2))(hk:j+1<=q0)(nY:ul.length=m+1)(jG:ql.length=q0)(jb:cE ul)(mc:cE ql)(wX:2147483648<=(ak (val b*2^s)).getD (n+1) 0)(mV:0<(val b*2^s))(yC:(val b*2^s)<4294967296^(n+2))(bV:val ul<(val b*2^s)*4294967296^(j+1))(x:Nat)(iT:val ul/4294967296^j/(val b*2^s)<=x)(uJ:x<=val ul/4294967296^j/(val b*2^s)+1)(hxB:x<4294967296)(wl:List Nat)(c br:Nat)(gL:wl.length=m+1)(jW:cE wl)(hc:c<4294967296)(qj:br<=1)(hv5:val wl+4294967296^j*(x*(val b*2^s))=val ul+4294967296^(n+2+j)*(c+br))(hz5:∀p,n+2+j<=p->wl.getD p 0=ul.getD p 0){Q:lR->St->Prop}(L1:St)
  (hQ:∀(w4:List Nat) (x4:Nat) (L2:St),(x4=val ul/4294967296^j/(val b*2^s)/\w4.length=m+1/\cE w4/\val w4+4294967296^j*(x4*(val b*2^s))=val ul)->Q .normal (mS L2 [(1001057,⟨1,w4.map bR,true⟩),(1001105,⟨1,(jT ((ak (val b)).length+1) (val b*2^s)).map bR,false⟩),(77,⟨1,ql.map bR,true⟩)] [(15,dF x4),(13,iL (((j+1:Nat):Int)-1)),(12,ah (n+2)),(11,bu (val b*2^s)),(10,.ref 1001057 1 0 (m+1)),(9,ah s),(4,.ref 77 1 0 q0)])) :
  c9 ai ((adF agz [1,1,1,1,1,1,1,0,1,0,0,1,0,0,1,1,1,1,1,1,1,0,1]).getD .skip) Q (mS L1 [(1001057,⟨1,(wl.set (n+2+j) (((18446744073709551616+(18446744073709551616+wl.getD (n+2+j) 0-c)%18446744073709551616-br)%18446744073709551616)%4294967296)).map bR,true⟩),(1001105,⟨1,(jT ((ak (val b)).length+1) (val b*2^s)).map bR,false⟩),(77,⟨1,ql.map bR,true⟩)] [(211,.v (.bool (((((18446744073709551616+(18446744073709551616+wl.getD (n+2+j) 0-c)%18446744073709551616-br)%18446744073709551616)/9223372036854775808:Nat):Int) != 0))),(22,dF ((18446744073709551616+(18446744073709551616+wl.getD (n+2+j) 0-c)%18446744073709551616-br)%18446744073709551616)),(15,dF x),(13,iL (((j+1:Nat):Int)-1)),(12,ah (n+2)),(11,bu (val b*2^s)),(10,.ref 1001057 1 0 (m+1)),(9,ah s),(4,.ref 77 1 0 q0)]):=by
 have ej:True:=trivial;have ek:True:=trivial;have es:True:=trivial;have eV:True:=trivial;have rF:True:=trivial;have qI:True:=trivial;have tz:True:=trivial;have u7:True:=trivial;have vK:True:=trivial;have rf:True:=trivial;have sT:True:=trivial;have jV:True:=trivial;have xe:True:=trivial;have wV:True:=trivial;have rP:True:=trivial;have tK:True:=trivial;have uM:True:=trivial;have vb:True:=trivial;have mT:True:=trivial;have rF:((j:Int)+((n+2:Nat):Int)).toNat=n+2+j:=J;have qI:((j:Int)+((n+2:Nat):Int)-1).toNat=n+1+j:=J;have tz:((j:Int)+((n+2:Nat):Int)-2).toNat=n+j:=J;have rf:(((n+2:Nat):Int)-1).toNat=n+1:=J;have sT:(((n+2:Nat):Int)-2).toNat=n:=J;have ek:(((j+1:Nat):Int)-1)=(j:Int):=J;have aiQ:=jN ((val b*2^s)) (n+1);have ab2:=jN ((val b*2^s)) n;have hu0:=kj jb (n+2+j);have hu1:=kj jb (n+1+j);have wG:=kj jb (n+j);have hz:=akl (n:=n+2) (j:=j) yC bV;obtain⟨ajG,hd2,hv6⟩:=as4 (n:=n+2) J jW qj hc hv5 rfl rfl;have ij:=kj jW (n+2+j);refine ag7 rfl ?_;refine aD rfl ?_ ?_<;>intro aQG aQo
 ·have iG:((18446744073709551616+(18446744073709551616+wl.getD (n+2+j) 0-c)%18446744073709551616-br)%18446744073709551616)/9223372036854775808=1:=J;have hgt:=aH9 (V:=(val b*2^s)) (n:=n+2) (j:=j) (x:=x) (ul:=(wl.set (n+2+j) (((18446744073709551616+(18446744073709551616+wl.getD (n+2+j) 0-c)%18446744073709551616-br)%18446744073709551616)%4294967296))) (ul0:=ul) (by rw[hv6,iG,lJ]) (aK3 ajG (fun p hp=>by rw[Go.Lg.getD_set_ne _ _ _ _ J,hz5 p J];exact hz p hp)) mV;have lH:1<=x:=wQ (bW _) hgt;refine bI ?_;refine al rfl (.bin rfl rfl (axD (show 1<=x by omega) J)) ?_;refine nh ?_
  refine wz (fun(ii:Nat) (w3:List Nat) (c3:Nat) L=>(mS L [(1001057,⟨1,w3.map bR,true⟩),(1001105,⟨1,(jT ((ak (val b)).length+1) (val b*2^s)).map bR,false⟩),(77,⟨1,ql.map bR,true⟩)] [(216,ah ii),(215,ah (n+2)),(214,bu (val b*2^s)),(18,dF c3),(15,dF (x-1)),(13,iL (((j+1:Nat):Int)-1)),(12,ah (n+2)),(11,bu (val b*2^s)),(10,.ref 1001057 1 0 (m+1)),(9,ah s),(4,.ref 77 1 0 q0)])) (fun ii w3 c3=>ii<=n+2/\w3.length=m+1/\cE w3/\c3<=1/\val w3+4294967296^(ii+j)*c3=val (wl.set (n+2+j) (((18446744073709551616+(18446744073709551616+wl.getD (n+2+j) 0-c)%18446744073709551616-br)%18446744073709551616)%4294967296))+4294967296^j*val ((ak (val b*2^s)).take ii)/\∀p,n+2+j+1<=p->w3.getD p 0=0) (fun ii w3 c3=>n+2-ii) 0 (wl.set (n+2+j) (((18446744073709551616+(18446744073709551616+wl.getD (n+2+j) 0-c)%18446744073709551616-br)%18446744073709551616)%4294967296)) 0 ⟨bW _,by simp[gL],ajG,J,by simp[val],fun p hp=>by rw[Go.Lg.getD_set_ne _ _ _ _ J,hz5 p J];exact hz p hp⟩ (h0:=⟨_,au.of_eq (aX (aX (aX (aX (aX (aX (aX (aX (aX (aX (aX (jB gr) gr) gr) gr) gr) gr) gr) gr) gr) gr) gr) gr)⟩) ?_;rintro ii w3 c3 L4 ⟨hi3,hw3,oy,hc3,hv7,hz7⟩;have xe:((ii:Int)+(j:Int)).toNat=ii+j:=J;have aRl:=jN (val b*2^s) ii;have aQW:=kj oy (ii+j);refine a6 ?_
  refine aD rfl ?_ ?_<;>intro aQQ aQF
  ·refine aIZ ?_;exact vU (ii+1) (w3.set (ii+j) ((c3+(w3.getD (ii+j) 0+(ak (val b*2^s)).getD ii 0))%4294967296)) ((c3+(w3.getD (ii+j) 0+(ak (val b*2^s)).getD ii 0))/4294967296) (by
    obtain⟨g1,g2⟩:=aDO J oy hv7 (s:=(c3+(w3.getD (ii+j) 0+(ak (val b*2^s)).getD ii 0))) rfl;exact⟨J,by simp[hw3],g1,J,g2,fun p hp=>by rw[Go.Lg.getD_set_ne _ _ _ _ J];exact hz7 p hp⟩) (he:=au.of_eq (aX (aX (aX (aX (aX (aX (aX (aX (aX (aX (aX (jB gr) gr) gr) gr) gr) gr) gr) gr) gr) gr) gr) gr))
  obtain rfl:ii=n+2:=J;rw[cy J,cL]at hv7;have aQK:=kj oy (n+2+j);have hxe:x-1=val ul/4294967296^j/(val b*2^s):=J;have aHP:4294967296^j*((x-1)*(val b*2^s))<=val ul:=by rw[hxe];exact aP (l9 _ (avh _ _)) (Nat.mul_div_le _ _)
  have mn:=aIk (ul:=(wl.set (n+2+j) (((18446744073709551616+(18446744073709551616+wl.getD (n+2+j) 0-c)%18446744073709551616-br)%18446744073709551616)%4294967296))) (ul0:=ul) (n:=n+2) (j:=j) (x:=x) (V:=(val b*2^s)) (ul3:=w3) (c:=c3) J aHP (by rw[hv6,iG,lJ]) J oy hz7 hc3 hv7 rfl;refine ff ?_;refine al rfl (.bin rfl rfl (aLn)) ?_;refine bI ?_;exact acG (hQ (w3.set (n+2+j) ((w3.getD (n+2+j) 0+c3)%4294967296)) (x-1) _ ⟨hxe,by simp[hw3],mn.1,mn.2⟩) sX
 have lY:((18446744073709551616+(18446744073709551616+wl.getD (n+2+j) 0-c)%18446744073709551616-br)%18446744073709551616)/9223372036854775808=0:=J;rw[lY,abI,nW]at hv6;have hxF:x=val ul/4294967296^j/(val b*2^s):=by have:=aFR hv6 mV;omega
 refine bn ?_;exact acG (hQ ((wl.set (n+2+j) (((18446744073709551616+(18446744073709551616+wl.getD (n+2+j) 0-c)%18446744073709551616-br)%18446744073709551616)%4294967296))) (x) _ ⟨hxF,by simp[gL],ajG,hv6⟩) sX
open aeF in
theorem aPw(b ul ql:List Nat)(n s m q0 j:Nat)(me:(ak (val b*2^s)).length=n+2)(lK:n+2<=m)(qm:m<=1099511627776)(mK:q0=m+1-(n+2))(hk:j+1<=q0)(nY:ul.length=m+1)(jG:ql.length=q0)(jb:cE ul)(mc:cE ql)(wX:2147483648<=(ak (val b*2^s)).getD (n+1) 0)(mV:0<(val b*2^s))(yC:(val b*2^s)<4294967296^(n+2))(bV:val ul<(val b*2^s)*4294967296^(j+1)){Q:lR->St->Prop}(L1:St)
  (hQ:∀(w4:List Nat) (x4:Nat) (L2:St),(x4=val ul/4294967296^j/(val b*2^s)/\w4.length=m+1/\cE w4/\val w4+4294967296^j*(x4*(val b*2^s))=val ul)->Q .normal (mS L2 [(1001057,⟨1,w4.map bR,true⟩),(1001105,⟨1,(jT ((ak (val b)).length+1) (val b*2^s)).map bR,false⟩),(77,⟨1,(ql.set j (x4%4294967296)).map bR,true⟩)] [(13,iL (((j+1:Nat):Int)-1)),(12,ah (n+2)),(11,bu (val b*2^s)),(10,.ref 1001057 1 0 (m+1)),(9,ah s),(4,.ref 77 1 0 q0)])) :
  c9 ai ((adF agz [1,1,1,1,1,1,1,0,1,0,0,1,0]).getD .skip) Q (mS L1 [(1001057,⟨1,ul.map bR,true⟩),(1001105,⟨1,(jT ((ak (val b)).length+1) (val b*2^s)).map bR,false⟩),(77,⟨1,ql.map bR,true⟩)] [(13,iL (((j+1:Nat):Int)-1)),(12,ah (n+2)),(11,bu (val b*2^s)),(10,.ref 1001057 1 0 (m+1)),(9,ah s),(4,.ref 77 1 0 q0)]):=by
 have ej:True:=trivial;have ek:True:=trivial;have es:True:=trivial;have eV:True:=trivial;have rF:True:=trivial;have qI:True:=trivial;have tz:True:=trivial;have u7:True:=trivial;have vK:True:=trivial;have rf:True:=trivial;have sT:True:=trivial;have jV:True:=trivial;have xe:True:=trivial;have wV:True:=trivial;have rP:True:=trivial;have tK:True:=trivial;have uM:True:=trivial;have vb:True:=trivial;have mT:True:=trivial;have rF:((j:Int)+((n+2:Nat):Int)).toNat=n+2+j:=J;have qI:((j:Int)+((n+2:Nat):Int)-1).toNat=n+1+j:=J;have tz:((j:Int)+((n+2:Nat):Int)-2).toNat=n+j:=J;have rf:(((n+2:Nat):Int)-1).toNat=n+1:=J;have sT:(((n+2:Nat):Int)-2).toNat=n:=J;have ek:(((j+1:Nat):Int)-1)=(j:Int):=J;have aiQ:=jN ((val b*2^s)) (n+1);have ab2:=jN ((val b*2^s)) n;have hu0:=kj jb (n+2+j);have hu1:=kj jb (n+1+j);have wG:=kj jb (n+j);have hz:=akl (n:=n+2) (j:=j) yC bV;refine ag7 rfl ?_;refine aOF ?_;refine al rfl (.bin rfl rfl (ap5 (by simp only[rf,ik];omega) J)) ?_;refine bK ?_;refine al rfl (.bin rfl rfl (ao1 (by simp only[rf,ik];omega))) ?_;refine aW ?_
 refine ahc (S:=fun L=>(mS L [(1001057,⟨1,ul.map bR,true⟩),(1001105,⟨1,(jT ((ak (val b)).length+1) (val b*2^s)).map bR,false⟩),(77,⟨1,ql.map bR,true⟩)] [(16,dF ((ul.getD (n+2+j) 0*4294967296+ul.getD (n+1+j) 0)%(ak (val b*2^s)).getD (n+1) 0)),(15,dF ((ul.getD (n+2+j) 0*4294967296+ul.getD (n+1+j) 0)/(ak (val b*2^s)).getD (n+1) 0)),(13,iL (((j+1:Nat):Int)-1)),(12,ah (n+2)),(11,bu (val b*2^s)),(10,.ref 1001057 1 0 (m+1)),(9,ah s),(4,.ref 77 1 0 q0)])) sX ?_;refine aPl b ul ql n s m q0 j me lK qm mK hk nY jG jb mc wX mV yC bV _ ?_;rintro x LQ ⟨iT,uJ,hxB⟩;refine iR ?_;refine ahc (S:=fun L=>(mS L [(1001057,⟨1,ul.map bR,true⟩),(1001105,⟨1,(jT ((ak (val b)).length+1) (val b*2^s)).map bR,false⟩),(77,⟨1,ql.map bR,true⟩)] [(156,ah 0),(155,ah (n+2)),(154,bu (val b*2^s)),(18,dF 0),(17,dF 0),(15,dF x),(13,iL (((j+1:Nat):Int)-1)),(12,ah (n+2)),(11,bu (val b*2^s)),(10,.ref 1001057 1 0 (m+1)),(9,ah s),(4,.ref 77 1 0 q0)])) sX ?_;refine aJi b ul ql n s m q0 j me lK qm mK hk nY jG jb mc wX mV yC bV x iT hxB _ ?_;rintro wl c br LQ ⟨gL,jW,hc,qj,hv5,hz5⟩;obtain⟨ajG,hd2,hv6⟩:=as4 (n:=n+2) J jW qj hc hv5 rfl rfl;have ij:=kj jW (n+2+j);refine bN ?_;refine al rfl (.bin rfl rfl (ag9 J)) ?_;refine bn ?_;refine al rfl (.bin rfl rfl (ag9 J)) ?_
 refine abE ?_;refine ahc (S:=fun L=>(mS L [(1001057,⟨1,(wl.set (n+2+j) (((18446744073709551616+(18446744073709551616+wl.getD (n+2+j) 0-c)%18446744073709551616-br)%18446744073709551616)%4294967296)).map bR,true⟩),(1001105,⟨1,(jT ((ak (val b)).length+1) (val b*2^s)).map bR,false⟩),(77,⟨1,ql.map bR,true⟩)] [(211,.v (.bool (((((18446744073709551616+(18446744073709551616+wl.getD (n+2+j) 0-c)%18446744073709551616-br)%18446744073709551616)/9223372036854775808:Nat):Int) != 0))),(22,dF ((18446744073709551616+(18446744073709551616+wl.getD (n+2+j) 0-c)%18446744073709551616-br)%18446744073709551616)),(15,dF x),(13,iL (((j+1:Nat):Int)-1)),(12,ah (n+2)),(11,bu (val b*2^s)),(10,.ref 1001057 1 0 (m+1)),(9,ah s),(4,.ref 77 1 0 q0)])) sX ?_;refine aMe b ul ql n s m q0 j me lK qm mK hk nY jG jb mc wX mV yC bV x iT uJ hxB wl c br gL jW hc qj hv5 hz5 _ ?_;rintro w4 x4 LQ ⟨hx4,hw4,hl4,hv8⟩;have hRV:val ul/4294967296^j<(val b*2^s)*4294967296:=by
  obtain⟨_,_,_,_,_,_,h⟩:=apL (j:=j) me J jb bV;exact h
 have hqB:val ul/4294967296^j/(val b*2^s)<4294967296:=by rw[pM mV,ie];exact hRV
 have amL:x4<4294967296:=by rw[hx4];exact hqB
 have azE:x4%4294967296=x4:=jU amL;refine b7 ?_;exact acG (hQ (w4) (x4) _ ⟨hx4,hw4,hl4,hv8⟩) sX
open aeF in
theorem aFY(b ul ql:List Nat)(s m q0 T:Nat)(v8:s<32)(qm:m<=1099511627776)(nY:ul.length=m+1)(jb:cE ul)(hTm:T<=m+1)(hTz:∀p,T<=p->ul.getD p 0=0)(acA:ul.getD 0 0%2^s=0){Q:lR->St->Prop}(L1:St)
  (hQ:∀(w:List Nat) (L2:St),(w.length=m+1/\cE w/\2^s*val (w.take T)=val (ul.take T)+4294967296^T*(ul.getD T 0%2^s))->Q .normal (mS L2 [(1001057,⟨1,w.map bR,true⟩),(1001105,⟨1,(jT ((ak (val b)).length+1) (val b*2^s)).map bR,false⟩),(77,⟨1,ql.map bR,true⟩)] [(5,.ref 1001057 1 0 T),(4,.ref 77 1 0 q0)])) :
  c9 ai ((adF agz [1,1,1,1,1,1,1,1,1,0,1]).getD .skip) Q (mS L1 [(1001057,⟨1,ul.map bR,true⟩),(1001105,⟨1,(jT ((ak (val b)).length+1) (val b*2^s)).map bR,false⟩),(77,⟨1,ql.map bR,true⟩)] [(262,ah 0),(261,ah T),(260,.ref 1001057 1 0 T),(9,ah s),(5,.ref 1001057 1 0 T),(4,.ref 77 1 0 q0)]):=by
 have ej:True:=trivial;have ek:True:=trivial;have es:True:=trivial;have eV:True:=trivial;have rF:True:=trivial;have qI:True:=trivial;have tz:True:=trivial;have u7:True:=trivial;have vK:True:=trivial;have rf:True:=trivial;have sT:True:=trivial;have jV:True:=trivial;have xe:True:=trivial;have wV:True:=trivial;have rP:True:=trivial;have tK:True:=trivial;have uM:True:=trivial;have vb:True:=trivial;have mT:True:=trivial;have me:True:=trivial;refine ag7 rfl ?_;refine bn ?_;refine kR (fun(i:Nat) (w:List Nat) L=>(mS L [(1001057,⟨1,w.map bR,true⟩),(1001105,⟨1,(jT ((ak (val b)).length+1) (val b*2^s)).map bR,false⟩),(77,⟨1,ql.map bR,true⟩)] [(262,ah i),(261,ah T),(260,.ref 1001057 1 0 T),(9,ah s),(5,.ref 1001057 1 0 T),(4,.ref 77 1 0 q0)])) (fun i w=>i<=T/\w.length=m+1/\cE w/\(∀p,i<=p->w.getD p 0=ul.getD p 0)/\2^s*val (w.take i)=val (ul.take i)+4294967296^i*(ul.getD i 0%2^s)) (fun i w=>T-i) 0 ul ⟨bW _,nY,jb,fun _ _=>rfl,by rw[acA];simp[val]⟩ ?_;rintro i w L5 ⟨hi,gL,jW,hz9,hv9⟩;have mT:((i:Int)+1).toNat=i+1:=J;have hwi:=kj jW i;have aRi:=kj jb (i+1);have rP:=hz9 i (bF _);have tK:=hz9 (i+1) J;have hui:=kj jb i;obtain⟨hh1,hh2⟩:=aqs (z:=ul.getD (i+1) 0) (show s<=32 by omega) hui;have hh3:ul.getD i 0/2^s<4294967296:=J;refine a6 ?_;refine aD rfl ?_ ?_<;>intro aQL aQM
 ·have uM:(w.set i (ul.getD i 0/2^s)).getD i 0=ul.getD i 0/2^s:=awL _ _ _ J;have vb:(w.set i (ul.getD i 0/2^s)).getD (i+1) 0=ul.getD (i+1) 0:=by rw[Go.Lg.getD_set_ne _ _ _ _ J];exact tK
  refine nh ?_;refine al rfl (.sh rfl rfl (agJ (m:=s) (by show s<=32;omega))) ?_;refine bM ?_;refine dU 274 rfl ?_ ?_<;>intro aQJ aQY
  ·refine bH ?_;refine aD rfl ?_ ?_<;>intro aQT aRv
   ·refine bG ?_;refine al rfl (.sh rfl rfl (aLY (s:=s) J)) ?_;refine al rfl (.bin rfl rfl (aLN (by simp only[bD,bo,bp,bh,ik,rP,tK,uM,vb,mT];exact hh1) (by simp only[bD,bo,bp,bh,ik,rP,tK,uM,vb,mT];exact hh2))) ?_;refine b7 ?_;exact ja (i+1) (w.set i (ul.getD (i+1) 0%2^s*2^(32-s)+ul.getD i 0/2^s)) ⟨J,by simp[gL],ox jW _ _ hh2,fun p hp=>by rw[Go.Lg.getD_set_ne _ _ _ _ J];exact hz9 p J,amM J v8 rP hv9 (vQ _ _)⟩
   refine bH ?_;exact ja (i+1) (w.set i (ul.getD i 0/2^s)) ⟨J,by simp[gL],ox jW _ _ hh3,fun p hp=>by rw[Go.Lg.getD_set_ne _ _ _ _ J];exact hz9 p J,amM J v8 rP hv9 (by rw[hTz (i+1) J];simp)⟩
  refine nh ?_;exact ja (i+1) (w.set i (ul.getD i 0/2^s)) ⟨J,by simp[gL],ox jW _ _ hh3,fun p hp=>by rw[Go.Lg.getD_set_ne _ _ _ _ J];exact hz9 p J,amM J v8 rP hv9 (by rw[show s=0 by omega];simp[Nat.mod_one])⟩
 obtain rfl:i=T:=J;refine aK ?_;exact acG (hQ (w) _ ⟨gL,jW,hv9⟩) sX
open aeF in
theorem ams(a b:List Nat)(ha:cE a)(hb:cE b)(iC:a.length<=1099511627776)(oE:b.length<=1099511627776)(gh:0<val b):an ai 227 [fS a,fS b] (.aY [bu (val a/val b),bu (val a%val b),iL 0]):=by
 have adJ:=aet a ha iC;have ai5:=aet b hb oE;have aRk:(ak (val b)).length≠0:=fun h=>by have:=vh.1 (pQ h);omega
 refine aL Tryz.func227 ?_;have ej:True:=trivial;have ek:True:=trivial;have es:True:=trivial;have eV:True:=trivial;have rF:True:=trivial;have qI:True:=trivial;have tz:True:=trivial;have u7:True:=trivial;have vK:True:=trivial;have rf:True:=trivial;have sT:True:=trivial;have jV:True:=trivial;have xe:True:=trivial;have wV:True:=trivial;have rP:True:=trivial;have tK:True:=trivial;have uM:True:=trivial;have vb:True:=trivial;have mT:True:=trivial;have me:True:=trivial;refine b7 ?_;refine cp cr (tZ _ ka vJ) ?_;refine bn ?_;refine cp cr (tZ _ ka vJ) ?_;refine ff ?_;refine aD rfl ?_ ?_<;>intro abK yq
 ·exfalso;omega
 refine aK ?_;refine cp aC (aiF _ _ ka ka J J) ?_;refine aK ?_;refine aD rfl ?_ ?_<;>intro akT h34
 ·have bV:val a<val b:=by
   apply rE;intro hh;rcases axH (Nat.le_of_not_lt hh)with h|h
   ·rw[vN h]at h34;omega
   rw[xa h.symm]at h34;omega
  refine bI ?_;refine cp cr (agZ _ J) ?_;refine bH ?_;rw[acT bV,jU bV];exact aea [] rfl rfl (.nil 1) rfl (.pure (abd _)) rfl (.pure rfl)
 have mr:val b<=val a:=by
  apply rE;intro hh;rw[tk J]at h34;omega
 refine bH ?_;refine aD rfl ?_ ?_<;>intro aeb h41
 ·have aql:val b<4294967296:=wJ.1 J;have iG:ak (val b)=[val b]:=adU gh aql;have sL:(ak (val b)).getD 0 0=val b:=by rw[iG];rfl
  have vK:=sL;have vR:=nA (val a) gh;refine a6 ?_;refine cp aC (aPa _ _ (dX _) J (by show 0<(ak (val b)).getD 0 0;rw[sL];exact gh) (jN _ _)) ?_;refine aW ?_;refine vP wi ?_;refine a6 ?_;refine vj [55] vm (tZ [val a%val b] (aG1 J) aE) ?_;refine bI ?_;refine vP nf2 ?_;refine aK ?_;exact ahm
 obtain⟨n,hn⟩:∃n,(ak (val b)).length=n+2:=⟨(ak (val b)).length-2,J⟩;obtain⟨m,hm⟩:∃m,(ak (val a)).length=m:=⟨_,rfl⟩;have u7:=hm;have qm:m<=1099511627776:=J;have lK:n+1+1<=m:=by rw[<-hm];have:=qH mr;omega
 have ej:(((ak (val b)).length:Int)-1).toNat=n+1:=J;obtain⟨s,hs⟩:∃s,s=32-eI ((ak (val b)).getD (n+1) 0):=⟨_,rfl⟩;have aKE:eI ((ak (val b)).getD (n+1) 0)<=32:=yP.2 (jN _ _);have es:(32:Int)-((eI ((ak (val b)).getD (n+1) 0):Nat):Int)=((s:Nat):Int):=by rw[auN aKE,hs]
 obtain⟨v8,me,akG,yC⟩:=axv (n:=n+1) hn hs;have mV:0<val b*2^s:=oR gh (ov J);have eV:val (jT ((ak (val b)).length+1) (val b*2^s))=val b*2^s:=aqH (by rw[hn];exact zT yC (mN J J));have wX:=azz me akG;have aiQ:=jN (val b*2^s) (n+1);have ab2:=jN (val b*2^s) n;obtain⟨aJt,aDq⟩:=aDQ (n:=n+1) v8 hm lK akG;obtain⟨q0,mK⟩:∃q0,q0=m+1-(n+2):=⟨_,rfl⟩;have wV:((m:Int)+1-((n+2:Nat):Int))=((q0:Nat):Int):=J;have rf:(((n+2:Nat):Int)-1).toNat=n+1:=J;have sT:(((n+2:Nat):Int)-2).toNat=n:=J;have hB1:val (jT (m+1) (val a*2^s))=val a*2^s:=aqH aDq;refine bf (aPT _ (jN _ _)) ?_;refine bK ?_;refine wU [] rfl rfl (.cons (.pure (mq _)) (.cons (.pure rfl) .nil)) (ayJ (val a) s J v8) (bm iE _) rfl ?_;refine bc ?_;refine wU [] rfl rfl (.cons (.pure (mq _)) (.cons (.pure rfl) .nil)) (ayJ (val b) s J v8) (bm iE _) rfl ?_;refine afr [1001105] rfl rfl (.cons (da iE rfl rfl (afp _ _).symm) .nil) (tZ (jT ((ak (val b)).length+1) (val b*2^s)) (ary _ _) (by rw[afp];omega)) ?_;refine bc ?_;refine vP nf3 ?_;refine a6 ?_;refine vP nf4 ?_;refine bK ?_;refine gv rfl rfl (.nr (n:=q0) (m:=q0) ml ml om om om) ?_;refine dj ?_
 refine wz (fun(k:Nat) (ul ql:List Nat) L=>(mS L [(1001057,⟨1,ul.map bR,true⟩),(1001105,⟨1,(jT ((ak (val b)).length+1) (val b*2^s)).map bR,false⟩),(77,⟨1,ql.map bR,true⟩)] [(13,iL ((k:Int)-1)),(12,ah (n+2)),(11,bu (val b*2^s)),(10,.ref 1001057 1 0 (m+1)),(9,ah s),(4,.ref 77 1 0 q0)])) (fun k ul ql=>k<=q0/\ul.length=m+1/\ql.length=q0/\cE ul/\cE ql/\val ul+(val b*2^s)*4294967296^k*val (ql.drop k)=val a*2^s/\val ul<(val b*2^s)*4294967296^k) (fun k ul ql=>k) q0 (jT (m+1) (val a*2^s)) (av q0 0) ⟨bF _,afp _ _,by simp,ary _ _,yL _,by rw[mE aE,hB1];simp[val],by rw[hB1,mK];exact aJt⟩ (h0:=⟨_,au.of_eq (aX (aX (aX (aX (aX (aX (jB vB) vB) vB) vB) vB) vB) vB)⟩) ?_;rintro k ul ql L1 ⟨hk,nY,jG,jb,mc,hv,bV⟩;refine bK ?_;refine aD rfl ?_ ?_<;>intro aP3 h82
 ·obtain⟨j,rfl⟩:∃j,k=j+1:=⟨k-1,J⟩;have ek:(((j+1:Nat):Int)-1)=(j:Int):=J;refine bI ?_;refine ahc (S:=fun L=>(mS L [(1001057,⟨1,ul.map bR,true⟩),(1001105,⟨1,(jT ((ak (val b)).length+1) (val b*2^s)).map bR,false⟩),(77,⟨1,ql.map bR,true⟩)] [(13,iL (((j+1:Nat):Int)-1)),(12,ah (n+2)),(11,bu (val b*2^s)),(10,.ref 1001057 1 0 (m+1)),(9,ah s),(4,.ref 77 1 0 q0)])) sX ?_;refine aPw b ul ql n s m q0 j me lK qm mK hk nY jG jb mc wX mV yC bV _ ?_;rintro w4 x4 LQ ⟨hx4,hw4,hl4,hv8⟩;have hRV:val ul/4294967296^j<(val b*2^s)*4294967296:=by
   obtain⟨_,_,_,_,_,_,h⟩:=apL (j:=j) me J jb bV;exact h
  have hqB:val ul/4294967296^j/(val b*2^s)<4294967296:=by rw[pM mV,ie];exact hRV
  have amL:x4<4294967296:=by rw[hx4];exact hqB
  have azE:x4%4294967296=x4:=jU amL;obtain⟨nm,ma⟩:=avU (j:=j) mV hx4 hv8 J hv;refine bK ?_;exact vU j w4 (ql.set j (x4%4294967296)) ⟨J,hw4,by simp[jG],hl4,ox mc _ _ J,by rw[azE];exact nm,ma⟩ (he:=au.of_eq (aX (aX (aX (aX (aX (aX (jB vB) vB) vB) vB) vB) vB) vB))
 obtain rfl:k=0:=J;rw[jv,aeh,lJ]at hv;rw[aeh,lJ]at bV;obtain⟨hq,hr⟩:=aw0 gh hv bV;obtain⟨T,hT⟩:∃T,T=kG (m+1) ul:=⟨_,rfl⟩;have hTm:T<=m+1:=by rw[hT];exact an9 _ _
 have hTz:=aHH (l:=ul) (n:=m+1) nY.symm;rw[<-hT]at hTz;have acA:=auK J hr;refine bH ?_;refine aaj 1001057 rfl rfl rfl (bm iE _) (.cons .ref .nil) (.ref J) (aJz ul (m+1) nY.symm J J) rfl (bm iE _) ?_;refine bn ?_;refine vP nf6 ?_;refine bM ?_;refine ahc (S:=fun L=>(mS L [(1001057,⟨1,ul.map bR,true⟩),(1001105,⟨1,(jT ((ak (val b)).length+1) (val b*2^s)).map bR,false⟩),(77,⟨1,ql.map bR,true⟩)] [(262,ah 0),(261,ah T),(260,.ref 1001057 1 0 T),(9,ah s),(5,.ref 1001057 1 0 T),(4,.ref 77 1 0 q0)])) sX ?_;refine aFY b ul ql s m q0 T v8 qm nY jb hTm hTz acA _ ?_;rintro w LQ ⟨gL,jW,hv9⟩;rw[hTz T (bF _),axr,abI,nW]at hv9;have ad6:val (w.take T)=val a%val b:=by
  have e1:=(alf ul.length ul (bF _)).2;rw[py,nY,<-hT,hr]at e1;rw[e1,ie]at hv9;exact Nat.eq_of_mul_eq_mul_right (ov J) hv9
 refine aK ?_;refine vj [77] vm (tZ ql mc J) ?_;refine bn ?_;refine vj [1001057] vm (tZ (w.take T) (aaf jW _) aQ) ?_;refine a6 ?_;rw[<-hq,<-ad6];exact ahm
namespace awM
theorem aJ{p q:Prop}(k:q)(e:p=q:=by simp only[bD,bo,bp,bh,ik,cL];exact rfl):p:=e.mpr k
end awM
open awM in
theorem apX(a b:List Nat)(ha:cE a)(hb:cE b)(iC:a.length<=1099511627776)(oE:b.length<=1099511627776):an ai 138 [fS a,fS b] (bu (gO (val a) (val b))):=by
 have adJ:=aet a ha iC;have ai5:=aet b hb oE;refine aL Tryz.func138 ?_;refine bH ?_;refine cp cr (tZ _ ka vJ) ?_;refine cp cr (agZ _ J) ?_;refine bn ?_;refine cp cr (tZ _ ka vJ) ?_;refine cp cr (agZ _ J) ?_;refine a6 ?_;refine kR (fun(x y:Nat) L=>(mS L [] [(6,bu y),(5,bu x)])) (fun x y=>gO x y=gO (val a) (val b)/\(ak x).length<=1099511627776/\(ak y).length<=1099511627776) (fun x y=>y) (val a) (val b) ⟨rfl,adJ,ai5⟩ ?_;rintro x y L1 ⟨hg,hx,hy⟩;refine bH ?_;refine aD rfl ?_ ?_<;>intro qZ sb
 ·have ky:0<y:=xU (fun h=>by rw[h,za]at sb;simp at sb);refine bK ?_;refine cp aC (ams _ _ (dX _) (dX _) J J (by rw[cL];exact ky)) ?_;refine nh ?_;exact ja y (x%y) ⟨by rw[tf,<-agm,tf];exact hg,hy,aP (qH (ym (nA x ky))) hy⟩ (hm:=nA _ ky)
 refine dj ?_;refine aD rfl ?_ ?_<;>intro aay h35
 ·have ky:y=0:=vh.1 (pQ J);refine bH ?_;subst ky;rw[<-hg,ahb];exact ee
 have ky:0<y:=xU (fun h=>by rw[h,za]at h35;simp at h35);refine b7 ?_;refine iZ (fun L=>∃(x2:Nat) (y2:Nat) (L1:St),(gO x2 y2=gO (val a) (val b)/\(ak x2).length<=2/\(ak y2).length<=2)/\L=(mS L1 [] [(6,bu y2),(5,bu x2)])) ?_ ?_
 ·refine aD rfl ?_ ?_<;>intro aQB h39
  ·refine aK ?_;refine cp aC (ams _ _ (dX _) (dX _) J J (by rw[cL];exact ky)) ?_;refine lN ?_;exact⟨y,x%y,_,⟨by rw[tf,<-agm,tf];exact hg,J,aP (qH (ym (nA x ky))) J⟩,eW⟩
  refine bc ?_;exact⟨x,y,_,⟨hg,J,J⟩,eW⟩
 rintro _ ⟨x2,y2,aQn,⟨hg2,uJ,hy2⟩,rfl⟩;refine aK ?_;refine cp cr (avz _ (dX _) J) ?_;refine bn ?_;refine cp cr (avz _ (dX _) J) ?_;refine a6 ?_;refine kR (fun(m n:Nat) L=>(mS L [] [(14,dF n),(13,dF m)])) (fun m n=>gO m n=gO (val a) (val b)/\m<18446744073709551616/\n<18446744073709551616) (fun m n=>n) x2 y2 ⟨hg2,abM.1 uJ,abM.1 hy2⟩ ?_;rintro m n L2 ⟨hg3,hm,hn⟩;refine bK ?_;refine aD rfl ?_ ?_<;>intro aEw h54
 ·refine dj ?_;exact ja n (m%n) ⟨by rw[tf,<-agm,tf];exact hg3,hn,by have:=nA m (show n > 0 by omega);omega⟩ (hm:=nA _ J)
 obtain rfl:n=0:=J;refine bH ?_;refine cp cr (arD _ J) ?_;refine aK ?_;rw[<-hg3,ahb];exact ee
open H0 in
theorem apB:an ai 186 [] (bu 1):=by
 refine aL Tryz.func186 ?_;refine bG ?_;rw[show bu 1=.list 1 ([1].map bR) from rfl];exact lZ [1] rfl rfl (da iE rfl rfl rfl)
namespace aBc
theorem aJ{p q:Prop}(k:q)(e:p=q:=by simp only[bD,bo,bp,bh,dO ao,kT];exact rfl):p:=e.mpr k
end aBc
open aBc in
theorem aki(q:Rat):an ai 165 [ae q] (bu q.den):=by
 refine aL Tryz.func165 ?_;refine iR ?_;refine aD rfl ?_ ?_<;>intro y5 h6
 ·have iG:=arz (show (ak (jX q)).length=0 by omega);refine yc0 (apB) ?_;refine aW ?_;rw[iG];exact ee
 have iG:=amv (q:=q) J;refine b7 ?_;rw[<-iG];exact ee
open af9 in
theorem aqA(a:List Nat)(h:cE a)(hl:a.length<=2):an ai 237 [fS a] (dF (val a)):=by
 unfold fS;refine aL Tryz.func237 ?_;have ej:True:=trivial;refine nn ?_;refine kR (fun(k n:Nat) L=>(mS L [] [(4,iL ((k:Int)-1)),(3,dF n),(0,.list 1 (a.map bR))])) (fun k n=>k<=a.length/\n=val (a.drop k)) (fun k n=>k) a.length 0 ⟨bF _,by simp[val]⟩ ?_;rintro k n L1 ⟨hk,hn⟩;refine bK ?_;refine aD rfl ?_ ?_<;>intro sw h9
 ·obtain⟨j,rfl⟩:∃j,k=j+1:=⟨k-1,J⟩;have ej:(((j+1:Nat):Int)-1).toNat=j:=J;have ek:(((j+1:Nat):Int)-1)=j:=J;have hj:=kj h j;have hnB:=asP h (k:=j+1) (j:=1) J;rw[<-hn]at hnB;refine abE ?_;exact ja j (n*4294967296+a.getD j 0) ⟨J,by rw[rH J,hn];omega⟩
 obtain rfl:k=0:=J;rw[jv]at hn;refine bG ?_;rw[<-hn];exact ee
open H0 in
theorem aNN(a b:Nat)(ha:a<18446744073709551616)(hb:b<18446744073709551616):an ai 272 [dF a,dF b] (dF (gO a b)):=by
 refine aL Tryz.func272 ?_;refine bK ?_;refine kR (fun(m n:Nat) L=>(mS L [] [(1,dF n),(0,dF m)])) (fun m n=>gO m n=gO a b/\m<18446744073709551616/\n<18446744073709551616) (fun m n=>n) a b ⟨rfl,ha,hb⟩ ?_;rintro m n L1 ⟨hg3,hm,hn⟩;refine bK ?_;refine aD rfl ?_ ?_<;>intro y5 h6
 ·refine dj ?_;exact ja n (m%n) ⟨by rw[tf,<-agm,tf];exact hg3,hn,by have:=nA m (show n > 0 by omega);omega⟩ (hm:=nA _ J)
 obtain rfl:n=0:=J;refine bG ?_;rw[<-hg3,ahb];exact ee
namespace axJ
theorem aJ{p q:Prop}(k:q)(e:p=q:=by simp only[bD,bo,bp,bh,ik,lQ,Nat.add_zero,eqm,eqz];exact rfl):p:=e.mpr k
end axJ
open axJ in
theorem arO(l:List Nat)(off len n:Nat)(hn:n<18446744073709551616)(h1:1<=len)(h2:4294967296<=n->2<=len)(hl:off+len<=l.length):pe ai 273 ⟨1,l.map bR,true⟩ [.ref 0 1 off len,dF n] (ah (oe n)) ⟨1,(sN l off n).map bR,true⟩:=by
 refine fnM Tryz.func273 ?_;have eqm:True:=trivial;have eqz:True:=trivial;refine amm ?_;refine aD rfl ?_ ?_<;>intro adm z5
 ·have nm:n<4294967296:=J;have eqz:n%4294967296=n:=jU nm;refine bK ?_;simp only[sN,oe,if_pos nm,eqz];exact yD rfl (.dH (.pure rfl)) rfl rfl (bm iE _)
 have nm:¬n<4294967296:=J;have eqm:n/4294967296%4294967296=n/4294967296:=jU J;refine uV ?_;simp only[sN,oe,if_neg nm];exact yD rfl (.dH (.pure rfl)) rfl rfl (bm iE _)
theorem aIj:val []=0:=rfl
theorem aJP(n:Nat):decide (((eI n:Nat):Int)=0)=decide (n=0):=by
 rw[decide_eq_decide,<-aaa];omega
theorem abW{n:Nat}(h:(ak n).length=1):(ak n).getD 0 0=n/\0<n:=by
 have h0:0<n:=xU (fun e=>by rw[e,za]at h;cases h);rw[adU h0 (wJ.1 J)];exact⟨rfl,h0⟩
namespace aum
theorem aJ{p q:Prop}(k:q)(e:p=q:=by simp only[bD,bo,bp,bh,dO ao,kT,ik,cL];exact rfl):p:=e.mpr k
end aum
open aum in
theorem ac7(q:Rat):an ai 161 [ae q] (.aY [dF (pN q),dF (pD q),bL (smB q)]):=by
 have hdp:=q.den_pos;have aMI:=zS q;refine aL Tryz.func161 ?_;refine lN ?_;refine dU 9 rfl ?_ ?_<;>intro sw h9
 ·have hs:smB q=false:=decide_eq_false (fun h=>by have:=wJ.2 h.1;omega);have jI:True:=trivial;refine nh ?_;simp only[pN,pD,hs,afF,if_false];exact aea [] rfl rfl (.pure rfl) rfl (.pure rfl) rfl (.pure rfl)
 have nm:=wJ.1 (show (ak q.num.natAbs).length<=1 by omega);refine bK ?_;refine aD rfl ?_ ?_<;>intro pU jI
 ·have hs:smB q=false:=by first|exact hs|exact decide_eq_false (fun h=>by have:=aIM h.2;omega)
  refine bM ?_;simp only[pN,pD,hs,afF,if_false];exact aea [] rfl rfl (.pure rfl) rfl (.pure rfl) rfl (.pure rfl)
 have iG:q.den<4294967296:=by
  have:=wJ.1 (show (ak (jX q)).length<=1 by omega);rw[aMI]at this;split at this<;>omega
 have hs:smB q=true:=decide_eq_true ⟨nm,iG⟩;refine lN ?_;refine iZ (fun L=>∃(d:Nat) (L1:St),(d=q.den)/\L=(mS L1 [(1,⟨3,[ae q],true⟩)] [(3,dF d),(1,.aB 1 3 0 0)])) ?_ ?_
 ·refine aD rfl ?_ ?_<;>intro re pR
  ·have ke:=amv (q:=q) J;have sL:(ak (jX q)).getD 0 0=q.den:=by rw[ke,adU hdp iG];rfl
   refine bM ?_;exact⟨(ak (jX q)).getD 0 0,_,sL,eW⟩
  have ke:=arz (q:=q) J;refine bc ?_;exact⟨1,_,ke.symm,eW⟩
 rintro _ ⟨d,aQe,rfl,rfl⟩;refine aW ?_;refine cp cr (aqA _ (dX _) J) ?_;refine bM ?_;simp only[pN,pD,hs,if_true];have gh:((q.den:Int) != 0)=true:=aQ;refine aea [] rfl rfl (.pure rfl) rfl (.pure rfl) (x'':=.v (.bool ((q.den:Int) != 0))) rfl ?_;rw[gh];exact .pure rfl
namespace asE
theorem aJ{p q:Prop}(k:q)(e:p=q:=by simp only[bD,bo,bp,bh,ik,Nat.sub_zero,Nat.zero_add,Nat.add_sub_cancel_left,Nat.add_zero];exact rfl):p:=e.mpr k
theorem wD{p q:Prop}(k:q)(e:p=q:=by simp only[bD,bo,bp,bh,ik,Nat.sub_zero,Nat.zero_add,Nat.add_sub_cancel_left,Nat.add_zero,<-hN,<-hD];exact rfl):p:=e.mpr k
theorem wi{p:Prop}(h:p:=by first|(refine wD ?_;exact rfl)|exact rfl):p:=h
end asE
open asE in
theorem afM(s:Bool)(n d:Nat)(hn:n<18446744073709551616)(lY:0<d)(hd:d<18446744073709551616):an ai 236 [bL s,dF n,dF d] (ae (qv s n d)):=by
 refine aL Tryz.func236 ?_;refine bG ?_;refine aD rfl ?_ ?_<;>intro zu h13
 ·refine bH ?_;obtain rfl:n=0:=J;rw[ail,kZ];exact afB
 have jJ:0<n:=J;have hg:0<gO n d:=apH _ jJ;have ma:0<n/gO n d:=ajZ (aeQ jJ (acH n d)) hg;have hd2:0<d/gO n d:=ajZ (aeQ lY (aoI n d)) hg;have xz:n/gO n d<18446744073709551616:=wQ (x6 _ _) hn;have hd3:d/gO n d<18446744073709551616:=wQ (x6 _ _) hd;have hE:=agT s jJ lY;obtain⟨g,hgg⟩:∃g,g=gO n d:=⟨_,rfl⟩;obtain⟨N,hN⟩:∃N,N=n/gO n d:=⟨_,rfl⟩;obtain⟨D,hD⟩:∃D,D=d/gO n d:=⟨_,rfl⟩;rw[<-hN,<-hD]at hE;rw[<-hN]at ma xz;rw[<-hD]at hd2 hd3;have ph:=aiR ma xz;have kK:=aiR hd2 hd3;obtain⟨mb,yE⟩:=aFT ma xz hd2 hd3;have fb:=aJE ma xz;have lr:(sN [0,0,0,0] 0 N).length=4:=anq _ _ _;have oK:(sN (sN [0,0,0,0] 0 N) (oe N) D).length=4:=by rw[anq,anq];rfl
 refine a6 ?_;refine cp aC (aNN _ _ J J) ?_;refine bK ?_;refine al rfl ahT ?_;refine bc ?_;refine al rfl ahT ?_;refine bc ?_;refine vP wi ?_;refine bI ?_;refine gv rfl rfl (.nr (n:=4) (m:=4) ml ml om om om) ?_;refine bK ?_;refine aaj 24 rfl rfl rfl (bm iE _) (.cons .ref (.cons (.dH (.pure rfl)) .nil)) (.ref aj) (arO [0,0,0,0] 0 4 N xz J J aE) rfl (bm iE _) ?_;refine bM ?_;refine al rfl (.aic (a:=0) (h:=oe N) (mx:=oe N) rfl rV uZ (fun y hy=>by cases hy) (fun _=>rfl) rfl rfl J J J J) ?_;refine bG ?_;refine aD rfl ?_ ?_<;>intro aay h35
 ·refine aW ?_;refine al rfl (.zg (a:=oe N) (h:=4) rfl rV uZ (fun y hy=>by cases hy;exact⟨_,rfl⟩) (fun h=>by cases h) (fun y hy=>by cases hy) (fun _=>rfl) J J J) ?_;refine bn ?_;refine aaj 24 rfl rfl rfl (bm iE _) (.cons .ref (.cons (.dH (.pure rfl)) .nil)) (.ref J) (arO (sN [0,0,0,0] 0 N) (0+oe N) (4-oe N) D hd3 J J J) rfl (bm iE _) ?_;refine bM ?_;refine al rfl (.aic (a:=oe N) (h:=oe N+oe D) (mx:=oe N+oe D) rfl rV uZ (fun y hy=>by cases hy;exact⟨_,rfl⟩) (fun h=>by cases h) rfl rfl J J J J) ?_;refine bN ?_;rw[hE,if_neg J];exact iJ [24] rfl rfl rfl rfl rfl cS (.agg (.cons (.pure rfl) (.cons (ao9 iE rfl rfl J mb) (.cons (ao9 iE rfl rfl J yE) .nil))))
 refine bM ?_;rw[hE,if_pos J];exact iJ [24] rfl rfl rfl rfl rfl cS (.agg (.cons (.pure rfl) (.cons (ao9 iE rfl rfl J fb) (.cons (.pure rfl) .nil))))
namespace at6
theorem aJ{p q:Prop}(k:q)(e:p=q:=by simp only[bD,bo,bp,bh,ik,cL,aIj,Nat.add_zero];exact rfl):p:=e.mpr k
end at6
open at6 in
theorem aed(s:Bool)(a b:List Nat)(ha:cE a)(hb:cE b)(iC:a.length<=1099511627776)(oE:b.length<=1099511627776):an ai 184 [bL s,fS a,fS b] (ae (qv s (val a) (val b))):=by
 have adJ:=aet a ha iC;have ai5:=aet b hb oE;refine aL Tryz.func184 ?_;refine bK ?_;refine iZ (fun L=>∃(t:Bool) (L1:St),(t=decide (val a=0\/val b=0))/\L=(mS L1 [(6,⟨3,[.agg [.v (.bool false),.list 1 [],.list 1 []]],true⟩)] [(15,bL t),(6,.aB 6 3 0 0),(2,fS b),(1,fS a),(0,bL s)])) ?_ ?_
 ·refine bc ?_;refine cp cr (agh _ ka J) ?_;refine bc ?_;refine dU 11 rfl ?_ ?_<;>intro adm z5
  ·have hz:val a=0:=aaa.1 J;refine a6 ?_;exact⟨true,_,(decide_eq_true (.inl hz)).symm,eW⟩
  have hza:val a≠0:=fun h=>by rw[aaa.2 h]at z5;exact z5 rfl
  refine bn ?_;refine cp cr (agh _ ka J) ?_;refine aK ?_;exact⟨decide (((eI (val b):Nat):Int)=0),_,by show decide _=_;rw[aJP];simp[hza],eW⟩
 rintro _ ⟨t,LR1,ht,rfl⟩;refine bn ?_;refine aD rfl ?_ ?_<;>intro rB n9
 ·have hq:qv s (val a) (val b)=0:=by
   rw[ht,decide_eq_true_eq]at rB;rcases rB with h|h
   ·rw[h];exact ail _ _
   rw[h];exact aoM _ _
  refine bH ?_;rw[hq,kZ];exact afB
 rw[ht,decide_eq_false_iff_not,not_or]at rB;have ha0:0<val a:=xU rB.1;have gh:0<val b:=xU rB.2;have hg:0<gO (val a) (val b):=apH _ ha0;have hE:=agT s ha0 gh;have hgl:(ak (gO (val a) (val b))).length<=1099511627776:=aP (qH (aeQ ha0 (acH _ _))) adJ;have hqa:(ak (val a/gO (val a) (val b))).length<=1099511627776:=aP (qH (x6 _ _)) adJ;have hqb:(ak (val b/gO (val a) (val b))).length<=1099511627776:=aP (qH (x6 _ _)) ai5;refine aK ?_;refine iZ (fun L=>∃(t:Bool) (L1:St),(t=decide (a.length<=2/\b.length<=2))/\L=(mS L1 [(6,⟨3,[.agg [.v (.bool false),.list 1 [],.list 1 []]],true⟩)] [(24,bL t),(6,.aB 6 3 0 0),(2,fS b),(1,fS a),(0,bL s)])) ?_ ?_
 ·refine aW ?_;refine dU 20 rfl ?_ ?_<;>intro wk h20
  ·refine a6 ?_;exact⟨decide (((b.length:Nat):Int)<=2),_,by rw[decide_eq_decide];omega,eW⟩
  refine a6 ?_;exact⟨false,_,by symm;rw[decide_eq_false_iff_not];omega,eW⟩
 rintro _ ⟨t,LR3,ht2,rfl⟩;refine bn ?_;refine aD rfl ?_ ?_<;>intro um rT
 ·rw[ht2,decide_eq_true_eq]at um;have aRn:=um.1;have aPW:=um.2;refine aK ?_;have hva:=wI ha (k:=2) J;have hvb:=wI hb (k:=2) J;refine cp cr (aqA a ha J) ?_;refine bf (aqA b hb J) ?_;refine cp kN (afM _ _ _ hva gh hvb) ?_;refine aW ?_;exact fO
 refine bK ?_;refine cp aC (apX _ _ ka ka J J) ?_;refine a6 ?_;refine cp cr (agh _ ka J) ?_;refine bI ?_;refine iZ (fun L=>∃(x:List Nat) (y:List Nat) (L1:St),(cE x/\cE y/\x.length<=1099511627776/\y.length<=1099511627776/\val x=val a/gO (val a) (val b)/\val y=val b/gO (val a) (val b))/\L=(mS L1 [(6,⟨3,[.agg [.v (.bool false),.list 1 [],.list 1 []]],true⟩)] [(6,.aB 6 3 0 0),(2,fS y),(1,fS x),(0,bL s)])) ?_ ?_
 ·refine aD rfl ?_ ?_<;>intro aqm h36
  ·refine aK ?_;refine cp aC (ams _ _ ka ka J J (by rw[cL];exact hg)) ?_;refine b7 ?_;refine cp aC (ams _ _ ka ka J J (by rw[cL];exact hg)) ?_;refine bK ?_;exact⟨ak (val a/gO (val a) (val b)),ak (val b/gO (val a) (val b)),_,⟨dX _,dX _,hqa,hqb,cL _,cL _⟩,eW⟩
  have nx:gO (val a) (val b)=1:=aId.1 (by have:=aaa (n:=gO (val a) (val b));omega);refine bc ?_;exact⟨a,b,_,⟨ha,hb,iC,oE,by rw[nx,ahi],by rw[nx,ahi]⟩,eW⟩
 rintro _ ⟨x,y,aRd,⟨hx,hy,hlx,hly,hvx,hvy⟩,rfl⟩;rw[<-hvx,<-hvy]at hE;have ky:0<val y:=by rw[hvy];exact ajZ (aeQ gh (aoI _ _)) hg
 refine aN (an2 x [] hx (by intro y hy;cases hy) hlx aE) ?_;refine aN (an2 y [] hy (by intro y hy;cases hy) hly aE) ?_;refine bN ?_;refine dU 58 rfl ?_ ?_<;>intro aBa h58
 ·refine bK ?_;refine aD rfl ?_ ?_<;>intro aqX jl
  ·have qP:val y=1:=by have:=(abW (n:=val y) J).1;omega
   refine ff ?_;rw[hE,if_pos qP];exact iJ [] rfl rfl rfl rfl rfl cS (.agg (.cons (.pure rfl) (.cons (.pure (mq _)) (.cons (.nil 1) .nil))))
  have qP:val y≠1:=by have:=(abW (n:=val y) J).1;omega
  refine bG ?_;rw[hE,if_neg qP];exact ahu
 have qP:val y≠1:=fun e=>by rw[e,alv]at h58;exact h58 rfl
 refine nn ?_;rw[hE,if_neg qP];exact ahu
open H0 in
theorem ap6(n:Int)(h1:-9223372036854775808<=n)(h2:n<=9223372036854775807):an ai 185 [iL n] (bu n.natAbs):=by
 refine aL Tryz.func185 ?_;refine bG ?_;refine aD rfl ?_ ?_<;>intro h4r h4
 ·refine bf (arD 9223372036854775808 J) ?_;refine aW ?_;rw[show n.natAbs=9223372036854775808 by omega];exact ee
 refine a6 ?_;refine al rfl (.neg rfl) ?_;refine bn ?_;refine al rfl (.alK (n:=n.natAbs) akL ajy (by simp only[e1,p1,p2,bh];rw[aGJ J J]) J) ?_;refine cp cr (arD n.natAbs J) ?_;refine aK ?_;exact ee
theorem wO{P:Program}{L:St}{a u:Nat}{T:TypeId}{b sz:Nat}{x y x' y':LV}{m:Bool}{n:Nat}{ag:Bool}(bs:List Nat)(h0:bs.contains 0=false)(h:L.slot a=.aB b sz 0 0)(hb:L.heap b=some ⟨sz,[x],m⟩)
  (hx:x.aq=sz) (cJ:x.at 0 n ag=some x) (hT:bS P T n ag) (hi:dt (L.b9 bs).heap x y) (h':L.slot u=x') (qW:dt (L.b9 bs).heap x' y'):pB P [.cell a T,.tmp u] L (.aY [y,y']) [] :=
 ⟨[x,x'],[y,y'],(L.b9 bs).heap,[],.cons ⟨b,sz,0,0,_,x,n,ag,h,hb,rfl,rfl,hx,cJ,hT⟩ (.cons h' .nil),vW bs h0,.cons (.dH hi) (.cons (.dH qW) .nil),List.nodup_nil,rfl,fun k b h=>by simp at h,rfl⟩
namespace amt
theorem aJ{p q:Prop}(k:q)(e:p=q:=by simp only[bD,bo,bp,bh,cL];exact rfl):p:=e.mpr k
end amt
open amt in
theorem zV(n:Int)(h1:-9223372036854775808<=n)(h2:n<=9223372036854775807):an ai 90 [iL n] (ae (n:Rat)):=by
 refine aL Tryz.func90 ?_;refine b7 ?_;refine cp cr (ap6 _ J J) ?_;refine cp am0 (apB) ?_;refine cp kN (aed (decide (n<0)) (ak n.natAbs) (ak 1) (dX _) (dX _) (aP (abM.2 J) J) (by rw[alv];decide)) ?_;refine aK ?_;rw[<-agF n];exact fO
open amt in
theorem an1(n d:Int)(h1:-9223372036854775808<=n)(h2:n<=9223372036854775807)(h3:-9223372036854775808<=d)(h4:d<=9223372036854775807)(hd:d≠0):an ai 285 [iL n,iL d] (.aY [ae ((n:Rat)/(d:Rat)),iL 0]):=by
 refine aL Tryz.func285 ?_;refine dj ?_;refine aD rfl ?_ ?_<;>intro h7r h7
 ·exact absurd h7 hd
 refine b7 ?_;refine cp cr (ap6 _ J J) ?_;refine bn ?_;refine cp cr (ap6 _ J J) ?_;refine cp kN (aed (decide (n<0) != decide (d<0)) (ak n.natAbs) (ak d.natAbs) (dX _) (dX _) (aP (abM.2 J) J) (aP (abM.2 J) J)) ?_;refine aW ?_;rw[<-ahx];exact agO
theorem adg{q:Rat}(h:smB q=true):pN q=q.num.natAbs/\pD q=q.den/\q.num.natAbs<4294967296/\q.den<4294967296:=by
 have h2:=of_decide_eq_true h;exact⟨by simp[pN,h],by simp[pD,h],h2.1,h2.2⟩
theorem fQ{x y k l:Nat}(hx:(ak x).length<=k)(hy:(ak y).length<=l):(ak (x*y)).length<=k+l :=
 aai (ab4 (xq hx) (xq hy))
theorem aq8{x y k:Nat}(hx:(ak x).length<=k)(hy:(ak y).length<=k):(ak (x+y)).length<=k+1 :=
 aai (asx (xq hx) (xq hy))
def agc(x y:Nat):List Nat:=if x<y then []else ak (x-y)
def adK(x y:Nat):Int:=if x<y then 7 else 0
theorem azA(x y:Nat)(hx:(ak x).length<=1099511627776)(hy:(ak y).length<=1099511627776):an ai 240 [bu x,bu y] (.aY [fS (agc x y),iL (adK x y)]):=by
 unfold agc adK;by_cases h:x<y
 ·rw[if_pos h,if_pos h];exact aHj _ _ (dX _) (dX _) hx hy (by rw[cL,cL];exact h)
 rw[if_neg h,if_neg h];have:=aIS _ _ (dX x) (dX y) hx hy (by rw[cL,cL];omega);rw[cL,cL]at this;exact this
theorem an5{x y:Nat}:adK x y=0↔y<=x:=by unfold adK;split<;>omega
theorem aiS{x y:Nat}(h:y<=x):agc x y=ak (x-y):=by unfold agc;rw[if_neg J]
section
variable {a b:Rat} {s:Bool} {x y d k:Nat}
theorem add_same(hk:0<k)(hx:x*k=a.num.natAbs*b.den)(hy:y*k=b.num.natAbs*a.den)(hd:d*k=a.den*b.den)(h:decide (a<0)=s):a+sgR s b=qv s (x+y) d:=by
 have:=aCP s (n:=a.num.natAbs) (m:=b.num.natAbs) a.den_pos b.den_pos;rw[<-hx,<-hy,<-hd,<-iV,aqC s hk]at this;rw[<-this,sgR];subst h;rw[ou]
theorem aoX(hk:0<k)(hx:x*k=a.num.natAbs*b.den)(hy:y*k=b.num.natAbs*a.den)(hd:d*k=a.den*b.den)(h:decide (a<0)≠s)(hle:y<=x):a+sgR s b=qv (decide (a<0)) (x-y) d:=by
 have:=awF (decide (a<0)) s (n:=a.num.natAbs) (m:=b.num.natAbs) a.den_pos b.den_pos h (by rw[<-hx,<-hy];exact jd _ hle);rw[<-hx,<-hy,<-hd,<-aBm,aqC _ hk]at this;rw[<-this,sgR,ou]
theorem aoW(hk:0<k)(hx:x*k=a.num.natAbs*b.den)(hy:y*k=b.num.natAbs*a.den)(hd:d*k=a.den*b.den)(h:decide (a<0)≠s)(hle:x<=y):a+sgR s b=qv s (y-x) d:=by
 have:=aAx (decide (a<0)) s (n:=a.num.natAbs) (m:=b.num.natAbs) a.den_pos b.den_pos h (by rw[<-hx,<-hy];exact jd _ hle);rw[<-hx,<-hy,<-hd,<-aBm,aqC _ hk]at this;rw[<-this,sgR,ou]
end
theorem apy{a b:Rat}(h:ak (jX a)=ak (jX b)):a.den=b.den:=by
 have h2:jX a=jX b:=by rw[<-cL (jX a),h,cL]
 rw[zS,zS]at h2;have:=a.den_pos;have:=b.den_pos;split at h2<;>split at h2<;>omega
theorem aG7{x y k:Nat}(hk:0<k):l8 (x*k) (y*k)=l8 x y:=by
 simp only[l8,Nat.mul_lt_mul_right hk]
theorem arb{a b:Rat}(ha:¬a<0)(hb:¬b<0):a<b↔a.num.natAbs*b.den<b.num.natAbs*a.den:=by
 rw[ai0]at ha hb;rw[ayi];have h1:a.num=(a.num.natAbs:Int):=J;have h2:b.num=(b.num.natAbs:Int):=J;rw[h1,h2];simp only[Int.natAbs_natCast]
 exact_mod_cast Iff.rfl
theorem ay6{a b:Rat}(ha:a<0)(hb:b<0):a<b↔b.num.natAbs*a.den<a.num.natAbs*b.den:=by
 have:=arb (a:=-b) (b:=-a) ba ba;rw[aqR,aqR,amZ,amZ,ank,ank]at this;rw[<-this];grind
theorem alh{a b:Rat}(h:cq a=cq b):fY a b=if a<0 then-l8 (a.num.natAbs*b.den) (b.num.natAbs*a.den)else l8 (a.num.natAbs*b.den) (b.num.natAbs*a.den):=by
 have hs:(a<0)↔(b<0):=by
  unfold cq at h;split at h<;>split at h<;>(try split at h)<;>(try split at h)<;>grind
 by_cases ha:a<0
 ·have hb:=hs.1 ha;rw[if_pos ha];simp only[fY,l8,ay6 ha hb,ay6 hb ha];split<;>split<;>omega
 have hb:=fun h=>ha (hs.2 h);rw[if_neg ha];simp only[fY,l8,arb ha hb,arb hb ha]
theorem asT{a b:Rat}(h:cq a<cq b):fY a b=-1:=by
 have:a<b:=by unfold cq at h;split at h<;>split at h<;>(try split at h)<;>(try split at h)<;>grind
 simp[fY,this]
theorem az3{a b:Rat}(h:cq b<cq a):fY a b=1:=by
 have h1:b<a:=by unfold cq at h;split at h<;>split at h<;>(try split at h)<;>(try split at h)<;>grind
 have h2:¬a<b:=ba;simp[fY,h1,h2]
theorem aba{q:Rat}(h:(ak q.num.natAbs).length=0):q=0:=by
 have:=vh.1 (pQ h);exact aCR.1 J
theorem aCx{c:Int}{x y:Nat}(h:c=l8 x y):IntKind.i64.wrap (0-c)=-c:=by
 have:c=-1\/c=0\/c=1:=by rw[h];unfold l8;split<;>(try split)<;>simp
 rw[IntWalk.i64_in _ J];omega
end Go.Proofs.YtbkmfcmgilhaaaaGreat
namespace Go.Lg
open Go.Proofs.YtbkmfcmgilhaaaaGreat in
theorem iI.aEQ{P:Program}{L:St}{dst:Option Nat}{T:TypeId}{p x:Operand}{b:Nat}{q q0:Rat}(hp:L.ev p=.aB b 3 0 0)(hb:L.heap b=some ⟨3,[ae q0],true⟩)(hx:L.ev x=ae q)(hT:bS P T 3 true):
  iI P L dst (.store T p x) ((L.bO b (some ⟨3,[ae q],true⟩)).put dst .any):=by
 have h0:LV.put (ae q0) 0 (L.ev x)=some (ae q):=by
  rw[hx,yV q0];have e1:∀n,(bu n).aq=1:=fun _=>rfl;simp[LV.put,ao.aq,ao.isAgg,dg,LV.aq,e1]
 have h:=iI.store (P:=P) (dst:=dst) (T:=T) (p:=p) (x:=x) (y:=ae q0) (y':=ae q) hp hb rfl rfl rfl (ao.aq _) h0 (by rw[hx,ao.aq,ao.isAgg];exact hT)
  (by rw[hx];exact⟨LV.fJ (ao.pure q),LV.fh (ao.pure q)⟩)
 exact h
end Go.Lg
namespace Go.Proofs.YtbkmfcmgilhaaaaGreat
open Go.Lg
open amt in
theorem wF(q:Rat)(h:rl q<=1099511627776):an ai 26 [ae q] (iL (cq q)):=by
 have h1:=nH q;have hq:=aBY q;refine aL Tryz.func26 ?_;refine bG ?_;refine cp cr (agh _ ka J) ?_;refine aK ?_;refine aD rfl ?_ ?_<;>intro h3r h3
 ·have hz:q.num.natAbs=0:=aaa.1 J;refine bH ?_;rw[hq,if_pos hz];exact ee
 have hz:q.num.natAbs≠0:=fun e=>by rw[aaa.2 e]at h3;exact h3 rfl
 refine bK ?_;refine aD rfl ?_ ?_<;>intro nX h8
 ·refine bH ?_;rw[hq,if_neg hz,if_pos h8];exact ee
 refine bM ?_;rw[hq,if_neg hz,if_neg h8];exact ee
open H0 in
theorem amB(q:Rat)(h:rl q<=1099511627776):an ai 235 [ae q] (ae q):=by
 have h1:=nH q;have h2:=oJ q;refine aL Tryz.func235 ?_;refine bG ?_;refine cp cr (agZ _ J) ?_;refine bc ?_;refine cp cr (agZ _ J) ?_;refine aW ?_;rw[yV];exact ahu
namespace aCS
theorem aJ{p q:Prop}(k:q)(e:p=q:=by simp only[bD,bo,bp,bh,cL];exact rfl):p:=e.mpr k
theorem wD{p q:Prop}(k:q)(e:p=q:=by simp only[bD,bo,bp,bh,cL,th,tv,tP,tG];exact rfl):p:=e.mpr k
theorem wi{p:Prop}(h:p:=by first|(refine wD ?_;exact rfl)|exact rfl):p:=h
end aCS
open aCS in
theorem pS(a b:Rat)(h:rl a+rl b<=1099511627776):an ai 75 [ae a,ae b] (iL (fY a b)):=by
 have a1:=nH a;have a2:=pL a;have a3:=oJ a;have c1:=nH b;have c2:=pL b;have c3:=oJ b;have a0:=a.den_pos;have c0:=b.den_pos;have m1:=fQ a1 c2;have m2:=fQ c1 a2;have m3:=fQ a2 c2;have m4:=fQ a1 c1;have m5:=fQ a2 c1;have m6:=fQ c2 a2;refine aL Tryz.func75 ?_;refine bN ?_;refine cp cr (wF _ J) ?_;refine bn ?_;refine cp cr (wF _ J) ?_;refine bN ?_;refine aD rfl ?_ ?_<;>intro wk h20
 ·refine bH ?_;refine aD rfl ?_ ?_<;>intro qZ sb
  ·refine bH ?_;rw[asT sb];exact ee
  refine bM ?_;rw[az3 J];exact ee
 have qz:cq a=cq b:=J;refine bf (ac7 _) ?_;refine iR ?_;refine cp aC (ajK _ _ J J) ?_;refine bc ?_;refine iZ (fun L=>∃(c:Int) (L1:St),(c=l8 (a.num.natAbs*b.den) (b.num.natAbs*a.den))/\L=(mS L1 [(2,⟨3,[ae a],true⟩),(3,⟨3,[ae b],true⟩)] [(7,iL c),(2,.aB 2 3 0 0)])) ?_ ?_
 ·refine aD rfl ?_ ?_<;>intro akT h34
  ·refine aW ?_;refine cp aC (aiF _ _ (dX _) (dX _) aaP aaP) ?_;refine bI ?_;exact⟨l8 a.num.natAbs b.num.natAbs,_,by rw[apy h34];exact(aG7 b.den_pos).symm,eW⟩
  refine bf (ac7 _) ?_;refine b7 ?_;refine iZ (fun L=>∃(t:Bool) (L1:St),(t=(smB a&&smB b))/\L=(mS L1 [(2,⟨3,[ae a],true⟩),(3,⟨3,[ae b],true⟩)] [(49,bL t),(12,dF (pD b)),(11,dF (pN b)),(9,dF (pD a)),(8,dF (pN a)),(7,iL 0),(3,.aB 3 3 0 0),(2,.aB 2 3 0 0)])) ?_ ?_
  ·refine bI ?_;refine dU 47 rfl ?_ ?_<;>intro afH h47
   ·refine aK ?_;exact⟨smB b,_,by rw[afH];rfl,eW⟩
   refine aK ?_;exact⟨false,_,by rw[afH];rfl,eW⟩
  rintro _ ⟨t,aMw,ht,rfl⟩;refine bn ?_;refine aD rfl ?_ ?_<;>intro aeA h49
  ·rw[ht,jS]at aeA;obtain⟨th,tv,k3,k4⟩:=adg aeA.1;obtain⟨tP,tG,k7,k8⟩:=adg aeA.2;have n1:=x9 k3 k8;have n2:=x9 k7 k4;have n3:=n1;have n4:=n2;rw[<-th,<-tG]at n1;rw[<-tP,<-tv]at n2;refine aK ?_;refine al rfl (.bin rfl rfl (aeT J)) ?_;refine bc ?_;refine al rfl (.bin rfl rfl (aeT J)) ?_;refine bn ?_;refine vP wi ?_;refine bn ?_;refine aD rfl ?_ ?_<;>intro aPY h56
   ·refine aK ?_;exact⟨-1,_,(tk J).symm,eW⟩
   refine aK ?_;refine al rfl (.bin rfl rfl (aeT J)) ?_;refine bc ?_;refine al rfl (.bin rfl rfl (aeT J)) ?_;refine bn ?_;refine vP wi ?_;refine bn ?_;refine aD rfl ?_ ?_<;>intro aqX jl
   ·refine aK ?_;exact⟨1,_,(vN J).symm,eW⟩
   refine bc ?_;exact⟨0,_,(xa J).symm,eW⟩
  refine adH ?_;refine adH ?_;refine cp aC (aiF _ _ (dX _) (dX _) aaP aaP) ?_;refine bI ?_;exact⟨l8 (a.num.natAbs*b.den) (b.num.natAbs*a.den),_,rfl,eW⟩
 rintro _ ⟨c,aRm,hc,rfl⟩;refine bH ?_;refine aD rfl ?_ ?_<;>intro aOa h76
 ·refine bM ?_;rw[alh qz,if_pos h76,<-hc,<-aCx hc];exact ee
 refine bM ?_;rw[alh qz,if_neg h76,<-hc];exact ee
namespace anO
theorem aJ{p q:Prop}(k:q)(e:p=q:=by simp only[bD,bo,bp,bh,cL,th,tv,tP,tG];exact rfl):p:=e.mpr k
end anO
open anO in
theorem jE(a b:Rat)(h:rl a+rl b<=1099511627776):an ai 181 [ae a,ae b] (ae (a*b)):=by
 have a1:=nH a;have a2:=pL a;have a3:=oJ a;have c1:=nH b;have c2:=pL b;have c3:=oJ b;have a0:=a.den_pos;have c0:=b.den_pos;have m1:=fQ a1 c2;have m2:=fQ c1 a2;have m3:=fQ a2 c2;have m4:=fQ a1 c1;have m5:=fQ a2 c1;have m6:=fQ c2 a2;have hE:=amx (decide (a<0)) (decide (b<0)) a.num.natAbs a.den b.num.natAbs b.den;rw[ou,ou]at hE;refine aL Tryz.func181 ?_;have th:True:=trivial;have tv:True:=trivial;have tP:True:=trivial;have tG:True:=trivial;refine iR ?_;refine dU 15 rfl ?_ ?_<;>intro rB n9
 ·have hz:a*b=0:=by rw[aba (q:=a) J,Rat.zero_mul]
  refine lN ?_;rw[hz,kZ];exact afB
 refine bK ?_;refine aD rfl ?_ ?_<;>intro wk h20
 ·have hz:a*b=0:=by rw[aba (q:=b) J,Rat.mul_zero]
  refine bH ?_;rw[hz,kZ];exact afB
 refine bf (ac7 _) ?_;refine ff ?_;refine iZ (fun L=>∃  (L1:St),(True)/\L=(mS L1 [(2,⟨3,[ae a],true⟩),(3,⟨3,[ae b],true⟩),(4,⟨3,[.agg [.v (.bool false),.list 1 [],.list 1 []]],true⟩)] [(4,.aB 4 3 0 0),(3,.aB 3 3 0 0),(2,.aB 2 3 0 0)])) ?_ ?_
 ·refine aD rfl ?_ ?_<;>intro aa1 tX
  ·obtain⟨th,tv,k3,k4⟩:=adg aa1;refine bf (ac7 _) ?_;refine ff ?_;refine aD rfl ?_ ?_<;>intro aay h35
   ·obtain⟨tP,tG,k7,k8⟩:=adg aay;have n1:=x9 k3 k7;have n2:=x9 k4 k8;have np:=oR a0 c0;refine bM ?_;refine al rfl aeR ?_;refine bc ?_;refine al rfl aeR ?_;refine cp kN (afM _ _ _ acn (by first|exact np|(simp only[th,tv,tP,tG];exact np)) acn) ?_;refine a6 ?_;rw[hE];exact fO
   refine bc ?_;exact tT
  refine bc ?_;exact tT
 rintro _ ⟨aNa,-,rfl⟩;refine bG ?_;refine cp aC (aoG _ _ (dX _) (dX _) J J) ?_;refine bf (aki _) ?_;refine adH ?_;refine cp kN (aed _ _ _ (dX _) (dX _) aaP aaP) ?_;refine aK ?_;rw[hE];exact fO
open anO in
theorem zp(a b:Rat)(h:rl a+rl b<=1099511627776):an ai 159 [ae a,ae b] (.aY [ae (a/b),iL (if b=0 then 3 else 0)]):=by
 have a1:=nH a;have a2:=pL a;have a3:=oJ a;have c1:=nH b;have c2:=pL b;have c3:=oJ b;have a0:=a.den_pos;have c0:=b.den_pos;have m1:=fQ a1 c2;have m2:=fQ c1 a2;have m3:=fQ a2 c2;have m4:=fQ a1 c1;have m5:=fQ a2 c1;have m6:=fQ c2 a2;have hE:=ajX (decide (a<0)) (decide (b<0)) a.num.natAbs a.den b.num.natAbs b.den;rw[ou,ou]at hE;refine aL Tryz.func159 ?_;have th:True:=trivial;have tv:True:=trivial;have tP:True:=trivial;have tG:True:=trivial;refine bG ?_;refine cp cr (wF _ J) ?_;refine bI ?_;refine aD rfl ?_ ?_<;>intro pU jI
 ·have hz:b=0:=by
   unfold cq at jI;split at jI
   ·assumption
   split at jI<;>omega
  refine bM ?_;subst hz;rw[show a/0=0 by rw[gQ];simp,kZ];exact wO [] rfl rfl rfl rfl rfl cS (.pure rfl) rfl (.pure rfl)
 have hz:b≠0:=by rintro rfl;exact jI rfl
 have hbn:0<b.num.natAbs:=xU (fun h=>hz (aCR.1 J));refine bf (ac7 _) ?_;refine ff ?_;refine iZ (fun L=>∃  (L1:St),(True)/\L=(mS L1 [(2,⟨3,[ae a],true⟩),(3,⟨3,[ae b],true⟩),(4,⟨3,[.agg [.v (.bool false),.list 1 [],.list 1 []]],true⟩)] [(5,iL 0),(4,.aB 4 3 0 0),(3,.aB 3 3 0 0),(2,.aB 2 3 0 0)])) ?_ ?_
 ·refine aD rfl ?_ ?_<;>intro ae1 h22
  ·obtain⟨th,tv,k3,k4⟩:=adg ae1;refine bf (ac7 _) ?_;refine ff ?_;refine aD rfl ?_ ?_<;>intro adu h29
   ·obtain⟨tP,tG,k7,k8⟩:=adg adu;have n1:=x9 k3 k8;have n2:=x9 k4 k7;have np:=oR a0 hbn;refine bM ?_;refine al rfl aeR ?_;refine bc ?_;refine al rfl aeR ?_;refine cp kN (afM _ _ _ acn (by first|exact np|(simp only[th,tv,tP,tG];exact np)) acn) ?_;refine bK ?_;rw[hE,if_neg hz];exact agO
   refine bc ?_;exact tT
  refine bc ?_;exact tT
 rintro _ ⟨aQ6,-,rfl⟩;refine adH ?_;refine bf (aki _) ?_;refine bc ?_;refine cp aC (aoG _ _ (dX _) (dX _) J J) ?_;refine cp kN (aed _ _ _ (dX _) (dX _) aaP aaP) ?_;refine aW ?_;rw[hE,if_neg hz];exact agO
theorem ae5{p s:Bool}(h:(p==s)=false):p≠s:=mA
namespace ass
theorem aJ{p q:Prop}(k:q)(e:p=q:=by simp only[bD,bo,bp,bh,cL,Nat.one_mul,Nat.mul_one,eS,eK,eSb,eSc,th,tv,tP,tG];exact rfl):p:=e.mpr k
end ass
open ass in
theorem ave(a b:Rat)(s:Bool)(h:rl a+rl b<=549755813888):an ai 170 [ae a,ae b,bL s] (ae (a+sgR s b)):=by
 have a1:=nH a;have a2:=pL a;have a3:=oJ a;have c1:=nH b;have c2:=pL b;have c3:=oJ b;have a0:=a.den_pos;have c0:=b.den_pos;have m1:=fQ a1 c2;have m2:=fQ c1 a2;have m3:=fQ a2 c2;have m4:=fQ a1 c1;have m5:=fQ a2 c1;have m6:=fQ c2 a2;have mm:=aq8 (k:=rl a+rl b) m1 J;refine aL Tryz.func170 ?_;have eS:True:=trivial;have eK:True:=trivial;have eSb:True:=trivial;have eSc:True:=trivial;have th:True:=trivial;have tv:True:=trivial;have tP:True:=trivial;have tG:True:=trivial;refine bf (ac7 _) ?_;refine ff ?_;refine iZ (fun L=>∃  (L1:St),(True)/\L=(mS L1 [(3,⟨3,[ae a],true⟩),(4,⟨3,[ae b],true⟩),(6,⟨3,[.agg [.v (.bool false),.list 1 [],.list 1 []]],true⟩)] [(6,.aB 6 3 0 0),(4,.aB 4 3 0 0),(3,.aB 3 3 0 0),(2,bL s)])) ?_ ?_
 ·refine aD rfl ?_ ?_<;>intro aa1 tX
  ·obtain⟨th,tv,k3,k4⟩:=adg aa1;refine bf (ac7 _) ?_;refine ff ?_;refine aD rfl ?_ ?_<;>intro aay h35
   ·obtain⟨tP,tG,k7,k8⟩:=adg aay;have n1:=x9 k3 k8;have n2:=x9 k7 k4;have n3:=x9 k4 k8;have np:=oR a0 c0;refine aK ?_;refine al rfl aeR ?_;refine bc ?_;refine al rfl aeR ?_;refine aW ?_;have eS:(((a.num.natAbs*b.den:Nat):Int)+((b.num.natAbs*a.den:Nat):Int)+0)%18446744073709551616=(((a.num.natAbs*b.den+b.num.natAbs*a.den)%18446744073709551616:Nat):Int):=J;have eK:(((a.num.natAbs*b.den:Nat):Int)+((b.num.natAbs*a.den:Nat):Int)+0)/18446744073709551616=(((a.num.natAbs*b.den+b.num.natAbs*a.den)/18446744073709551616:Nat):Int):=J;refine bI ?_;refine al rfl (.acN Tryz.func238 rfl rfl rfl rfl (vs:=[.int .u64 ((a.num.natAbs*b.den:Nat):Int),.int .u64 ((b.num.natAbs*a.den:Nat):Int),.int .u64 0]) rfl (fun w=>run_add64 _ _ _ J J J J w) rfl rfl) ?_;refine iR ?_;refine dU 53 rfl ?_ ?_<;>intro aao h53
    ·refine a6 ?_;refine aD rfl ?_ ?_<;>intro aPe h48
     ·refine rC (afM s ((a.num.natAbs*b.den+b.num.natAbs*a.den)%18446744073709551616) (a.den*b.den) J np J) ?_;refine bK ?_;have hc0:a.num.natAbs*b.den+b.num.natAbs*a.den<18446744073709551616:=J;rw[add_same (k:=1) (x:=a.num.natAbs*b.den) (y:=b.num.natAbs*a.den) (d:=a.den*b.den) J (lJ _) (lJ _) (lJ _) (eq_of_beq aao),show qv s (a.num.natAbs*b.den+b.num.natAbs*a.den) (a.den*b.den)=qv s ((a.num.natAbs*b.den+b.num.natAbs*a.den)%18446744073709551616) (a.den*b.den) by rw[jU hc0]];exact fO
     refine bK ?_;refine xn arA ?_;refine xn arA ?_;refine xn arA ?_;refine al rfl (.r7 rfl ((by rw[aao];rfl))) ?_;refine dj ?_;refine rA (b:=_) rfl (by rw[aao];rfl) ?_;refine bI ?_;exact tT
    refine ff ?_;refine al aqx (.move _) ?_;refine al aqx (.move _) ?_;refine al aqx (.bin rfl rfl rfl) ?_;refine al rfl (.sR rfl ((by rw[aao];rfl))) ?_;refine bI ?_;refine aD rfl ?_ ?_<;>intro aqX jl
    ·refine b7 ?_;refine cp kN (afM _ _ _ acn (by first|exact np|(simp only[th,tv,tP,tG];exact np)) acn) ?_;refine bK ?_;rw[aoX (k:=1) (x:=a.num.natAbs*b.den) (y:=b.num.natAbs*a.den) (d:=a.den*b.den) J (lJ _) (lJ _) (lJ _) (ae5 aao) J];exact fO
    refine bM ?_;refine qO (b:=_) rfl (by rw[aao];rfl) ?_;refine bM ?_;refine cp kN (afM _ _ _ acn (by first|exact np|(simp only[th,tv,tP,tG];exact np)) acn) ?_;refine bK ?_;rw[aoW (k:=1) (x:=a.num.natAbs*b.den) (y:=b.num.natAbs*a.den) (d:=a.den*b.den) J (lJ _) (lJ _) (lJ _) (ae5 aao) J];exact fO
   refine bc ?_;exact tT
  refine bc ?_;exact tT
 rintro _ ⟨aNa,-,rfl⟩;refine bf (aki _) ?_;refine bG ?_;refine cp aC (ajK _ _ J J) ?_;refine bI ?_;refine iZ (fun L=>∃(x:Nat) (y:Nat) (d:Nat) (L1:St),(∃k,0<k/\x*k=a.num.natAbs*b.den/\y*k=b.num.natAbs*a.den/\d*k=a.den*b.den/\0<d/\(ak x).length<=rl a+rl b/\(ak y).length<=rl a+rl b/\(ak d).length<=rl a+rl b)/\L=(mS L1 [(3,⟨3,[ae a],true⟩),(4,⟨3,[ae b],true⟩),(6,⟨3,[.agg [.v (.bool false),.list 1 [],.list 1 []]],true⟩)] [(17,bu d),(16,bu y),(15,bu x),(6,.aB 6 3 0 0),(4,.aB 4 3 0 0),(3,.aB 3 3 0 0),(2,bL s)])) ?_ ?_
 ·refine aD rfl ?_ ?_<;>intro aP2 aNs
  ·refine adH ?_;refine adH ?_;refine adH ?_;refine aW ?_;exact⟨a.num.natAbs*b.den,b.num.natAbs*a.den,a.den*b.den,_,⟨1,J,lJ _,lJ _,lJ _,oR a0 c0,m1,J,m3⟩,eW⟩
  have hde:=apy aNs;refine bc ?_;exact⟨a.num.natAbs,b.num.natAbs,a.den,_,⟨a.den,a0,by rw[hde],rfl,by rw[hde],a0,J,J,J⟩,eW⟩
 rintro _ ⟨x,y,d,aQ3,⟨k,hk,hx,hy,hd,lY,lx,ly,ld⟩,rfl⟩;have lxy:=aq8 lx ly;have lxs:(ak (x-y)).length<=rl a+rl b:=aP (qH (aiT _ _)) lx;have lys:(ak (y-x)).length<=rl a+rl b:=aP (qH (aiT _ _)) ly;refine b7 ?_;refine aD rfl ?_ ?_<;>intro aoR aQa
 ·refine aW ?_;refine cp aC (an2 _ _ (dX _) (dX _) J J) ?_;refine bn ?_;refine cp kN (aed _ _ _ (dX _) (dX _) aaP aaP) ?_;refine aW ?_;rw[add_same hk hx hy hd (eq_of_beq aoR)];exact fO
 refine bK ?_;refine cp aC (azA _ _ J J) ?_;refine dj ?_;refine aD rfl ?_ ?_<;>intro ao7 aps
 ·have hle:=an5.1 (show adK x y=0 by omega);have eSb:=aiS hle;refine a6 ?_;refine cp kN (aed _ _ _ (by rw[eSb];exact dX _) (dX _) (by rw[eSb];omega) J) ?_;refine aW ?_;rw[aoX hk hx hy hd (ae5 aoR) hle];exact fO
 have hle:x<=y:=by
  rcases aou x y with h|h
  ·exact h
  have:=an5.2 h;omega
 have eSc:=aiS hle;refine a6 ?_;refine cp aC (azA _ _ J J) ?_;refine bG ?_;refine cp kN (aed _ _ _ (dX _) (dX _) J J) ?_;refine aK ?_;rw[aoW hk hx hy hd (ae5 aoR) hle];exact fO
theorem ug{a b:Rat}:fY b a<0↔b<a:=by unfold fY;split<;>(try split)<;>grind
theorem qe{a b:Rat}:fY b a > 0↔a<b:=by unfold fY;split<;>(try split)<;>grind
open H0 in
theorem lf(a b:Rat)(h:rl a+rl b<=549755813888):an ai 78 [ae a,ae b] (ae (a+b)):=by
 refine aL Tryz.func78 ?_;refine dj ?_;refine cp kN (ave _ _ _ J) ?_;refine aK ?_;exact iJ [] rfl rfl rfl (ao.aq _) (rn _) cS (by rw[alm];exact .pure (ao.pure _))
open H0 in
theorem ue(a b:Rat)(h:rl a+rl b<=549755813888):an ai 160 [ae a,ae b] (ae (a-b)):=by
 refine aL Tryz.func160 ?_;refine ff ?_;refine cp kN (ave _ _ _ J) ?_;refine aK ?_;rw[aid];exact iJ [] rfl rfl rfl (ao.aq _) (rn _) cS (by rw[aKP];exact .pure (ao.pure _))
open H0 in
theorem aqY(a b:Rat)(h:rl a+rl b<=549755813888):an ai 157 [ae a,ae b] (ae (if b<a then b else a)):=by
 refine aL Tryz.func157 ?_;refine bG ?_;refine cp aC (pS _ _ J) ?_;refine bI ?_;refine iZ (fun L=>∃(q:Rat) (L1:St),(q=(if b<a then b else a)/\rl q<=549755813888)/\L=(mS L1 [(2,⟨3,[ae q],true⟩),(3,⟨3,[ae b],true⟩),(4,⟨3,[.agg [.v (.bool false),.list 1 [],.list 1 []]],true⟩)] [(4,.aB 4 3 0 0),(2,.aB 2 3 0 0)])) ?_ ?_
 ·refine aD rfl ?_ ?_<;>intro nX h8
  ·refine aW ?_;exact⟨b,_,⟨by rw[if_pos (ug.1 h8)],J⟩,eW⟩
  refine bc ?_;exact⟨a,_,⟨by rw[if_neg (fun h=>h8 (ug.2 h))],J⟩,eW⟩
 rintro _ ⟨q,LC8,⟨hq,jG⟩,rfl⟩;refine aK ?_;refine cp cr (amB _ J) ?_;refine aK ?_;rw[<-hq];exact fO
open H0 in
theorem apa(a b:Rat)(h:rl a+rl b<=549755813888):an ai 158 [ae a,ae b] (ae (if a<b then b else a)):=by
 refine aL Tryz.func158 ?_;refine bG ?_;refine cp aC (pS _ _ J) ?_;refine bI ?_;refine iZ (fun L=>∃(q:Rat) (L1:St),(q=(if a<b then b else a)/\rl q<=549755813888)/\L=(mS L1 [(2,⟨3,[ae q],true⟩),(3,⟨3,[ae b],true⟩),(4,⟨3,[.agg [.v (.bool false),.list 1 [],.list 1 []]],true⟩)] [(4,.aB 4 3 0 0),(2,.aB 2 3 0 0)])) ?_ ?_
 ·refine aD rfl ?_ ?_<;>intro nX h8
  ·refine aW ?_;exact⟨b,_,⟨by rw[if_pos (qe.1 h8)],J⟩,eW⟩
  refine bc ?_;exact⟨a,_,⟨by rw[if_neg (fun h=>h8 (qe.2 h))],J⟩,eW⟩
 rintro _ ⟨q,LC8,⟨hq,jG⟩,rfl⟩;refine aK ?_;refine cp cr (amB _ J) ?_;refine aK ?_;rw[<-hq];exact fO
theorem ayt{o:List Nat}{N:Nat}(hL:cE o)(hv:val o=N)(h:o.length=0\/4294967296^(o.length-1)<=N):o=ak N:=by
 have h1:(ak N).length<=o.length:=by rw[<-hv];exact aB3 hL
 have h2:o.length<=(ak N).length:=by
  rcases h with h|h
  ·omega
  rcases g7 (ak N).length o.length with bV|mr
  ·have:=xq (n:=N) (k:=o.length-1) J;omega
  exact mr
 have e1:=al3 hL rfl;have e2:=al3 (dX N) rfl;rw[e1,e2,cL,hv];congr 1;omega
theorem aIO{m:Nat}(h:(ak m).length=2):m=(ak m).getD 1 0*4294967296+(ak m).getD 0 0:=by
 have e:=cL m;generalize ak m=l at h e
 match l,h with
 | [x,y],_=>rw[val_two]at e;simp;omega
theorem orC{a b:Nat}(hb:b<4294967296)(hx:a<4294967296):eO .or .u64 (b:Nat) ((a*4294967296:Nat):Int)=some (.int .u64 ((a*4294967296+b:Nat):Int)):=orV (s:=32) hb J
theorem wP:(0:Int).toNat=0:=rfl
theorem tz1:(1:Int).toNat=1:=rfl
theorem axZ{α β:Type}(f:α->β)(o:List α):(o.map f).take o.length=o.map f:=by rw[cy aE]
theorem av6{α β:Type}(f:α->β)(o:List α)(x:α):o.map f++[f x]=(o++[x]).map f:=aE
theorem aaS{α:Type}(o:List α)(x:α):(o++[x]).length=o.length+1:=aE
theorem jt:type_of% (dI (@axZ) (dI (@av6) (@aaS))):=dI (@axZ) (dI (@av6) (@aaS))
theorem anW(o:List Nat)(x:Nat):val (o++[x])=val o+4294967296^o.length*x:=by rw[agx];simp[val]
theorem aop{o:List Nat}(h:cE o){x:Nat}(hx:x<4294967296):cE (o++[x]):=auz h (fun y hy=>by simp at hy;omega)
section
variable {m n c s:Nat} {o:List Nat}
theorem aMx(hv:val o+4294967296^o.length*c=val ((ak m).take o.length)+val ((ak n).take o.length))(hs:s=c+(ak m).getD o.length 0+(ak n).getD o.length 0):
  val (o++[s%4294967296])+4294967296^(o.length+1)*(s/4294967296)=val ((ak m).take (o.length+1))+val ((ak n).take (o.length+1)):=by
 rw[anW,rY,rY,kC];have h1:=aeg (4294967296^o.length) s;have h2:4294967296^o.length*s=4294967296^o.length*c+4294967296^o.length*(ak m).getD o.length 0+4294967296^o.length*(ak n).getD o.length 0:=by rw[hs,fp,fp]
 omega
theorem ain{m k:Nat}(h:(ak m).length<=k):val ((ak m).take k)=m:=by rw[cy h,cL]
theorem aKV(hv:val o+4294967296^o.length*c=val ((ak m).take o.length)+val ((ak n).take o.length))(dK:o.length<=max (ak m).length (ak n).length\/(o.length=max (ak m).length (ak n).length+1/\c=0))
  (hg:o.length<max (ak m).length (ak n).length\/c≠0):o.length+1=max (ak m).length (ak n).length+1->4294967296^(o.length+1-1)<=m+n:=by
 intro h;rw[ain J,ain J]at hv;have:4294967296^o.length*1<=4294967296^o.length*c:=l9 _ J;rw[tD];omega
theorem ajk{m:Nat}(h:0<(ak m).length):4294967296^((ak m).length-1)<=m:=by
 rcases g7 m (4294967296^((ak m).length-1))with h1|h1
 ·have:=aai h1;omega
 exact h1
theorem aOd(hc:c<=1)(dK:o.length<=max (ak m).length (ak n).length\/(o.length=max (ak m).length (ak n).length+1/\c=0))(hg:o.length<max (ak m).length (ak n).length\/c≠0)
  (hs:s=c+(ak m).getD o.length 0+(ak n).getD o.length 0):o.length+1<=max (ak m).length (ak n).length\/(o.length+1=max (ak m).length (ak n).length+1/\s/4294967296=0):=by
 by_cases h:o.length<max (ak m).length (ak n).length
 ·exact qN
 rw[xC (ak m) _ J,xC (ak n) _ J]at hs;exact .inr ⟨J,J⟩
theorem aII(hc:c<=1)(cI:cE o)(dK:o.length<=max (ak m).length (ak n).length\/(o.length=max (ak m).length (ak n).length+1/\c=0))(hv:val o+4294967296^o.length*c=val ((ak m).take o.length)+val ((ak n).take o.length))
  (mr:o.length=max (ak m).length (ak n).length+1->4294967296^(o.length-1)<=m+n) (hg:¬(o.length<max (ak m).length (ak n).length\/c≠0)):ak (m+n)=o:=by
 rw[ain J,ain J,show c=0 by omega]at hv;refine(ayt cI J ?_).symm;by_cases h0:o.length=0
 ·exact .inl h0
 refine .inr ?_;rcases dK with h|h
 ·rcases aou (ak m).length (ak n).length with hh|hh
  ·have:=ajk (m:=n) J;rw[show o.length=(ak n).length by omega];omega
  have:=ajk (m:=m) J;rw[show o.length=(ak m).length by omega];omega
 exact mr h.1
end
theorem aJg{k br y2 br2 x:Nat}{a b o:List Nat}(dK:k<o.length)(cI:cE o)(qj:br<=1)(hxl:a.getD k 0<4294967296)(hyl:b.getD k 0<4294967296)(hv:val (o.take k)+val (b.take k)=val (a.take k)+4294967296^k*br)(hx:x=br+b.getD k 0)
  (h:(a.getD k 0<x/\y2=a.getD k 0+4294967296/\br2=1)\/(x<=a.getD k 0/\y2=a.getD k 0/\br2=0)) :
  x<=y2/\br2<=1/\cE (o.set k ((y2-x)%4294967296))/\val ((o.set k ((y2-x)%4294967296)).take (k+1))+val (b.take (k+1))=val (a.take (k+1))+4294967296^(k+1)*br2:=by
 rcases h with⟨h1,rfl,rfl⟩|⟨h1,rfl,rfl⟩
 ·refine⟨J,J,ox cI _ _ J,?_⟩;rw[show (a.getD k 0+4294967296-x)%4294967296=4294967296+a.getD k 0-x by omega];exact ayq dK hv hx h1 J
 refine⟨J,J,ox cI _ _ J,?_⟩;rw[jU (by omega:a.getD k 0-x<4294967296)];exact awC dK hv hx h1
namespace atX
theorem aJ{p q:Prop}(k:q)(e:p=q:=by simp only[bD,bo,bp,bh,ej,ek,ik,List.take_zero,gU,fD,dO iE,LV.kill];exact rfl):p:=e.mpr k
end atX
open atX in
theorem yn(l:List Nat)(h:cE l)(hl:l.length<=4398046511104):an ai 136 [fS l] (bu (val l)):=by
 unfold fS bu;rw[<-yt h];unfold aap;refine aL Tryz.func136 ?_;have ej:True:=trivial;have ek:True:=trivial;refine ff ?_;refine dy (fun(k:Nat) L=>(mS L [] [(3,ah k),(0,.list 1 (l.map bR))])) (fun k=>k<=l.length/\kG l.length l=kG k l) (fun k=>k) l.length ⟨bF _,rfl⟩ ?_;rintro k L1 ⟨hk,zY⟩;refine a6 ?_;refine dU 8 rfl ?_ ?_<;>intro nX h8
 ·obtain⟨j,rfl⟩:∃j,k=j+1:=⟨k-1,J⟩;have ej:(((j+1:Nat):Int)-1).toNat=j:=J;have ek:(((j+1:Nat):Int)-1)=j:=J;refine bM ?_;refine aD rfl ?_ ?_<;>intro rB n9
  ·refine b7 ?_;exact ji j ⟨J,zY.trans (by simp only[kG];rw[if_pos (by simpa using n9)])⟩
  refine b7 ?_;refine al rfl agb ?_;refine cj rfl aAo ?_;refine aK ?_;rw[zY,kG,if_neg (show ¬l.getD j 0=0 by omega)];exact lZ [22] rfl rfl (da iE rfl rfl rfl)
 have nN:k=0:=J;subst nN;refine nn ?_;refine al rfl agb ?_;refine cj rfl aAo ?_;refine aK ?_;rw[zY,show kG 0 l=0 from rfl];exact lZ [22] rfl rfl (da iE rfl rfl rfl)
open H0 in
theorem ads(n:Nat)(hn:n<18446744073709551616):an ai 62 [dF n] (bu n):=by
 have hL:cE [n%4294967296,n/4294967296%4294967296]:=by
  intro x hx;simp at hx;omega
 have hV:val [n%4294967296,n/4294967296%4294967296]=n:=by rw[val_two];omega
 refine aL Tryz.func62 ?_;refine dj ?_;refine vj [8] vm (yn _ ka vJ) ?_;refine aK ?_;exact eG rfl (by rw[hV];exact .pure (mq _))
namespace asX
theorem aJ{p q:Prop}(k:q)(e:p=q:=by simp only[bD,bo,bp,bh,ik,wP,tz1];exact rfl):p:=e.mpr k
end asX
open asX in
theorem aji(m:Nat)(hl:(ak m).length<=1099511627776):an ai 249 [bu m] (.aY [dF (if m<18446744073709551616 then m else 0),bL (decide (m<18446744073709551616))]):=by
 have lY:=jN m 0;have iG:=jN m 1;refine aL Tryz.func249 ?_;refine nn ?_;refine aD rfl ?_ ?_<;>intro y5 h6
 ·have hm:m=0:=vh.1 (pQ J);refine bM ?_;subst hm;exact wc
 refine a6 ?_;refine aD rfl ?_ ?_<;>intro nX h8
 ·have hm:=abW (n:=m) J;have fC:=wJ.1 (show (ak m).length<=1 by omega);refine dj ?_;rw[if_pos J,decide_eq_true J];refine uC (x:=dF ((ak m).getD 0 0)) rfl ?_ rfl (.pure rfl);rw[hm.1];exact .pure rfl
 refine a6 ?_;refine aD rfl ?_ ?_<;>intro pU jI
 ·have h2v:m=(ak m).getD 1 0*4294967296+(ak m).getD 0 0:=aIO J;have fC:=abM.1 (show (ak m).length<=2 by omega);refine b7 ?_;refine al rfl (.sh rfl rfl (ag6 (by simp only[ik,wP,tz1];omega))) ?_;refine al rfl (.bin rfl rfl (orC (by simp only[ik,wP,tz1];omega) (by simp only[ik,wP,tz1];omega))) ?_;refine bK ?_;rw[if_pos fC,decide_eq_true fC];refine uC (x:=dF ((ak m).getD 1 0*4294967296+(ak m).getD 0 0)) rfl ?_ rfl (.pure rfl);rw[<-h2v];exact .pure rfl
 have fC:¬m<18446744073709551616:=fun h=>by have:=abM.2 h;omega
 refine b7 ?_;rw[if_neg fC,decide_eq_false fC];exact wc
open afW in
theorem aev(m n:Nat)(iC:(ak m).length<=1099511627776)(oE:(ak n).length<=1099511627776):an ai 129 [bu m,bu n] (iL (l8 m n)):=by
 refine aL Tryz.func129 ?_;have ej:True:=trivial;have ek:True:=trivial;refine iR ?_;refine aD rfl ?_ ?_<;>intro nj pC
 ·refine b7 ?_;refine aD rfl ?_ ?_<;>intro rB n9
  ·have hE:=ajq (m:=m) (n:=n) J;refine bH ?_
   first|(rw[tk hE];exact eG rfl (.pure rfl))|(rw[vN hE];exact eG rfl (.pure rfl))|(rw[xa hE];exact eG rfl (.pure rfl))
  have hE:=ajq (m:=n) (n:=m) J;refine bM ?_
  first|(rw[tk hE];exact eG rfl (.pure rfl))|(rw[vN hE];exact eG rfl (.pure rfl))|(rw[xa hE];exact eG rfl (.pure rfl))
 have hlen:(ak m).length=(ak n).length:=J;clear pC nj;refine bG ?_;refine dy (fun(k:Nat) L=>(mS L [] [(5,iL ((k:Int)-1)),(1,bu n),(0,bu m)])) (fun k=>k<=(ak m).length/\(ak m).drop k=(ak n).drop k) (fun k=>k) ((ak m).length) ⟨bF _,by rw[abX,mE J]⟩ ?_;rintro k L1 ⟨hk,hd⟩;refine bK ?_;refine aD rfl ?_ ?_<;>intro wk h20
 ·obtain⟨j,rfl⟩:∃j,k=j+1:=⟨k-1,J⟩;have ej:(((j+1:Nat):Int)-1).toNat=j:=J;have ek:(((j+1:Nat):Int)-1)=j:=J;refine uV ?_;refine aD rfl ?_ ?_<;>intro apK h31
  ·have hE:=alC (dX m) (k:=j) J J hd J;rw[cL,cL]at hE;refine bG ?_
   first|(rw[tk hE];exact eG rfl (.pure rfl))|(rw[vN hE];exact eG rfl (.pure rfl))|(rw[xa hE];exact eG rfl (.pure rfl))
  refine iR ?_;refine aD rfl ?_ ?_<;>intro ao3 zB
  ·have hE:=alC (dX n) (k:=j) J J hd.symm J;rw[cL,cL]at hE;refine bN ?_
   first|(rw[tk hE];exact eG rfl (.pure rfl))|(rw[vN hE];exact eG rfl (.pure rfl))|(rw[xa hE];exact eG rfl (.pure rfl))
  refine bM ?_;exact ji j ⟨J,avi J J hd J⟩
 obtain rfl:k=0:=J;rw[jv,jv]at hd;have hE:m=n:=by have:=congrArg val hd;rwa[cL,cL]at this
 refine bN ?_
 first|(rw[tk hE];exact eG rfl (.pure rfl))|(rw[vN hE];exact eG rfl (.pure rfl))|(rw[xa hE];exact eG rfl (.pure rfl))
namespace ape
theorem aJ{p q:Prop}(k:q)(e:p=q:=by simp only[bD,bo,bp,bh,ik,List.take_zero,gU,fD,dO iE,LV.kill,jt,dR,fX];exact rfl):p:=e.mpr k
end ape
open ape in
theorem aF2(m n:Nat)(iC:(ak m).length<=1099511627776)(oE:(ak n).length<=1099511627776):an ai 128 [bu m,bu n] (bu (m+n)):=by
 refine aL Tryz.func128 ?_;refine amm ?_;refine iS (au.own (t:=5) 50 1 rfl rfl) ?_;refine kR (fun(o:List Nat) (c:Nat) L=>(mS L [(50,⟨1,o.map bR,true⟩)] [(7,ah o.length),(6,dF c),(5,.ref 50 1 0 o.length),(1,bu n),(0,bu m)])) (fun o c=>c<=1/\cE o/\(o.length<=max (ak m).length (ak n).length\/(o.length=max (ak m).length (ak n).length+1/\c=0))/\val o+4294967296^o.length*c=val ((ak m).take o.length)+val ((ak n).take o.length)/\(o.length=max (ak m).length (ak n).length+1->4294967296^(o.length-1)<=m+n)) (fun o c=>max (ak m).length (ak n).length+2-o.length) ([]) 0 ⟨J,(by intro x hx;cases hx),.inl (bW _),by simp[val],by simp⟩ ?_;rintro o c L1 ⟨hc,cI,dK,hv,mr⟩;have wM:=jN m o.length;have hyk:=jN n o.length;refine bc ?_;refine iZ (fun L=>∃(t:Bool) (L1:St),(t=decide (o.length<max (ak m).length (ak n).length\/c≠0))/\L=(mS L1 [(50,⟨1,o.map bR,true⟩)] [(21,bL t),(7,ah o.length),(6,dF c),(5,.ref 50 1 0 o.length),(1,bu n),(0,bu m)])) ?_ ?_
 ·refine a6 ?_;refine dU 12 rfl ?_ ?_<;>intro acI h12
  ·refine bN ?_;exact⟨true,_,by symm;rw[decide_eq_true_iff];omega,eW⟩
  refine a6 ?_;refine dU 18 rfl ?_ ?_<;>intro re pR
  ·refine aW ?_;exact⟨true,_,by symm;rw[decide_eq_true_iff];omega,eW⟩
  refine aW ?_;exact⟨((c:Int) != 0),_,by rw[adt,bne_iff_ne,decide_eq_true_iff];omega,eW⟩
 rintro _ ⟨t,LR4,ht,rfl⟩;refine bn ?_;refine aD rfl ?_ ?_<;>intro acp h21
 ·rw[ht,decide_eq_true_iff]at acp;have hg:=acp;refine dj ?_;refine iZ (fun L=>∃(s1:Nat) (L1:St),(s1=c+(ak m).getD o.length 0)/\L=(mS L1 [(50,⟨1,o.map bR,true⟩)] [(7,ah o.length),(6,dF s1),(5,.ref 50 1 0 o.length),(1,bu n),(0,bu m)])) ?_ ?_
  ·refine aD rfl ?_ ?_<;>intro aac h27
   ·refine bN ?_;exact⟨c+(ak m).getD o.length 0,_,rfl,eW⟩
   refine bc ?_;exact⟨c,_,by rw[xC (ak m) o.length J];rfl,eW⟩
  rintro _ ⟨s1,aG5,mb,rfl⟩;refine b7 ?_;refine iZ (fun L=>∃(s:Nat) (L1:St),(s=c+(ak m).getD o.length 0+(ak n).getD o.length 0)/\L=(mS L1 [(50,⟨1,o.map bR,true⟩)] [(7,ah o.length),(6,dF s),(5,.ref 50 1 0 o.length),(1,bu n),(0,bu m)])) ?_ ?_
  ·refine aD rfl ?_ ?_<;>intro abv h38
   ·refine bN ?_;exact⟨s1+(ak n).getD o.length 0,_,by rw[mb],eW⟩
   refine bc ?_;exact⟨s1,_,by rw[mb,xC (ak n) o.length J];rfl,eW⟩
  rintro _ ⟨s,aO4,hs,rfl⟩;refine bK ?_;refine cj rfl (.app (news:=[bR (s%4294967296)]) rfl rfl rfl rfl rfl aE (.inl rfl) aj rV rV adB uZ rfl aej (.inl ⟨49,0,_,rfl,by decide,rfl,rfl,by simp,rfl,rfl⟩) aQ aQ aj) ?_;refine bI ?_;refine cO (au.kill _ 49) ?_;refine bG ?_;exact ja (o++[s%4294967296]) (s/4294967296) ⟨J,aop cI J,by rw[aaS];exact aOd hc dK hg hs,by rw[aaS];exact aMx hv hs,by rw[aaS];exact aKV hv dK hg⟩ (hm:=by rw[aaS];omega)
 rw[ht,decide_eq_false_iff_not]at acp;have hN:=aII hc cI dK hv mr acp;refine bG ?_
 skip
 exact lZ [50] rfl rfl (by rw[show bu (m+n)=.list 1 (o.map bR) by rw[<-hN];rfl];exact da iE rfl rfl rfl)
open aeU in
theorem an0(m n:Nat)(iC:(ak m).length<=1099511627776)(oE:(ak n).length<=1099511627776)(hle:n<=m):an ai 222 [bu m,bu n] (bu (m-n)):=by
 have ve:=qH hle;refine aL Tryz.func222 ?_;refine bM ?_;refine gv rfl rfl (.nr (n:=(ak m).length) (m:=(ak m).length) ml ml om om om) ?_;refine iR ?_;refine wz (fun(k:Nat) (o:List Nat) (br:Nat) L=>(mS L [(12,⟨1,o.map bR,true⟩)] [(7,ah k),(6,dF br),(5,.ref 12 1 0 (ak m).length),(1,bu n),(0,bu m)])) (fun k o br=>k<=(ak m).length/\o.length=(ak m).length/\br<=1/\cE o/\val (o.take k)+val ((ak n).take k)=val ((ak m).take k)+4294967296^k*br) (fun k o br=>(ak m).length-k) 0 (av (ak m).length 0) 0 ⟨bW _,by simp,J,yL _,by simp[val]⟩ ?_;rintro k o br L1 ⟨hk,dK,qj,cI,hv⟩;have wM:=jN m k;have hyk:=jN n k;refine bM ?_;refine aD rfl ?_ ?_<;>intro yY yW
 ·refine lV ?_;refine iZ (fun L=>∃(x:Nat) (L1:St),(x=br+(ak n).getD k 0)/\L=(mS L1 [(12,⟨1,o.map bR,true⟩)] [(8,dF x),(7,ah k),(6,dF br),(5,.ref 12 1 0 (ak m).length),(1,bu n),(0,bu m)])) ?_ ?_
  ·refine aD rfl ?_ ?_<;>intro qZ sb
   ·refine bN ?_;exact⟨br+(ak n).getD k 0,_,rfl,eW⟩
   refine bc ?_;exact⟨br,_,by rw[xC _ k J];rfl,eW⟩
  rintro _ ⟨x,aQw,hx,rfl⟩;refine abi ?_;refine iZ (fun L=>∃(y2:Nat) (br2:Nat) (L1:St),(((ak m).getD k 0<x/\y2=(ak m).getD k 0+4294967296/\br2=1)\/(x<=(ak m).getD k 0/\y2=(ak m).getD k 0/\br2=0))/\L=(mS L1 [(12,⟨1,o.map bR,true⟩)] [(9,dF y2),(8,dF x),(7,ah k),(6,dF br2),(5,.ref 12 1 0 (ak m).length),(1,bu n),(0,bu m)])) ?_ ?_
  ·refine aD rfl ?_ ?_<;>intro abv h38
   ·refine bN ?_;exact⟨(ak m).getD k 0+4294967296,1,_,.inl ⟨J,rfl,rfl⟩,eW⟩
   refine bc ?_;exact⟨(ak m).getD k 0,0,_,.inr ⟨J,rfl,rfl⟩,eW⟩
  rintro _ ⟨y2,br2,aO4,hf,rfl⟩;obtain⟨hf1,sK,v7,hf4⟩:=aJg J cI qj wM hyk hv hx hf;refine lV ?_;exact vU (k+1) (o.set k ((y2-x)%4294967296)) br2 ⟨J,by simp[dK],sK,v7,hf4⟩
 obtain rfl:k=(ak m).length:=J;refine bH ?_;refine vj [12] vm (yn _ ka vJ) ?_;refine aK ?_;have e:=aw6 (dX m) cI dK ve (by rw[cL,cL];exact hle) hv;rw[yt cI,cL,cL]at e;have e2:=congrArg val e;rw[cL,cL]at e2;rw[<-e2];exact ee
open H0 in
theorem auJ(m n:Nat)(iC:(ak m).length<=1099511627776)(oE:(ak n).length<=1099511627776):an ai 130 [bu m,bu n] (.aY [fS (agc m n),iL (adK m n)]):=by
 refine aL Tryz.func130 ?_;refine bN ?_;refine cp aC (aev _ _ J J) ?_;refine bI ?_;refine aD rfl ?_ ?_<;>intro sw h9
 ·have bV:m<n:=by unfold l8 at h9;split at h9;assumption;split at h9<;>omega
  refine bH ?_;rw[agc,if_pos bV,adK,if_pos bV];exact uC rfl (.nil 1) rfl (.pure rfl)
 have hle:n<=m:=by
  rcases g7 m n with h|h
  ·rw[tk h]at h9;omega
  exact h
 refine a6 ?_;refine cp aC (an0 _ _ J J J) ?_;refine aW ?_;rw[aiS hle,an5.2 hle];exact uC rfl (.pure (mq _)) rfl (.pure rfl)
theorem aKr{x:Nat}(h:0<x):eI x=eI (x/2^1)+1:=by
 have:=alL (n:=x) (k:=1);rcases g7 x 2 with h1|h1
 ·obtain rfl:x=1:=J;rfl
 rw[this J];omega
open aqf in
theorem alb(m n:Nat)(iC:(ak m).length<=1099511627776)(oE:(ak n).length<=1099511627776):an ai 125 [bu m,bu n] (bu (m*n)):=by
 refine aL Tryz.func125 ?_;have jV:True:=trivial;refine bG ?_;refine gv rfl rfl (.nr (n:=(ak m).length+(ak n).length) (m:=(ak m).length+(ak n).length) ml ml om om om) ?_;refine b7 ?_;refine kR (fun(i:Nat) (o:List Nat) L=>(mS L [(14,⟨1,o.map bR,true⟩)] [(6,ah i),(5,.ref 14 1 0 ((ak m).length+(ak n).length)),(1,bu n),(0,bu m)])) (fun i o=>i<=(ak m).length/\o.length=(ak m).length+(ak n).length/\cE o/\val o=val ((ak m).take i)*val (ak n)/\∀p,i+(ak n).length<=p->o.getD p 0=0) (fun i o=>(ak m).length-i) 0 (av ((ak m).length+(ak n).length) 0) ⟨bW _,by simp,yL _,by simp[val,al2],fun p _=>atg _ _⟩ ?_;rintro i o L1 ⟨hi,dK,cI,hv,hz⟩;have hxi:=jN m i;refine bM ?_;refine aD rfl ?_ ?_<;>intro re pR
 ·refine lN ?_;refine wz (fun(j:Nat) (o:List Nat) (c:Nat) L=>(mS L [(14,⟨1,o.map bR,true⟩)] [(8,ah j),(7,dF c),(6,ah i),(5,.ref 14 1 0 ((ak m).length+(ak n).length)),(1,bu n),(0,bu m)])) (fun j o c=>j<=(ak n).length/\o.length=(ak m).length+(ak n).length/\cE o/\c<4294967296/\val o+4294967296^(i+j)*c=val ((ak m).take i)*val (ak n)+4294967296^i*((ak m).getD i 0*val ((ak n).take j))/\∀p,i+(ak n).length<=p->o.getD p 0=0) (fun j o c=>(ak n).length-j) 0 o 0 ⟨bW _,dK,cI,J,by rw[hv];simp[val],hz⟩ ?_;rintro j o c L2 ⟨hj,dK,cI,hc,hv,hz⟩;have hyj:=jN n j;have hzj:=kj cI (i+j);have hs:=aDd hc hxi hyj hzj;have jV:((i:Int)+(j:Int)).toNat=i+j:=J;refine bM ?_;refine aD rfl ?_ ?_<;>intro um rT
  ·refine aKW ?_;exact vU (j+1) (o.set (i+j) ((c+((ak m).getD i 0*(ak n).getD j 0+o.getD (i+j) 0))%4294967296)) ((c+((ak m).getD i 0*(ak n).getD j 0+o.getD (i+j) 0))/4294967296) ⟨J,by simp[dK],ox cI _ _ (nA _ J),J,aA2 J hv rfl,arV J hz⟩
  obtain rfl:j=(ak n).length:=J;have aHk:((i:Int)+((ak n).length:Int)).toNat=i+(ak n).length:=J;refine abi ?_;exact ja (i+1) (o.set (i+(ak n).length) (c%4294967296)) ⟨J,by simp[dK],ox cI _ _ (nA _ J),by rw[jU hc];exact auV J J (hz _ (bF _)) rfl rfl hv,awE hz⟩
 obtain rfl:i=(ak m).length:=J;refine bH ?_;refine vj [14] vm (yn _ ka vJ) ?_;refine aK ?_;rw[py,cL,cL]at hv;rw[<-hv];exact ee
open H0 in
theorem aJx(m d:Nat)(iC:(ak m).length<=549755813888)(hd:d<4294967296):an ai 263 [bu m,sY d] (bu (m*d)):=by
 have hld:(ak d).length<=1:=wJ.2 hd;refine aL Tryz.func263 ?_;refine b7 ?_;refine cp cr (ads _ J) ?_;refine cp aC (alb _ _ J J) ?_;refine aK ?_;exact ee
open afW in
theorem aEo(m d:Nat)(iC:(ak m).length<=1099511627776)(lY:0<d)(hd:d<4294967296):an ai 259 [bu m,sY d] (.aY [bu (m/d),sY (m%d)]):=by
 refine aL Tryz.func259 ?_;have ej:True:=trivial;have ek:True:=trivial;refine b7 ?_;refine gv rfl rfl (.nr (n:=(ak m).length) (m:=(ak m).length) ml ml om om om) ?_;refine uV ?_;refine wz (fun(k:Nat) (q:List Nat) (r:Nat) L=>(mS L [(11,⟨1,q.map bR,true⟩)] [(8,iL ((k:Int)-1)),(7,dF r),(6,.ref 11 1 0 (ak m).length),(1,sY d),(0,bu m)])) (fun k q r=>k<=(ak m).length/\q.length=(ak m).length/\cE q/\r<d/\val (q.drop k)*d+r=val ((ak m).drop k)) (fun k q r=>k) ((ak m).length) (av (ak m).length 0) 0 ⟨bF _,by simp,yL _,lY,by simp[val]⟩ ?_;rintro k q r L1 ⟨hk,jG,mc,hr,hv⟩;refine bK ?_;refine aD rfl ?_ ?_<;>intro yY yW
 ·obtain⟨j,rfl⟩:∃j,k=j+1:=⟨k-1,J⟩;have ej:(((j+1:Nat):Int)-1).toNat=j:=J;have ek:(((j+1:Nat):Int)-1)=j:=J;have hxj:=jN m j;refine abi ?_;refine al rfl ahT ?_;refine nn ?_;exact vU j (q.set j ((r*4294967296+(ak m).getD j 0)/d%4294967296)) ((r*4294967296+(ak m).getD j 0)%d) ⟨J,by simp[jG],ox mc _ _ (nA _ J),nA _ lY,by rw[jU (asI hr hxj)];exact atZ J jG hv rfl⟩
 obtain rfl:k=0:=J;refine bH ?_;refine vj [11] vm (yn _ ka vJ) ?_;refine bK ?_;obtain⟨E1,E2⟩:=avC lY hr mc hv;rw[yt mc]at E1;have E3:=congrArg val E1;rw[cL,cL,cL]at E3;rw[cL]at E2;rw[<-E3,<-E2];have E4:r%4294967296=r:=jU J;refine uC rfl (.pure (mq _)) rfl ?_;show dt _ (sY (r%4294967296)) (sY r);rw[E4];exact .pure rfl
open af9 in
theorem aIT(a:List Nat)(hl:a.length<=4611686018427387904):an ai 193 [fS a] (bL (decide (a.length=0\/a.getD (a.length-1) 0≠0))):=by
 unfold fS;refine aL Tryz.func193 ?_;have ej:True:=trivial;refine bN ?_;refine dU 6 rfl ?_ ?_<;>intro y5 h6
 ·refine bG ?_;refine eG ?_ (.pure rfl);simp only[e1,e2,e3,e4,p1,p2,p3,q1,q2,q3,bh];congr 2
  first|(symm;rw[decide_eq_true_iff];omega)|(rw[adt,bne_iff_ne,decide_eq_true_iff];omega)
 have ej:((a.length:Int)-1).toNat=a.length-1:=J;refine bG ?_;refine eG ?_ (.pure rfl);simp only[e1,e2,e3,e4,p1,p2,p3,q1,q2,q3,bh];congr 2
 first|(symm;rw[decide_eq_true_iff];omega)|(rw[adt,bne_iff_ne,decide_eq_true_iff];omega)
open af9 in
theorem aPU(m:Nat)(iC:(ak m).length<=1099511627776):an ai 260 [bu m] (iL (eI m)):=by
 refine aL Tryz.func260 ?_;have ej:True:=trivial;refine dj ?_;refine aD rfl ?_ ?_<;>intro h7r h7
 ·have hz:m=0:=vh.1 (pQ J);subst hz;refine bK ?_;exact ee
 have nt:0<(ak m).length:=J;have ej:(((ak m).length:Int)-1).toNat=(ak m).length-1:=J;have hz:=asH nt;have ad7:=jN m ((ak m).length-1);have aql:eI ((ak m).getD ((ak m).length-1) 0)<=32:=yP.2 ad7;refine abi ?_;refine kR (fun(x q:Nat) L=>(mS L [] [(4,sY x),(3,ah q)])) (fun x q=>q+eI x=eI m/\x<4294967296/\eI m<=35184372088832) (fun x q=>x) ((ak m).getD ((ak m).length-1) 0) (32*((ak m).length-1)) ⟨hz,ad7,J⟩ ?_;rintro x q L1 ⟨hq,hx,hbm⟩;refine bK ?_;refine aD rfl ?_ ?_<;>intro ab0 yI
 ·have lH:0<x:=J;refine dj ?_;refine al rfl (.sh rfl rfl (agJ (m:=1) aj)) ?_;refine bI ?_;exact ja (x/2^1) (q+1) ⟨by have:=aKr lH;omega,J,hbm⟩
 obtain rfl:x=0:=J;have gh:eI 0=0:=rfl;obtain rfl:q=eI m:=J;refine bG ?_;exact ee
end Go.Proofs.YtbkmfcmgilhaaaaGreat
namespace Go.Lg
open Go.Proofs.YtbkmfcmgilhaaaaGreat in
theorem au.mv{L:St}{t b sz off len:Nat}{blk:aV}(d:Nat)(gh:b≠0)(lY:d≠0)(gY:b≠d)(h:L.slot t=.ref b sz off len)(hb:L.heap b=some blk)(hd:L.heap d=none):
  au L (((L.kill b).bO d (some ⟨blk.sz,bC b blk.vals,blk.mt⟩)).put (some t) (.ref d sz off len)):=by
 rintro n W X Z0 a w ⟨fA,bU,μ,Z,hc,hr⟩;have aij:=xb hc hd;have hk:=hc.kill b gh;have kW:=agy b hr
 let bE:Nat->Option Nat:=fun c=>if c=d then μ b else nq μ b c
 have hm:∀c id,nq μ b c=some id->bE c=some id:=fun c id hh=>by
  have:c≠d:=by
   rintro rfl;unfold nq at hh;split at hh
   ·cases hh
   rw[aij]at hh;cases hh
  simp only[bE,if_neg this];exact hh
 have hinv:∀c id,bE c=some id->(c=d/\μ b=some id)\/(c≠d/\nq μ b c=some id):=fun c id hh=>by
  simp only[bE]at hh;split at hh
  ·rename_i e;exact .inl ⟨e,hh⟩
  rename_i e;exact .inr ⟨e,hh⟩
 have ir:∀c id,nq μ b c=some id->c≠b/\μ c=some id:=fun c id h=>by
  unfold nq at h;split at h
  ·cases h
  exact⟨by assumption,h⟩
 have hbb:∀id,nq μ b b=some id->False:=fun id hh=>(ir b id hh).1 rfl;have arh:∀{bk:aV} {id:Nat},xd Z (nq μ b) w bk id->xd Z bE w bk id:=fun hh=>xd.mono (fun _ h=>h) hm (Frame.refl _ _ _) rfl hh;refine⟨fA,bU,bE,Z,?_,fun s=>?_⟩
 ·rw[kH];refine⟨hc.cV,hc.m9,hc.kU,hc.nc,?_,?_,?_,hc.pY,?_,?_,?_,?_⟩
  ·intro c c' id h1 h2;rcases hinv c id h1 with⟨e1,g1⟩|⟨e1,g1⟩<;>rcases hinv c' id h2 with⟨e2,g2⟩|⟨e2,g2⟩
   ·rw[e1,e2]
   ·have:=ir c' id g2;exact absurd (hc.inj _ _ id this.2 g1) this.1
   ·have:=ir c id g1;exact absurd (hc.inj _ _ id this.2 g2) this.1
   exact hc.inj c c' id (ir c id g1).2 (ir c' id g2).2
  ·intro c id h1;rcases hinv c id h1 with⟨e1,g1⟩|⟨e1,g1⟩
   ·exact hc.own b id g1
   exact hc.own c id (ir c id g1).2
  ·intro c id h1 hx;rcases hinv c id h1 with⟨e1,g1⟩|⟨e1,g1⟩
   ·exact absurd (hc.x0 b id g1 hx) gh
   exact hc.x0 c id (ir c id g1).2 hx
  ·intro id hx;have h0:=hk.x1 id hx;exact hm 0 id h0
  ·intro c id bk h1 mn gX;rcases hinv c id h1 with⟨e1,g1⟩|⟨e1,g1⟩
   ·subst e1;simp only[St.bO,if_true,gj]at mn;subst mn;exact hc.ku b id blk g1 hb gX
   simp only[St.bO,if_neg e1]at mn;exact hk.ku c id bk g1 mn gX
  ·intro c id bk h1 mn gX;rcases hinv c id h1 with⟨e1,g1⟩|⟨e1,g1⟩
   ·subst e1;simp only[St.bO,if_true,gj]at mn;subst mn;exact hc.b9 b id blk g1 hb gX
   simp only[St.bO,if_neg e1]at mn;exact hk.b9 c id bk g1 mn gX
  intro c id h1;rcases hinv c id h1 with⟨e1,g1⟩|⟨e1,g1⟩
  ·subst e1;obtain⟨bk,q1,cc,T,part,rest,q2,q3,q4⟩:=hc.heap b id g1;rw[hb]at q1;cases q1;refine⟨⟨blk.sz,bC b blk.vals,blk.mt⟩,by simp[St.bO],arh ⟨cc,T,part,rest,q2,q3,?_⟩⟩;exact aT.kill (fun _ h=>h) (fun k id hk h=>by simp[nq,hk,h]) (Frame.refl _ _ _) _ _ q4
  obtain⟨bk,q1,q2⟩:=hk.heap c id g1;exact⟨bk,by simp only[St.bO,if_neg e1];exact q1,arh q2⟩
 rw[iU];split
 ·rename_i ef;subst ef;have e:=hr s;rw[h]at e;refine⟨by simp[LV.isAgg],fun hh=>?_⟩;have e2:=e.2 rfl;simp only[aH]at e2 ⊢;rcases e2 with e2|⟨id,cap,c,T,fz,q1,q2,q3⟩
  ·exact .inl e2
  exact .inr ⟨id,cap,c,T,fz,q1,by simp only[bE,if_true];exact q2,q3⟩
 exact bJ.mono (fun _ h=>h) hm (Frame.refl _ _ _) (kW s)
end Go.Lg
namespace Go.Proofs.YtbkmfcmgilhaaaaGreat
open Go.Lg
theorem an3{s:Nat}(h:s<32):eO .quo .i64 (s:Nat) 32=some (.int .i64 0):=by
 have:((s:Int)).tdiv 32=0:=by rw[Int.tdiv_eq_ediv_of_nonneg J];omega
 simp[eO,this,IntWalk.i64_in]
theorem aCe{s:Nat}(h:s<32):eO .rem .i64 (s:Nat) 32=some (.int .i64 (s:Nat)):=by
 have:((s:Int)).tmod 32=s:=by rw[Int.tmod_eq_emod_of_nonneg J];omega
 simp[eO,this]
theorem aHx{m s c x:Nat}{o:List Nat}(hv:val o+4294967296^o.length*c=val ((ak m).take o.length)*2^s)(hx:x=(ak m).getD o.length 0*2^s+c):
  val (o++[x%4294967296])+4294967296^(o.length+1)*(x/4294967296)=val ((ak m).take (o.length+1))*2^s:=by
 rw[anW,rY,kC,iV,iD (4294967296^o.length) ((ak m).getD o.length 0)];have h1:=aeg (4294967296^o.length) x;have h2:4294967296^o.length*x=4294967296^o.length*((ak m).getD o.length 0*2^s)+4294967296^o.length*c:=by rw[hx,fp]
 omega
theorem aLw{m s c:Nat}{o:List Nat}(hv:val o+4294967296^o.length*c=val ((ak m).take o.length)*2^s)(ho:o.length=(ak m).length)(hc:c<4294967296):val (o++[c%4294967296])=m*2^s:=by
 rw[anW,jU hc,hv,ain J]
theorem aJ5{s x y:Nat}(hs:s<32)(hx:x<4294967296):(y*4294967296+x)/2^s%4294967296=x/2^s+y%2^s*2^(32-s):=by
 have hd:4294967296=2^(32-s)*2^s:=by rw[<-nw,show 32-s+s=32 by omega]
 have hp:0<2^s:=ov J;obtain⟨_,h2⟩:=aqs (z:=y) (show s<=32 by omega) hx;have e1:(y*4294967296+x)/2^s=y*2^(32-s)+x/2^s:=by
  rw[show y*4294967296+x=x+(y*2^(32-s))*2^s by rw[iD,<-hd];omega,Nat.add_mul_div_right _ _ hp];omega
 have e2:y*2^(32-s)=y%2^s*2^(32-s)+4294967296*(y/2^s):=by
  have e3:y*2^(32-s)=(2^s*(y/2^s)+y%2^s)*2^(32-s):=by rw[aeW]
  rw[e3,iV,hd,Nat.mul_right_comm,ie (2^s) (2^(32-s))];omega
 rw[e1,e2,show y%2^s*2^(32-s)+4294967296*(y/2^s)+x/2^s=(y%2^s*2^(32-s)+x/2^s)+4294967296*(y/2^s) by omega,Nat.add_mul_mod_self_left,jU h2];omega
theorem aIF{i s:Nat}{w o:List Nat}(hi:i<w.length)(hs:s<32)(hv:2^s*val (w.take i)=val (o.take i)+4294967296^i*(o.getD i 0%2^s)):
  2^s*val ((w.set i (o.getD i 0/2^s+o.getD (i+1) 0%2^s*2^(32-s))).take (i+1))=val (o.take (i+1))+4294967296^(i+1)*(o.getD (i+1) 0%2^s):=by
 have hd:4294967296=2^s*2^(32-s):=by rw[<-nw,show s+(32-s)=32 by omega]
 rw[ac5 _ _ _ hi,fp,hv,rY,kC];have h1:=aeW (o.getD i 0) (2^s);generalize o.getD i 0/2^s=q at *
 generalize o.getD i 0%2^s=t at *
 generalize o.getD (i+1) 0%2^s=u at *
 generalize 4294967296^i=p at *
 rw[<-h1];have e1:2^s*(p*(q+u*2^(32-s)))=p*(2^s*q)+p*4294967296*u:=by
  rw[hd,fp,fp];simp only[iD,Nat.mul_left_comm,ie]
 rw[e1,fp];omega
theorem aEt{r s:Nat}{o:List Nat}(dK:o.length=(ak (r*2^s)).length)(hv:2^s*val (o.take (ak (r*2^s)).length)=val ((ak (r*2^s)).take (ak (r*2^s)).length)+4294967296^(ak (r*2^s)).length*((ak (r*2^s)).getD (ak (r*2^s)).length 0%2^s)):val o=r:=by
 rw[xC _ _ (bF _),axr,abI,nW,py,<-dK,py,cL,ie r]at hv;exact Nat.eq_of_mul_eq_mul_left (ov J) hv
theorem aPH(k:Nat):((av k 0).map bR).take k=(av k 0).map bR:=by rw[cy aE]
theorem aO0{m:Nat}(k:Nat)(h:0<(ak m).length):ak (m*4294967296^k)=av k 0++ak m:=by
 have hv:val (av k 0++ak m)=m*4294967296^k:=by rw[agx,al2,cL];simp[ie]
 refine(ayt (auz (yL k) (dX m)) hv (.inr ?_)).symm;have:=ajk h;simp only[jx,List.length_replicate];rw[show k+(ak m).length-1=(ak m).length-1+k by omega,nw];exact jd _ this
open ape in
theorem atA(m s:Nat)(iC:(ak m).length<=549755813888)(hs:s<32):an ai 261 [bu m,ah s] (bu (m*2^s)):=by
 obtain⟨mj,tq⟩:=aiJ hs;refine aL Tryz.func261 ?_;refine bH ?_;refine al rfl (.bin rfl rfl (an3 hs)) ?_;refine gv rfl rfl (.nr (n:=0) (m:=0) ml ml om om om) ?_;refine iR ?_;refine iS (au.mv (t:=5) (b:=10) 31 aj aj aj rfl rfl rfl) ?_;refine kR (fun(o:List Nat) (c:Nat) L=>(mS L [(31,⟨1,o.map bR,true⟩)] [(7,ah o.length),(6,dF c),(5,.ref 31 1 0 o.length),(1,ah s),(0,bu m)])) (fun o c=>o.length<=(ak m).length/\c<2^s/\cE o/\val o+4294967296^o.length*c=val ((ak m).take o.length)*2^s) (fun o c=>(ak m).length-o.length) ([]) 0 ⟨bW _,tq,(by intro x hx;cases hx),by simp[val]⟩ ?_;rintro o c L1 ⟨dK,hc,cI,hv⟩;have wM:=jN m o.length;have vv:=arU wM mj;refine bM ?_;refine aD rfl ?_ ?_<;>intro pU jI
 ·refine dj ?_;refine al rfl (.bin rfl rfl (aCe hs)) ?_;refine al rfl (.sh rfl rfl (aAh J (by(try simp only[t1,ik]);omega))) ?_;refine al rfl (.bin rfl rfl (orV hc (by(try simp only[t1,ik]);omega))) ?_;refine bM ?_;refine cj rfl (.app (news:=[bR (((ak m).getD o.length 0*2^s+c)%4294967296)]) rfl rfl rfl rfl rfl aE (.inl rfl) aj rV rV adB uZ rfl aej (.inl ⟨30,0,_,rfl,by decide,rfl,rfl,by simp,rfl,rfl⟩) aQ aQ aj) ?_;refine bI ?_;refine cO (au.kill _ 30) ?_;refine bG ?_;exact ja (o++[((ak m).getD o.length 0*2^s+c)%4294967296]) (((ak m).getD o.length 0*2^s+c)/4294967296) ⟨by rw[aaS];omega,ayZ wM hc,aop cI J,by rw[aaS];exact aHx hv rfl⟩ (hm:=by rw[aaS];omega)
 have hoe:o.length=(ak m).length:=J;have hV:=aLw hv hoe (show c<4294967296 by omega);refine bN ?_;refine cj rfl (.app (news:=[bR (c%4294967296)]) rfl rfl rfl rfl rfl aE (.inr rfl) aj rV rV adB uZ rfl aej (.inl ⟨37,0,_,rfl,by decide,rfl,rfl,by simp,rfl,rfl⟩) aQ aQ aj) ?_;simp only[dO iE,jt,dR,fX];refine vj [38] vm (yn (o++[c%4294967296]) (aop cI J) (by rw[aaS];omega)) ?_;refine aK ?_;rw[<-hV];exact ee
namespace aB2
theorem aJ{p q:Prop}(k:q)(e:p=q:=by simp only[bD,bo,bp,bh,ik,List.drop_zero,mT,eyy];exact rfl):p:=e.mpr k
end aB2
open aB2 in
theorem aPL(r s:Nat)(iC:(ak (r*2^s)).length<=549755813888)(hs:s<32):an ai 264 [bu (r*2^s),ah s] (bu r):=by
 obtain⟨mj,tq⟩:=aiJ hs;have acA:=auK (l:=ak (r*2^s)) (r:=r) (show s<=32 by omega) (cL _);refine aL Tryz.func264 ?_;have mT:True:=trivial;have eyy:True:=trivial;refine bM ?_;refine al rfl (.bin rfl rfl (an3 hs)) ?_;refine aW ?_;refine aD rfl ?_ ?_<;>intro acI h12
 ·have hm:r*2^s=0:=vh.1 (pQ J);have tY:r=0:=by rcases Nat.mul_eq_zero.1 hm with h|h<;>omega
  subst tY;refine bK ?_;exact eG rfl (.nil 1)
 refine a6 ?_;refine al rfl (.bin rfl rfl (an3 hs)) ?_;refine al rfl (.ad9 (a:=0) iE rfl rV uZ rfl om) ?_;refine bK ?_;refine gv rfl rfl (.nr (n:=(ak (r*2^s)).length) (m:=(ak (r*2^s)).length) ml ml om om om) ?_;refine b7 ?_;refine kR (fun(i:Nat) (o:List Nat) L=>(mS L [(19,⟨1,o.map bR,true⟩)] [(6,ah i),(5,.ref 19 1 0 (ak (r*2^s)).length),(1,ah s),(0,bu (r*2^s))])) (fun i o=>i<=(ak (r*2^s)).length/\o.length=(ak (r*2^s)).length/\cE o/\2^s*val (o.take i)=val ((ak (r*2^s)).take i)+4294967296^i*((ak (r*2^s)).getD i 0%2^s)) (fun i o=>(ak (r*2^s)).length-i) 0 (av (ak (r*2^s)).length 0) ⟨bW _,by simp,yL _,by rw[acA];simp[val]⟩ ?_;rintro i o L1 ⟨hi,dK,cI,hv⟩;have mT:((i:Int)+1).toNat=i+1:=J;have hxi:=jN (r*2^s) i;have hyi:=jN (r*2^s) (i+1);obtain⟨hh1,hh2⟩:=aqs (z:=(ak (r*2^s)).getD (i+1) 0) (show s<=32 by omega) hxi;refine bM ?_;refine aD rfl ?_ ?_<;>intro qZ sb
 ·refine abi ?_;refine iZ (fun L=>∃(y:Nat) (L1:St),(y=(ak (r*2^s)).getD (i+1) 0*4294967296+(ak (r*2^s)).getD i 0)/\L=(mS L1 [(19,⟨1,o.map bR,true⟩)] [(7,dF y),(6,ah i),(5,.ref 19 1 0 (ak (r*2^s)).length),(1,ah s),(0,bu (r*2^s))])) ?_ ?_
  ·refine aD rfl ?_ ?_<;>intro aay h35
   ·refine bH ?_;refine al rfl (.sh rfl rfl (ag6 (by(try simp only[t1,ik,mT]);omega))) ?_;refine al rfl (.bin rfl rfl (orC (by(try simp only[t1,ik]);omega) (by(try simp only[t1,ik,mT]);omega))) ?_;refine bI ?_;exact⟨(ak (r*2^s)).getD (i+1) 0*4294967296+(ak (r*2^s)).getD i 0,_,rfl,eW⟩
   refine bc ?_;exact⟨(ak (r*2^s)).getD i 0,_,by rw[xC _ (i+1) J,afY,fZ],eW⟩
  rintro _ ⟨y,aQ0,hy,rfl⟩;have eyy:y/2^s%4294967296=((ak (r*2^s)).getD i 0/2^s+(ak (r*2^s)).getD (i+1) 0%2^s*2^(32-s)):=by rw[hy];exact aJ5 hs hxi
  refine a6 ?_;refine al rfl (.bin rfl rfl (aCe hs)) ?_;refine al rfl (.sh rfl rfl (agJ (m:=s) (by show s<=64;omega))) ?_;refine bG ?_;exact ja (i+1) (o.set i ((ak (r*2^s)).getD i 0/2^s+(ak (r*2^s)).getD (i+1) 0%2^s*2^(32-s))) ⟨J,by simp[dK],ox cI _ _ J,aIF J hs hv⟩
 obtain rfl:i=(ak (r*2^s)).length:=J;refine bH ?_;refine vj [19] vm (yn _ ka vJ) ?_;refine aK ?_;have hV:=aEt dK hv;rw[<-hV];exact ee
namespace aBH
theorem aJ{p q:Prop}(k:q)(e:p=q:=by simp only[bD,bo,bp,bh,List.take_zero,gU,fD,dO iE,LV.kill,jt,dR,fX,aPH,<-List.map_append];exact rfl):p:=e.mpr k
end aBH
open aBH in
theorem aBz(m k:Nat)(iC:(ak m).length<=1099511627776)(hk:k<=1099511627776):an ai 262 [bu m,ah k] (bu (m*4294967296^k)):=by
 refine aL Tryz.func262 ?_;refine dj ?_;refine aD rfl ?_ ?_<;>intro h7r h7
 ·have hm:m=0:=vh.1 (pQ J);subst hm;refine bK ?_;rw[afY];exact eG rfl (.nil 1)
 have hE:=aO0 k (show 0<(ak m).length by omega);refine aW ?_;refine gv rfl rfl (.nr (n:=k) (m:=k) ml ml om om om) ?_;refine bn ?_;refine cj rfl (.app (news:=(ak m).map bR) rfl rfl rfl rfl rfl aE (.inr rfl) aj rV rV adB uZ rfl aej (.inr (.inl rfl)) aQ aQ aj) ?_;refine aK ?_;rw[show bu (m*4294967296^k)=.list 1 ((av k 0++ak m).map bR) by rw[<-hE];rfl];exact lZ [11] rfl rfl (da iE rfl rfl aE)
theorem aGy(l:List Nat)(k:Nat):val l=val (l.take k)+4294967296^k*val (l.drop k):=by
 rcases aou k l.length with h|h
 ·exact wh l k h
 rw[cy h,mE h];simp[val]
theorem avg(l:List Nat)(k:Nat):val (l.drop k)=l.getD k 0+4294967296*val (l.drop (k+1)):=by
 rcases g7 k l.length with h|h
 ·exact rH h
 rw[mE h,mE J,xC _ _ h];rfl
theorem aem{a:Nat}(h:1<=a)(h2:a<=9223372036854775807):eO .sub .i64 (a:Nat) 1=some (.int .i64 ((a-1:Nat):Int)):=by
 rw[ab1 J J];congr 2;omega
theorem aJ3{n:Nat}(h:0<(ak n).length):(ak n).drop ((ak n).length-1)=ak ((ak n).getD ((ak n).length-1) 0):=by
 have h1:=afI (afz n) h;have h2:=jN n ((ak n).length-1);rw[adU J h2];rw[xR J,mE J,bq,ck J];rfl
theorem aFe{R V n j:Nat}(hn:(ak V).length=n+1)(bV:R<V*4294967296^(j+1))(hv:0<(ak V).getD n 0):
  R/4294967296^j/V<=min (((ak R).getD (j+(n+1)) 0*4294967296+(ak R).getD (j+n) 0)/(ak V).getD n 0) 4294967295:=by
 have mV:0<V:=xU (fun h=>by rw[h,za]at hn;cases hn);have hVn:V<4294967296^(n+1):=xq J;have hz:=akl (ul:=ak R) (n:=n+1) (j:=j) hVn (by rw[cL];exact bV);have hq2:R/4294967296^j/V<4294967296:=by
  rw[pM mV,pM (xg j),ie 4294967296,iD,<-Nat.pow_succ'];exact bV
 refine Nat.le_min.2 ⟨?_,J⟩;rw[aaY hv];have hVs:=wh (ak V) n J;have hVd:val ((ak V).drop n)=(ak V).getD n 0:=by
  rw[rH J,mE J];simp[val]
 rw[hVd,cL]at hVs;have hR:R/4294967296^(j+n)=(ak R).getD (j+(n+1)) 0*4294967296+(ak R).getD (j+n) 0:=by
  have e:=aGy (ak R) (j+n);rw[cL]at e;have hl:val ((ak R).take (j+n))<4294967296^(j+n):=wI (aaf (dX R) _) aQ;have hd:val ((ak R).drop (j+n))=(ak R).getD (j+(n+1)) 0*4294967296+(ak R).getD (j+n) 0:=by
   have z:val ((ak R).drop (j+n+2))=0:=aiH (fun p=>by rw[ah4];exact hz _ J);rw[avg,avg,z,show j+n+1=j+(n+1) by omega];omega
  rw[<-hd]
  conv=>lhs;rw[e]
  rw[Nat.add_mul_div_left _ _ (xg _),acT hl,fZ]
 rw[<-hR,nw,<-Nat.div_div_eq_div_mul,aaY (xg n),iD];refine aP (l9 _ ?_) (avh (R/4294967296^j) V);rw[ie];omega
theorem aFP{R V j d:Nat}(hV:0<V)(h:R<V*d*4294967296^j):R/4294967296^j/V<d:=by
 rw[pM hV,pM (xg j),ie d V];exact h
theorem aE6{R V j d:Nat}(hV:0<V)(h:V*d*4294967296^j<=R):d<=R/4294967296^j/V:=by
 rw[aaY hV,aaY (xg j),ie d V];exact h
theorem aJ8{R V j d A:Nat}{ql:List Nat}(hV:0<V)(hd:d=R/4294967296^j/V)(hp:V*d*4294967296^j<=R)(hj:j<ql.length)(hv:R+V*4294967296^(j+1)*val (ql.drop (j+1))=A):
  R-V*d*4294967296^j+V*4294967296^j*val ((ql.set j d).drop j)=A/\R-V*d*4294967296^j<V*4294967296^j:=by
 have:=avU (ul:=ak (R-V*d*4294967296^j)) (ul0:=ak R) (ql:=ql) (x:=d) (j:=j) (U0:=A) hV (by rw[cL];exact hd) (by rw[cL,cL,ie d V,ie (4294967296^j)];omega) hj (by rw[cL];exact hv);rw[cL]at this;exact this
theorem aDy{m n L K s:Nat}(hL:(ak (n*2^s)).length=L)(h0:0<L)(hK:K+L=(ak (m*2^s)).length+1):m*2^s<n*2^s*4294967296^K:=by
 have h1:m*2^s<4294967296^(ak (m*2^s)).length:=xq (bF _);have h2:=ajk (m:=n*2^s) J;refine zT h1 ?_;rw[show (ak (m*2^s)).length=(L-1)+K by omega,nw,<-hL];exact jd _ h2
theorem aD2{m s k:Nat}(h:(ak m).length<=k)(hs:s<32):(ak (m*2^s)).length<=k+1 :=
 fQ h (wJ.2 (by have:=aiJ hs;omega))
theorem aCn(k:Nat):(ak (4294967296^k)).length<=k+1:=aai (Nat.pow_lt_pow_right J J)
theorem aH3{V j d:Nat}(h:1<=d):V*d*4294967296^j-V*4294967296^j=V*(d-1)*4294967296^j:=by
 obtain⟨e,rfl⟩:∃e,d=e+1:=⟨d-1,J⟩;rw[tD,fp,lJ,iV];omega
theorem aJk{V j d:Nat}(h:1<=d):V*4294967296^j<=V*d*4294967296^j:=by
 refine jd _ ?_;have:=l9 V h;omega
namespace ay9
theorem aJ{p q:Prop}(k:q)(e:p=q:=by simp only[bD,bo,bp,bh,ik,cL,eln,edz,esm,esn,eLn,edm,ek,rF,qI,eL1,ed,wP,edd,es];exact rfl):p:=e.mpr k
end ay9
open ay9 in
theorem aqM(m n:Nat)(iC:(ak m).length<=68719476736)(oE:(ak n).length<=68719476736)(jJ:0<n):an ai 221 [bu m,bu n] (.aY [bu (m/n),bu (m%n),iL 0]):=by
 refine aL Tryz.func221 ?_;have eln:True:=trivial;have edz:True:=trivial;have esm:True:=trivial;have esn:True:=trivial;have eLn:True:=trivial;have edm:True:=trivial;have ek:True:=trivial;have rF:True:=trivial;have qI:True:=trivial;have eL1:True:=trivial;have ed:True:=trivial;have edd:True:=trivial;have es:True:=trivial;refine iR ?_;refine aD rfl ?_ ?_<;>intro acp h21
 ·have uI:=vh.1 (pQ (show (ak n).length=0 by omega));omega
 refine bK ?_;refine cp aC (aev _ _ J J) ?_;refine bI ?_;refine aD rfl ?_ ?_<;>intro acR qT
 ·have bV:m<n:=by unfold l8 at qT;split at qT;assumption;split at qT<;>omega
  refine bI ?_;refine cp cr (yn _ ka J) ?_;refine bK ?_;rw[acT bV,jU bV];exact aea [] rfl rfl (.nil 1) rfl (.pure (mq _)) rfl (.pure rfl)
 have mr:n<=m:=by
  rcases g7 m n with h|h
  ·rw[tk h]at qT;omega
  exact h
 have arh:=qH mr;refine a6 ?_;refine cp cr (aji _ J) ?_;refine bG ?_;refine aD rfl ?_ ?_<;>intro agp h33
 ·have aE2:m<18446744073709551616:=by simpa using agp
  have esm:(if m<18446744073709551616 then m else 0)=m:=if_pos aE2;have esn:(if n<18446744073709551616 then n else 0)=n:=if_pos J;have aQz:m/n<=m:=x6 _ _;have aP9:=nA m jJ;refine bI ?_;refine cp cr (aji _ J) ?_;refine bN ?_;refine al rfl ahT ?_;refine cp cr (ads _ J) ?_;refine bc ?_;refine al rfl (.bin rfl rfl (ao1 J)) ?_;refine cp cr (ads _ J) ?_;refine bK ?_;exact ahm
 refine b7 ?_;refine aD rfl ?_ ?_<;>intro aeA h49
 ·have nm:=abW (n:=n) J;have eLn:=nm.1;have ma:=wJ.1 (show (ak n).length<=1 by omega);have fR:=nA m jJ;refine a6 ?_;simp only[wP,ik,eLn];refine cp aC (aEo m n J jJ ma) ?_;refine bG ?_;refine cp cr (ads _ J) ?_;refine bK ?_;exact ahm
 obtain⟨ln,hL⟩:∃ln,(ak n).length=ln+1:=⟨(ak n).length-1,J⟩;have eL1:(ak n).length-1=ln:=J;have mi:=aJ3 (n:=n) J;rw[eL1]at mi;have apZ:=afI (afz n) (show 0<(ak n).length by omega);rw[eL1]at apZ;have zh:=jN n ln;have eB:eI ((ak n).getD ln 0)<=32:=yP.2 zh;have aQi:(ak ((ak n).getD ln 0)).length<=1:=wJ.2 zh;obtain⟨s,hs⟩:∃s,s=32-eI ((ak n).getD ln 0):=⟨_,rfl⟩;have es:(32:Int)-((eI ((ak n).getD ln 0):Nat):Int)=((s:Nat):Int):=by rw[auN eB,hs]
 obtain⟨v8,me,akG,yC⟩:=axv (n:=ln) hL hs;have mV:0<n*2^s:=oR jJ (ov J);have wX:0<(ak (n*2^s)).getD ln 0:=by have:=azz me akG;omega
 have hUl:=aD2 iC v8;have hUV:(ak (n*2^s)).length<=(ak (m*2^s)).length:=qH (jd _ mr);obtain⟨K,hK⟩:∃K,K+ln=(ak (m*2^s)).length:=⟨(ak (m*2^s)).length-ln,J⟩;have ef:=aDy (m:=m) (n:=n) (s:=s) (K:=K) me J J;refine bK ?_;refine jc ?_;refine al rfl (.ad9 (a:=(ak n).length-1) iE rfl rV uZ rfl om) ?_;rw[eL1,mi];refine cp cr (aPU _ J) ?_;refine bH ?_;refine cp aC (atA _ _ J v8) ?_;refine bc ?_;refine cp aC (atA _ _ J v8) ?_;refine uV ?_;refine gv rfl rfl (.nr (n:=K) (m:=K) ml ml om om om) ?_;refine ff ?_;refine wz (fun(k R:Nat) (ql:List Nat) L=>(mS L [(82,⟨1,ql.map bR,true⟩)] [(15,iL ((k:Int)-1)),(5,bu R),(14,ah (ln+1)),(13,ah s),(4,.ref 82 1 0 K),(1,bu (n*2^s))])) (fun k R ql=>k<=K/\ql.length=K/\cE ql/\R<=m*2^s/\R+(n*2^s)*4294967296^k*val (ql.drop k)=m*2^s/\R<(n*2^s)*4294967296^k) (fun k R ql=>k) K (m*2^s) (av K 0) ⟨bF _,by simp,yL _,bF _,by rw[mE aE];simp[val],ef⟩ ?_;rintro k R ql L1 ⟨hk,jG,mc,hRU,hv,bV⟩;refine bK ?_;refine aD rfl ?_ ?_<;>intro aL8 h88
 ·obtain⟨j,rfl⟩:∃j,k=j+1:=⟨k-1,J⟩;have ek:(((j+1:Nat):Int)-1)=(j:Int):=J;have rF:((j:Int)+((ln+1:Nat):Int)).toNat=j+(ln+1):=J;have qI:((j:Int)+((ln+1:Nat):Int)-1).toNat=j+ln:=J;have hRl:=qH hRU;have eln:(((ln+1:Nat):Int)-1).toNat=ln:=J;have fR:=jN R (j+(ln+1));have mw:=jN R (j+ln);have ayN:=aFe (R:=R) (n:=ln) (j:=j) me bV wX;have tw:=jN (n*2^s) ln;refine nn ?_;refine iZ (fun L=>∃(hi:Nat) (L1:St),(hi=(ak R).getD (j+(ln+1)) 0)/\L=(mS L1 [(82,⟨1,ql.map bR,true⟩)] [(16,dF hi),(15,iL (((j+1:Nat):Int)-1)),(5,bu R),(14,ah (ln+1)),(13,ah s),(4,.ref 82 1 0 K),(1,bu (n*2^s))])) ?_ ?_
  ·refine aD rfl ?_ ?_<;>intro aEH h96
   ·refine bN ?_;exact⟨(ak R).getD (j+(ln+1)) 0,_,rfl,eW⟩
   refine bc ?_;exact⟨0,_,(xC _ _ J).symm,eW⟩
  rintro _ ⟨hi,aPV,jf,rfl⟩;refine dj ?_;refine iZ (fun L=>∃(top:Nat) (L1:St),(top=((ak R).getD (j+(ln+1)) 0*4294967296+(ak R).getD (j+ln) 0))/\L=(mS L1 [(82,⟨1,ql.map bR,true⟩)] [(16,dF top),(15,iL (((j+1:Nat):Int)-1)),(5,bu R),(14,ah (ln+1)),(13,ah s),(4,.ref 82 1 0 K),(1,bu (n*2^s))])) ?_ ?_
  ·refine aD rfl ?_ ?_<;>intro aQr aP1
   ·refine bc ?_;refine al rfl (.sh rfl rfl (ag6 J)) ?_;refine bH ?_;refine al rfl (.bin rfl rfl (orU (by simp only[t1,ik,qI];omega) J)) ?_;refine bI ?_;exact⟨hi*4294967296+(ak R).getD (j+ln) 0,_,by rw[jf],eW⟩
   refine bc ?_;refine al rfl (.sh rfl rfl (ag6 J)) ?_;refine bI ?_;exact⟨hi*4294967296,_,by rw[jf,xC (ak R) (j+ln) J];exact(nW _).symm,eW⟩
  rintro _ ⟨top,aQR,htp,rfl⟩;have aQ2:top/(ak (n*2^s)).getD ln 0<=top:=x6 _ _;have edm:(if (4294967295:Int)<((top/(ak (n*2^s)).getD ln 0:Nat):Int)then(4294967295:Int)else((top/(ak (n*2^s)).getD ln 0:Nat):Int))=((min (top/(ak (n*2^s)).getD ln 0) 4294967295:Nat):Int):=by split<;>omega
  subst htp;obtain⟨d0,lY⟩:∃d0,d0=min (((ak R).getD (j+(ln+1)) 0*4294967296+(ak R).getD (j+ln) 0)/(ak (n*2^s)).getD ln 0) 4294967295:=⟨_,rfl⟩;rw[<-lY]at ayN edm;have hdz:d0<4294967296:=by rw[lY];exact wQ (ase _ _) aj
  clear lY;have edz:d0%4294967296=d0:=jU hdz;have hlz:=fQ (afT me) (wJ.2 hdz);refine b7 ?_;refine al rfl (.bin rfl rfl (ap5 (by simp only[t1,ik,eln];omega) J)) ?_;refine bM ?_;refine cp aC (aJx _ _ J J) ?_;refine bn ?_;refine cp aC (aBz _ _ (by rw[edz];omega) J) ?_;refine aW ?_;refine dy (fun(d:Nat) L=>(mS L [(82,⟨1,ql.map bR,true⟩)] [(18,bu ((n*2^s)*d*4294967296^j)),(17,dF d),(15,iL (((j+1:Nat):Int)-1)),(5,bu R),(14,ah (ln+1)),(13,ah s),(4,.ref 82 1 0 K),(1,bu (n*2^s))])) (fun d=>R/4294967296^j/(n*2^s)<=d/\d<4294967296) (fun d=>d) d0 ⟨ayN,hdz⟩ ?_;rintro d L2 ⟨hdq,hdB⟩;have lr:=fQ (afT me) (wJ.2 hdB);have oK:=fQ lr (aCn j);have oy:=fQ (afT me) (aCn j);refine aW ?_;refine cp aC (aev _ _ J J) ?_;refine bI ?_;refine aD rfl ?_ ?_<;>intro aQl akD
  ·have hgt:R<n*2^s*d*4294967296^j:=by unfold l8 at akD;split at akD;omega;split at akD;assumption;omega
   have hdq:=aFP mV hgt;have lY:1<=d:=wQ (bW _) hdq;have ahj:=aJk (V:=n*2^s) (j:=j) lY;have edd:=aH3 (V:=n*2^s) (j:=j) lY;refine ff ?_;refine cp aC (aBz _ _ J J) ?_;refine cp aC (an0 _ _ J J ahj) ?_;refine aK ?_;exact ji (d-1) ⟨J,J⟩
  have gf:n*2^s*d*4294967296^j<=R:=by
   rcases g7 R (n*2^s*d*4294967296^j)with h|h
   ·rw[vN h]at akD;omega
   exact h
  have hdE:=Nat.le_antisymm (aE6 mV gf) hdq;obtain⟨nm,ma⟩:=aJ8 mV hdE gf (show j<ql.length by omega) hv;have ed:d%4294967296=d:=jU hdB;refine uV ?_;refine cp aC (an0 _ _ J J gf) ?_;refine b7 ?_;exact vU j (R-(n*2^s)*d*4294967296^j) (ql.set j d) ⟨J,by simp[jG],ox mc _ _ hdB,aP (aiT _ _) hRU,nm,ma⟩
 obtain rfl:k=0:=J;rw[jv,aeh,lJ]at hv;rw[aeh,lJ]at bV;have hRl:=qH hRU;obtain⟨hqf,hRf⟩:=aw0 (ul:=ak R) (ql:=ql) (A:=m) (s:=s) jJ (by rw[cL];exact hv) (by rw[cL];exact bV);rw[cL]at hRf;refine bH ?_;refine vj [82] vm (yn _ ka J) ?_;refine bc ?_;rw[hRf];refine cp aC (aPL (m%n) s (by rw[<-hRf];omega) v8) ?_;refine a6 ?_;rw[<-hqf];exact ahm
namespace auH
theorem aJ{p q:Prop}(k:q)(e:p=q:=by simp only[bD,bo,bp,bh,ik,cL,esm,esn];exact rfl):p:=e.mpr k
end auH
open auH in
theorem azg(m n:Nat)(iC:(ak m).length<=68719476736)(oE:(ak n).length<=68719476736):an ai 194 [bu m,bu n] (bu (gO m n)):=by
 refine aL Tryz.func194 ?_;have esm:True:=trivial;have esn:True:=trivial;refine bH ?_;refine cp cr (yn _ (dX _) J) ?_;refine bn ?_;refine cp cr (yn _ (dX _) J) ?_;refine a6 ?_;refine kR (fun(x y:Nat) L=>(mS L [] [(1,bu y),(0,bu x)])) (fun x y=>gO x y=gO m n/\(ak x).length<=68719476736/\(ak y).length<=68719476736) (fun x y=>y) m n ⟨rfl,iC,oE⟩ ?_;rintro x y L1 ⟨hg,hx,hy⟩;refine bH ?_;refine aD rfl ?_ ?_<;>intro re pR
 ·have ky:0<y:=xU (fun h=>by rw[h,za]at pR;simp at pR);refine a6 ?_;refine cp cr (aji _ J) ?_;refine b7 ?_;refine cp cr (aji _ J) ?_;refine bM ?_;refine iZ (fun L=>∃(t:Bool) (L1:St),(t=decide (x<18446744073709551616/\y<18446744073709551616))/\L=(mS L1 [] [(32,bL t),(7,dF (if y<18446744073709551616 then y else 0)),(5,dF (if x<18446744073709551616 then x else 0)),(1,bu y),(0,bu x)])) ?_ ?_
  ·refine bI ?_;refine dU 30 rfl ?_ ?_<;>intro abK yq
   ·refine aK ?_;exact⟨decide (y<18446744073709551616),_,by rw[decide_eq_decide];omega,eW⟩
   refine aK ?_;exact⟨false,_,by symm;rw[decide_eq_false_iff_not];omega,eW⟩
  rintro _ ⟨t,LR5,ht,rfl⟩;refine bn ?_;refine aD rfl ?_ ?_<;>intro ab5 h32
  ·rw[ht,decide_eq_true_iff]at ab5;obtain⟨aB9,avs⟩:=ab5;have esm:(if x<18446744073709551616 then x else 0)=x:=if_pos aB9;have esn:(if y<18446744073709551616 then y else 0)=y:=if_pos avs;refine bc ?_;refine kR (fun(p q:Nat) L=>(mS L [] [(7,dF q),(5,dF p)])) (fun p q=>gO p q=gO m n/\p<18446744073709551616/\q<18446744073709551616) (fun p q=>q) x y ⟨hg,aB9,avs⟩ ?_;rintro p q L2 ⟨hg3,hm,hn⟩;refine bK ?_;refine aD rfl ?_ ?_<;>intro akT h34
   ·refine dj ?_;exact ja q (p%q) ⟨by rw[tf,<-agm,tf];exact hg3,hn,by have:=nA p (show q > 0 by omega);omega⟩ (hm:=nA _ J)
   obtain rfl:q=0:=J;refine bH ?_;refine cp cr (ads _ J) ?_;refine bM ?_;rw[<-hg3,ahb];exact ee
  refine a6 ?_;refine cp aC (aqM _ _ J J (by first|assumption|omega)) ?_;refine nh ?_;exact ja y (x%y) ⟨by rw[tf,<-agm,tf];exact hg,hy,aP (qH (ym (nA x ky))) hy⟩ (hm:=nA _ ky)
 have ky:y=0:=vh.1 (pQ J);refine bG ?_;subst ky;rw[<-hg,ahb];exact ee
section
variable {q a b:Rat}
theorem aE5:(-q<0)↔0<q:=ba
theorem ap2{n:Nat}:0<(ak n).length↔0<n:=by
 constructor
 ·intro h;exact xU (fun e=>by rw[e,za]at h;cases h)
 intro h;exact List.length_pos_iff.2 (fun e=>by have:=vh.1 e;omega)
theorem aGK:0<q↔0<q.num:=by rw[ayi];simp
theorem aj8(h:(!decide (q<0))=true):decide (((ak q.num.natAbs).length:Int) > 0)=decide (-q<0):=by
 rw[decide_eq_decide,aE5,aGK];have h1:¬q<0:=mA;rw[ai0]at h1;have:=ap2 (n:=q.num.natAbs);omega
theorem akZ(h:(!decide (q<0))=false):false=decide (-q<0):=by
 have h1:q<0:=mA;symm;rw[decide_eq_false_iff_not];grind
theorem aOA(s:Bool)(h:s=decide (-q<0)):ae (-q)=.agg [.v (.bool s),bu q.num.natAbs,bu (jX q)]:=by
 rw[yV,h,zS,zS,aqR,amZ,ank]
theorem ali:a=b↔decide (a<0)=decide (b<0)/\a.num.natAbs=b.num.natAbs/\jX a=jX b:=by
 constructor
 ·rintro rfl;exact⟨rfl,rfl,rfl⟩
 rintro⟨h1,h2,h3⟩;have hd:a.den=b.den:=apy (by rw[h3]);rw[<-ou a,<-ou b,h1,h2,hd]
theorem awQ{m n:Nat}:(l8 m n==0)=decide (m=n):=by
 rw[adt,beq_iff_eq,decide_eq_true_iff];unfold l8;split
 ·omega
 split<;>omega
theorem aBo(h:(decide (a<0)==decide (b<0))=false):false=decide (a=b):=by
 symm;rw[decide_eq_false_iff_not,ali];intro h2;rw[h2.1]at h;simp at h
theorem aMY(h2:(l8 a.num.natAbs b.num.natAbs==0)=false):false=decide (a=b):=by
 rw[awQ]at h2;symm;rw[decide_eq_false_iff_not,ali];intro h3;rw[decide_eq_false_iff_not]at h2;exact h2 h3.2.1
theorem aPQ(h:(decide (a<0)==decide (b<0))=true)(h2:(l8 a.num.natAbs b.num.natAbs==0)=true):(l8 (jX a) (jX b)==0)=decide (a=b):=by
 rw[awQ]at h2 ⊢;rw[decide_eq_decide,ali];exact⟨fun h3=>⟨eq_of_beq h,of_decide_eq_true h2,h3⟩,fun h3=>h3.2.2⟩
end
end Go.Proofs.YtbkmfcmgilhaaaaGreat
namespace Go.Lg
open Go.Proofs.YtbkmfcmgilhaaaaGreat in
theorem iI.alr{P:Program}{L:St}{dst:Option Nat}{T:TypeId}{p x:Operand}{b:Nat}{q:Rat}{s:Bool}(hp:L.ev p=.aB b 3 0 0)(hb:L.heap b=some ⟨3,[ae q],true⟩)(hx:L.ev x=.v (.bool s))(hT:bS P T 1 false)
  (hs:s=decide (-q<0)):iI P L dst (.store T p x) ((L.bO b (some ⟨3,[ae (-q)],true⟩)).put dst .any):=by
 have h0:LV.put (ae q) 0 (L.ev x)=some (ae (-q)):=by
  rw[hx,aOA s hs,yV q];have e1:∀n,(bu n).aq=1:=fun _=>rfl;simp[LV.put,aaT,dg,LV.aq,LV.isAgg]
 exact iI.store (P:=P) (dst:=dst) (T:=T) (p:=p) (x:=x) (y:=ae q) (y':=ae (-q)) hp hb rfl rfl rfl (ao.aq _) h0 (by rw[hx];exact hT) (by rw[hx];exact⟨(fun h=>by cases h),(fun _ h=>by cases h)⟩)
end Go.Lg
namespace Go.Proofs.YtbkmfcmgilhaaaaGreat
open Go.Lg
theorem aLD{n:Int}(h1:-9223372036854775808<=n)(h2:n<0):IntKind.i64.wrap (0-(n+1))=(((-(n+1)).toNat:Nat):Int):=by
 rw[IntWalk.i64_in _ J];omega
open H0 in
theorem ade(q:Rat):an ai 126 [ae q] (bu q.den):=by
 refine aL Tryz.func126 ?_;refine iR ?_;refine aD rfl ?_ ?_<;>intro y5 h6
 ·have iG:=arz (show (ak (jX q)).length=0 by omega);refine bH ?_;rw[iG,show bu 1=.list 1 ([1].map bR) from rfl];exact lZ [7] rfl rfl (da iE rfl rfl rfl)
 have iG:=amv (q:=q) J;refine b7 ?_;rw[<-iG];exact ee
namespace axN
theorem aJ{p q:Prop}(k:q)(e:p=q:=by simp only[bD,bo,bp,bh,ik,cL,wP];exact rfl):p:=e.mpr k
end axN
open axN in
theorem afG(s:Bool)(m n:Nat)(iC:(ak m).length<=68719476736)(oE:(ak n).length<=68719476736)(jJ:0<n):an ai 127 [bL s,bu m,bu n] (ae (qv s m n)):=by
 refine aL Tryz.func127 ?_;refine bH ?_;refine cp cr (yn _ (dX _) J) ?_;refine bn ?_;refine cp cr (yn _ (dX _) J) ?_;refine bG ?_;refine aD rfl ?_ ?_<;>intro pU jI
 ·have hm:m=0:=vh.1 (pQ J);refine bH ?_;rw[hm,ail,kZ];exact afB
 have iw:0<m:=ap2.1 J;have hg:0<gO m n:=apH _ iw;have hE:=agT s iw jJ;have hgl:(ak (gO m n)).length<=68719476736:=aP (qH (aeQ iw (acH _ _))) iC;have hqa:(ak (m/gO m n)).length<=68719476736:=aP (qH (x6 _ _)) iC;have hqb:(ak (n/gO m n)).length<=68719476736:=aP (qH (x6 _ _)) oE;have aGV:=abW (n:=gO m n);refine a6 ?_;refine cp aC (azg _ _ J J) ?_;refine aW ?_;refine iZ (fun L=>∃(t:Bool) (L1:St),(t=decide (gO m n≠1))/\L=(mS L1 [(6,⟨3,[.agg [.v (.bool false),.list 1 [],.list 1 []]],true⟩)] [(27,bL t),(7,bu (gO m n)),(6,.aB 6 3 0 0),(2,bu n),(1,bu m),(0,bL s)])) ?_ ?_
 ·refine aW ?_;refine dU 22 rfl ?_ ?_<;>intro ae1 h22
  ·refine bK ?_;exact⟨true,_,by symm;rw[decide_eq_true_iff];intro e;rw[e,alv]at h22;exact h22 rfl,eW⟩
  refine bK ?_;exact⟨(((ak (gO m n)).getD 0 0:Int) != 1),_,by have:=(aGV J).1;rw[adt,bne_iff_ne,decide_eq_true_iff];omega,eW⟩
 rintro _ ⟨t,LR5,ht,rfl⟩;refine bn ?_;refine iZ (fun L=>∃(x:Nat) (y:Nat) (L1:St),(x=m/gO m n/\y=n/gO m n)/\L=(mS L1 [(6,⟨3,[.agg [.v (.bool false),.list 1 [],.list 1 []]],true⟩)] [(6,.aB 6 3 0 0),(2,bu y),(1,bu x),(0,bL s)])) ?_ ?_
 ·refine aD rfl ?_ ?_<;>intro aac h27
  ·refine aK ?_;refine cp aC (aqM _ _ J J hg) ?_;refine b7 ?_;refine cp aC (aqM _ _ J J hg) ?_;refine bK ?_;exact⟨m/gO m n,n/gO m n,_,⟨rfl,rfl⟩,eW⟩
  have nx:gO m n=1:=by rw[ht,decide_eq_false_iff_not]at aac;omega
  refine bc ?_;exact⟨m,n,_,⟨by rw[nx,ahi],by rw[nx,ahi]⟩,eW⟩
 rintro _ ⟨x,y,aG5,⟨hx,hy⟩,rfl⟩;rw[<-hx,<-hy]at hE;have ky:0<y:=by rw[hy];exact ajZ (aeQ jJ (aoI _ _)) hg
 refine bH ?_;refine dU 45 rfl ?_ ?_<;>intro aN6 h45
 ·refine bK ?_;refine aD rfl ?_ ?_<;>intro aGc h50
  ·have qP:y=1:=by have:=(abW (n:=y) J).1;omega
   refine ff ?_;rw[hE,if_pos qP];exact iJ [] rfl rfl rfl rfl rfl cS (.agg (.cons (.pure rfl) (.cons (.pure (mq _)) (.cons (.nil 1) .nil))))
  have qP:y≠1:=by have:=(abW (n:=y) J).1;omega
  refine bG ?_;rw[hE,if_neg qP];exact ahu
 have qP:y≠1:=fun e=>by rw[e,alv]at h45;exact h45 rfl
 refine nn ?_;rw[hE,if_neg qP];exact ahu
open H0 in
theorem amF(n:Int)(h1:-9223372036854775808<=n)(h2:n<=9223372036854775807):an ai 24 [iL n] (.aY [bu n.natAbs,bL (decide (n<0))]):=by
 refine aL Tryz.func24 ?_;refine dj ?_;refine aD rfl ?_ ?_<;>intro h5r h5
 ·refine aK ?_;refine al rfl (.neg rfl) ?_;refine al rfl (.alK (n:=(-(n+1)).toNat) akL ajy (by simp only[e1,p1,p2,bh];rw[aLD h1 h5]) J) ?_;refine al rfl (.bin rfl rfl (awY (show (-(n+1)).toNat+1<18446744073709551616 by omega))) ?_;refine cp cr (ads ((-(n+1)).toNat+1) J) ?_;refine a6 ?_;rw[decide_eq_true h5,show n.natAbs=(-(n+1)).toNat+1 by omega];exact uC rfl (.pure (mq _)) rfl (.pure rfl)
 refine aW ?_;refine al rfl (.alK (n:=n.natAbs) akL ajy (by simp only[e1,p1,p2,bh];rw[show ((n.natAbs:Nat):Int)=n by omega];rfl) J) ?_;refine cp cr (ads n.natAbs J) ?_;refine aW ?_;rw[decide_eq_false h5];exact uC rfl (.pure (mq _)) rfl (.pure rfl)
open H0 in
theorem aKl(n d:Int)(h1:-9223372036854775808<=n)(h2:n<=9223372036854775807)(h3:-9223372036854775808<=d)(h4:d<=9223372036854775807)(hd:d≠0):an ai 61 [iL n,iL d] (.aY [ae ((n:Rat)/(d:Rat)),iL 0]):=by
 refine aL Tryz.func61 ?_;refine dj ?_;refine aD rfl ?_ ?_<;>intro adm z5
 ·exact absurd z5 hd
 refine aW ?_;refine cp cr (amF _ J J) ?_;refine b7 ?_;refine cp cr (amF _ J J) ?_;refine rC (afG (decide (n<0) != decide (d<0)) n.natAbs d.natAbs (aP (abM.2 J) J) (aP (abM.2 J) J) J) ?_;refine aW ?_;rw[<-ahx];exact agO
open H0 in
theorem aey(n d:Int)(h1:-9223372036854775808<=n)(h2:n<=9223372036854775807)(h3:-9223372036854775808<=d)(h4:d<=9223372036854775807)(hd:d≠0):an ai 23 [iL n,iL d] (ae ((n:Rat)/(d:Rat))):=by
 refine aL Tryz.func23 ?_;refine bM ?_;refine cp aC (aKl _ _ J J J J J) ?_;refine iR ?_;exact fO
open H0 in
theorem nZ(n:Int)(h1:-9223372036854775808<=n)(h2:n<=9223372036854775807):an ai 9 [iL n] (ae (n:Rat)):=by
 refine aL Tryz.func9 ?_;refine bH ?_;refine cp cr (amF _ J J) ?_;refine lN ?_;rw[<-agF n];have hz:n.natAbs=0\/0<n.natAbs:=J;rcases hz with hz|hz
 ·obtain rfl:n=0:=J;rw[show qv (decide ((0:Int)<0)) (0:Int).natAbs 1=0 from ail _ _,kZ];exact afB
 rw[agT _ hz J,Nat.gcd_one_right,ahi,if_pos J];exact iJ [] rfl rfl rfl rfl rfl cS (.agg (.cons (.pure rfl) (.cons (.pure (mq _)) (.cons (.pure rfl) .nil))))
open H0 in
theorem aen(a b:Rat)(h:rl a+rl b<=1099511627776):an ai 123 [ae a,ae b] (bL (decide (a=b))):=by
 have a1:=nH a;have a3:=oJ a;have c1:=nH b;have c3:=oJ b;refine aL Tryz.func123 ?_;refine iR ?_;refine dU 10 rfl ?_ ?_<;>intro nj pC
 ·refine aK ?_;refine cp aC (aev _ _ J J) ?_;refine bI ?_;refine dU 18 rfl ?_ ?_<;>intro re pR
  ·refine aK ?_;refine cp aC (aev _ _ J J) ?_;refine a6 ?_;rw[<-aPQ nj re];exact ee
  refine bN ?_;rw[<-aMY re];exact ee
 refine lV ?_;rw[<-aBo nj];exact ee
open H0 in
theorem abw(q:Rat):an ai 97 [ae q] (iL (cq q)):=by
 have hq:=aBY q;refine aL Tryz.func97 ?_;refine iR ?_;refine aD rfl ?_ ?_<;>intro y5 h6
 ·have hz:q.num.natAbs=0:=vh.1 (pQ J);refine bK ?_;rw[hq,if_pos hz];exact ee
 have hz:q.num.natAbs≠0:=fun e=>by rw[e,za]at h6;exact h6 rfl
 refine bM ?_;refine aD rfl ?_ ?_<;>intro nX h8
 ·refine bK ?_;rw[hq,if_neg hz,if_pos h8];exact ee
 refine bH ?_;rw[hq,if_neg hz,if_neg h8];exact ee
open H0 in
theorem agS(q:Rat):an ai 115 [ae q] (ae (-q)):=by
 refine aL Tryz.func115 ?_;refine bG ?_;refine dU 6 rfl ?_ ?_<;>intro y5 h6
 ·refine a6 ?_;refine cj rfl (.alr rfl rfl rfl T4 (by first|exact aj8 y5|exact akZ y5)) ?_;refine bM ?_;exact fO
 refine a6 ?_;refine cj rfl (.alr rfl rfl rfl T4 (by first|exact aj8 y5|exact akZ y5)) ?_;refine bM ?_;exact fO
open H0 in
theorem iY(a b:Rat)(h:rl a+rl b<=34359738368):an ai 52 [ae a,ae b] (ae (a*b)):=by
 have a1:=nH a;have a2:=pL a;have a3:=oJ a;have c1:=nH b;have c2:=pL b;have c3:=oJ b;have a0:=a.den_pos;have c0:=b.den_pos;have m1:=fQ a1 c2;have m2:=fQ c1 a2;have m3:=fQ a2 c2;have m4:=fQ a1 c1;have m5:=fQ a2 c1;have m6:=fQ c2 a2;have np:=oR a0 c0;have hE:=amx (decide (a<0)) (decide (b<0)) a.num.natAbs a.den b.num.natAbs b.den;rw[ou,ou]at hE;refine aL Tryz.func52 ?_;refine uV ?_;refine cp aC (alb _ _ J J) ?_;refine bf (ade _) ?_;refine aeL ?_;refine cp kN (afG _ _ _ J J np) ?_;refine aK ?_;rw[hE];exact fO
open H0 in
theorem aBu(a b:Rat)(h:rl a+rl b<=34359738368):an ai 216 [ae a,ae b] (.aY [ae (a/b),iL (if b=0 then 3 else 0)]):=by
 have a1:=nH a;have a2:=pL a;have a3:=oJ a;have c1:=nH b;have c2:=pL b;have c3:=oJ b;have a0:=a.den_pos;have c0:=b.den_pos;have m1:=fQ a1 c2;have m2:=fQ c1 a2;have m3:=fQ a2 c2;have m4:=fQ a1 c1;have m5:=fQ a2 c1;have m6:=fQ c2 a2;have np:=oR a0 c0;have hE:=ajX (decide (a<0)) (decide (b<0)) a.num.natAbs a.den b.num.natAbs b.den;rw[ou,ou]at hE;refine aL Tryz.func216 ?_;refine nh ?_;refine aD rfl ?_ ?_<;>intro sw h9
 ·have hz:=aba (q:=b) J;refine bM ?_;subst hz;rw[show a/0=0 by rw[gQ];simp,kZ];exact wO [] rfl rfl rfl rfl rfl cS (.pure rfl) rfl (.pure rfl)
 have gh:0<b.num.natAbs:=ap2.1 J;have hz:b≠0:=by rintro rfl;exact absurd gh aj
 refine aeL ?_;refine bf (ade _) ?_;refine bc ?_;refine cp aC (alb _ _ J J) ?_;refine cp kN (afG _ _ _ J J (oR a0 gh)) ?_;refine aW ?_;rw[hE,if_neg hz];exact agO
open H0 in
theorem y7(a b:Rat)(h:rl a+rl b<=34359738368):an ai 114 [ae a,ae b] (ae (a/b)):=by
 refine aL Tryz.func114 ?_;refine bN ?_;refine cp aC (aBu _ _ J) ?_;refine iR ?_;exact fO
namespace awO
theorem aJ{p q:Prop}(k:q)(e:p=q:=by simp only[bD,bo,bp,bh,cL,eSb];exact rfl):p:=e.mpr k
end awO
open awO in
theorem n6(a b:Rat)(h:rl a+rl b<=34359738368):an ai 51 [ae a,ae b] (ae (a+b)):=by
 have a1:=nH a;have a2:=pL a;have a3:=oJ a;have c1:=nH b;have c2:=pL b;have c3:=oJ b;have a0:=a.den_pos;have c0:=b.den_pos;have m1:=fQ a1 c2;have m2:=fQ c1 a2;have m3:=fQ a2 c2;have m4:=fQ a1 c1;have m5:=fQ a2 c1;have m6:=fQ c2 a2;have np:=oR a0 c0;have m7:(ak (a.num.natAbs*b.den+b.num.natAbs*a.den)).length<=rl a+rl b+1:=aq8 m1 J;have ls1:(ak (a.num.natAbs*b.den-b.num.natAbs*a.den)).length<=rl a+rl b:=aP (qH (aiT _ _)) m1;have ls2:(ak (b.num.natAbs*a.den-a.num.natAbs*b.den)).length<=rl b+rl a:=aP (qH (aiT _ _)) m2;refine aL Tryz.func51 ?_;have eSb:True:=trivial;refine lN ?_;refine aD rfl ?_ ?_<;>intro rB n9
 ·have hz:=aba (q:=a) J;refine bH ?_;rw[hz,Rat.zero_add];exact fO
 refine bN ?_;refine aD rfl ?_ ?_<;>intro wk h20
 ·have hz:=aba (q:=b) J;refine bH ?_;rw[hz,Rat.add_zero];exact fO
 refine aeL ?_;refine aeL ?_;refine bf (ade _) ?_;refine aeL ?_;refine dj ?_;refine aD rfl ?_ ?_<;>intro aeb h41
 ·refine a6 ?_;refine cp aC (aF2 _ _ J J) ?_;refine bn ?_;refine cp kN (afG _ _ _ J J np) ?_;refine aW ?_;have E:=add_same (k:=1) (x:=a.num.natAbs*b.den) (y:=b.num.natAbs*a.den) (d:=a.den*b.den) J (lJ _) (lJ _) (lJ _) (eq_of_beq aeb);rw[alm,<-eq_of_beq aeb]at E;rw[E];exact fO
 refine bK ?_;refine cp aC (aev _ _ J J) ?_;refine bI ?_;refine aD rfl ?_ ?_<;>intro aJG h52
 ·have bV:a.num.natAbs*b.den<b.num.natAbs*a.den:=by unfold l8 at h52;split at h52;assumption;split at h52<;>omega
  have eSb:=aiS (ym bV);refine aK ?_;refine cp aC (auJ _ _ J J) ?_;refine dj ?_;refine cp kN (afG _ _ _ J J np) ?_;refine aW ?_;have E:=aoW (k:=1) (x:=a.num.natAbs*b.den) (y:=b.num.natAbs*a.den) (d:=a.den*b.den) J (lJ _) (lJ _) (lJ _) (ae5 aeb) (ym bV);rw[alm]at E;rw[E];exact fO
 have hle:b.num.natAbs*a.den<=a.num.natAbs*b.den:=by
  rcases g7 (a.num.natAbs*b.den) (b.num.natAbs*a.den)with h|h
  ·rw[tk h]at h52;omega
  exact h
 have eSb:=aiS hle;refine a6 ?_;refine cp aC (auJ _ _ J J) ?_;refine dj ?_;refine cp kN (afG _ _ _ J J np) ?_;refine aK ?_;have E:=aoX (k:=1) (x:=a.num.natAbs*b.den) (y:=b.num.natAbs*a.den) (d:=a.den*b.den) J (lJ _) (lJ _) (lJ _) (ae5 aeb) hle;rw[alm]at E;rw[E];exact fO
open H0 in
theorem og(a b:Rat)(h:rl a+rl b<=34359738368):an ai 54 [ae a,ae b] (ae (a-b)):=by
 refine aL Tryz.func54 ?_;refine bf (agS _) ?_;refine cp aC (n6 _ _ (by rw[aaO];omega)) ?_;refine aK ?_;rw[aid];exact fO
open H0 in
theorem uf(a b:Rat)(h:rl a+rl b<=34359738368):an ai 100 [ae a,ae b] (iL (fY a b)):=by
 have a1:=nH a;have a2:=pL a;have a3:=oJ a;have c1:=nH b;have c2:=pL b;have c3:=oJ b;have a0:=a.den_pos;have c0:=b.den_pos;have m1:=fQ a1 c2;have m2:=fQ c1 a2;have m3:=fQ a2 c2;have m4:=fQ a1 c1;have m5:=fQ a2 c1;have m6:=fQ c2 a2;have np:=oR a0 c0;refine aL Tryz.func100 ?_;refine bf (abw _) ?_;refine bf (abw _) ?_;refine bN ?_;refine aD rfl ?_ ?_<;>intro pU jI
 ·refine bH ?_;refine aD rfl ?_ ?_<;>intro adz zR
  ·refine bH ?_;rw[asT zR];exact ee
  refine bM ?_;rw[az3 J];exact ee
 have qz:cq a=cq b:=J;obtain⟨c,hc⟩:∃c,c=l8 (a.num.natAbs*b.den) (b.num.natAbs*a.den):=⟨_,rfl⟩;refine aeL ?_;refine aeL ?_;refine cp aC (aev _ _ J J) ?_;refine b7 ?_;refine aD rfl ?_ ?_<;>intro abK yq
 ·refine bM ?_;rw[alh qz,if_pos yq,<-aCx rfl];exact ee
 refine bM ?_;rw[alh qz,if_neg yq];exact ee
end Go.Proofs.YtbkmfcmgilhaaaaGreat
namespace Go.Lg
open Go.Proofs.YtbkmfcmgilhaaaaGreat in
theorem aM.aNb{P:Program}{H:cd}{ρ:Operand->LV}{T:TypeId}(hT:mP P T [(1,false),(1,false),(1,false)])(hz:dM P T (.agg [.v (.bool false),.list 1 [],.list 1 []])):aM P H ρ (.build T #[]) (ae 0):=by
 rw[kZ];exact aM.build (zs:=[.v (.bool false),.list 1 [],.list 1 []]) (ps:=#[]) hT hz (by intro p hp;cases hp)
end Go.Lg
namespace Go.Proofs.YtbkmfcmgilhaaaaGreat
open Go.Lg
theorem cg:(default:Rat)=0:=rfl
def lC(t:Rat):List Rat->List Rat
 |x::y::r=>((1-t)*x+t*y)::lC t (y::r)
 |_=>[]
theorem qq(t:Rat):∀p:List Rat,(lC t p).length=p.length-1
 | []=>rfl
 | [_]=>rfl
 |x::y::r=>by simp[lC,qq t (y::r)]
theorem agU(t:Rat):∀(p:List Rat) (i:Nat),i+1<p.length->(lC t p).getD i 0=(1-t)*p.getD i 0+t*p.getD (i+1) 0
 | [],i,h=>by simp at h
 | [_],i,h=>by simp at h
 |x::y::r,0,_=>by simp[lC]
 |x::y::r,i+1,h=>by
   have:=agU t (y::r) i mA;simpa[lC]using this
theorem dJ{p:List Rat}{i:Nat}(h:i<p.length):p.getD i 0∈p:=by
 rw[bq,ck h];exact List.getElem_mem h
theorem ah6{p:List Rat}{x:Rat}(h:x∈p):∃i,i<p.length/\p.getD i 0=x:=by
 obtain⟨i,hi,rfl⟩:=List.getElem_of_mem h;exact⟨i,hi,by rw[bq,ck hi];rfl⟩
theorem aHb{p q:List Rat}(hl:p.length=q.length)(h:∀i,i<p.length->p.getD i 0=q.getD i 0):p=q:=by
 apply List.ext_getElem hl;intro i h1 h2;have:=h i h1;rw[bq,bq,ck h1,ck h2]at this;exact this
def yy(t:Rat):Nat->List Rat->List Rat
 |0,_=>[]
 |k+1,p=>p.getD 0 0::yy t k (lC t p)
def wb(t:Rat):Nat->List Rat->List Rat->List Rat
 |0,q,tl=>q++tl
 |k+1,q,tl=>wb t k (lC t q) (q.getD k 0::tl)
def oI(p:List Rat)(t:Rat):List Rat:=yy t p.length p
def lE(p:List Rat)(t:Rat):List Rat:=wb t p.length p []
theorem axe(t:Rat):∀(k:Nat) (p:List Rat),(yy t k p).length=k
 |0,_=>rfl
 |k+1,p=>by simp[yy,axe t k]
theorem ayO(t:Rat):∀(k:Nat) (q tl:List Rat),q.length=k->(wb t k q tl).length=k+tl.length
 |0,q,tl,h=>by simp[wb,h]
 |k+1,q,tl,h=>by rw[wb,ayO t k _ _ (by rw[qq];omega)];simp;omega
theorem aaB(p:List Rat)(t:Rat):(oI p t).length=p.length:=axe t _ _
theorem aa4(p:List Rat)(t:Rat):(lE p t).length=p.length:=by rw[lE,ayO t _ _ _ rfl];simp
theorem anL{α:Type}(A B:List α)(x v:α){n:Nat}(h:n=A.length):(A++x::B).set n v=A++v::B:=by subst h;simp
theorem afK{α:Type}(A B:List α)(d:α){i:Nat}(h:i<A.length):(A++B).getD i d=A.getD i d:=by simp[bq,List.getElem?_append_left h]
theorem aok{α:Type}(A B:List α)(d:α){i:Nat}(h:A.length<=i):(A++B).getD i d=B.getD (i-A.length) d:=by simp[bq,List.getElem?_append_right h]
theorem axC(l:List Rat)(k p:Nat):(l.drop k).getD p 0=l.getD (k+p) 0:=by
 rw[bq,bq,List.getElem?_drop]
theorem aw7{t:Rat}{q tl:List Rat}{i:Nat}(h:i+1<q.length):
  ((lC t q).take i++(q.drop i++tl)).getD i 0=q.getD i 0/\((lC t q).take i++(q.drop i++tl)).getD (i+1) 0=q.getD (i+1) 0:=by
 have hl:((lC t q).take i).length=i:=by rw[fH,qq];omega
 constructor
 ·rw[aok _ _ _ J,hl,Nat.sub_self,afK _ _ _ aQ,axC,nW]
 rw[aok _ _ _ J,hl,afK _ _ _ aQ,axC];congr 1;omega
theorem aw8{t:Rat}{q tl:List Rat}{i:Nat}(h:i+1<q.length):
  ((lC t q).take i++(q.drop i++tl)).set i ((1-t)*q.getD i 0+t*q.getD (i+1) 0)=(lC t q).take (i+1)++(q.drop (i+1)++tl):=by
 have hl:((lC t q).take i).length=i:=by rw[fH,qq];omega
 rw[xR J,List.cons_append,anL _ _ _ _ hl.symm,<-agU t q i h];have hs:i<(lC t q).length:=by rw[qq];omega
 rw[adQ hs,pn];congr 1;rw[bq,ck hs];simp
theorem ax0{t:Rat}{q tl:List Rat}{k:Nat}(h:q.length=k+1):(lC t q).take k++(q.drop k++tl)=lC t q++(q.getD k 0::tl):=by
 rw[cy (by rw[qq];omega),xR J,mE J,bq,ck J];simp
theorem ajo{t:Rat}{q:List Rat}{C M k:Nat}(hC:rl (1-t)+rl t+1<=C)(h:∀x∈q,(rl x+C)*2^(k+1)<=M):∀x∈lC t q,(rl x+C)*2^k<=M:=by
 intro x hx;obtain⟨i,hi,rfl⟩:=ah6 hx;rw[qq]at hi;rw[agU t q i J];have h1:=h _ (dJ (p:=q) (i:=i) J);have h2:=h _ (dJ (p:=q) (i:=i+1) J);have e1:=kO ((1-t)*q.getD i 0) (t*q.getD (i+1) 0);have e2:=cF (1-t) (q.getD i 0);have e3:=cF t (q.getD (i+1) 0);rw[kC]at h1 h2;have hle:rl ((1-t)*q.getD i 0+t*q.getD (i+1) 0)+C<=(rl (q.getD i 0)+C)+(rl (q.getD (i+1) 0)+C):=J;have:=jd (2^k) hle;have e6:=iV (rl (q.getD i 0)+C) (rl (q.getD (i+1) 0)+C) (2^k);have e4:(rl (q.getD i 0)+C)*(2^k*2)=(rl (q.getD i 0)+C)*2^k*2:=by rw[iD]
 have e5:(rl (q.getD (i+1) 0)+C)*(2^k*2)=(rl (q.getD (i+1) 0)+C)*2^k*2:=by rw[iD]
 omega
theorem awo{o p:List Rat}{k:Nat}(hk:k<p.length)(dK:o.length=p.length)(ht:o.take k=p.take k):(o.set k (p.getD k 0)).take (k+1)=p.take (k+1):=by
 rw[adQ (by simpa[dK]using hk),adQ hk,List.take_set_of_le (bF _),ht];congr 1;simp[bq,ck hk]
theorem r1r:((1:Int):Rat)=1:=rfl
theorem aa7{x:Rat}{C M k:Nat}(h:(rl x+C)*2^k<=M):rl x+C<=M:=by
 have:1<=2^k:=ov J;exact aP (awi _ this) h
theorem asz{p:List Rat}{C:Nat}(hC:1<=C)(h:∀x∈p,(rl x+C)*2^p.length<=1073741824):p.length<=30:=by
 cases p with
 |nil=>simp
 |cons x r =>
  have h1:=h x aE;have h2:1*2^(x::r).length<=(rl x+C)*2^(x::r).length:=jd _ J;rcases g7 30 (x::r).length with h3|h3
  ·have h4:2^31<=2^(x::r).length:=mN J h3;omega
  exact h3
theorem atd{t:Rat}{q tl:List Rat}{i:Nat}(h:i<q.length):((lC t q).take i++(q.drop i++tl)).length=q.length+tl.length:=by
 simp[qq];omega
namespace avc
theorem aJ{p q:Prop}(k:q)(e:p=q:=by simp only[bD,bo,bp,bh,cg,Rat.add_zero,dO ao,kT,LV.kill,bC];exact rfl):p:=e.mpr k
end avc
open avc in
theorem arL(p:List Rat)(hl:p.length<=1048576)(kI:∀x∈p,rl x<=274877906944):mW ai 168 [.list 3 (p.map ae)] (.ref 1 3 0 p.length) [⟨3,p.map ae,true⟩]:=by
 refine zi Tryz.func168 ?_;refine bM ?_;refine ahZ ?_;refine bG ?_;refine kR (fun(k:Nat) (o:List Rat) L=>(mS L [(8,⟨3,o.map ae,true⟩)] [(11,ah k),(10,ah p.length),(9,.list 3 (p.map ae)),(3,.ref 8 3 0 p.length)])) (fun k o=>k<=p.length/\o.length=p.length/\o.take k=p.take k) (fun k o=>p.length-k) 0 (av p.length 0) ⟨bW _,by simp,rfl⟩ ?_;rintro k o L1 ⟨hk,dK,ht⟩;refine a6 ?_;refine aD rfl ?_ ?_<;>intro acI h12
 ·have kK:k<p.length:=J;have hrk:=kI _ (dJ kK);refine uV ?_;refine pg ?_;refine cp aC (lf (p.getD k 0) 0 (by rw[show rl 0=1 from rfl];omega)) ?_;refine aW ?_;refine cO (au.kill _ 5) ?_;refine aK ?_;exact ja (k+1) (o.set k (p.getD k 0)) ⟨J,by simp[dK],awo kK dK ht⟩
 obtain rfl:k=p.length:=J;rw[py,<-dK,py]at ht;refine bG ?_;subst ht;exact age rfl rfl (bm ao _)
namespace azH
theorem aJ{p q:Prop}(k:q)(e:p=q:=by simp only[bD,bo,bp,bh,acu,cg,Rat.add_zero,ey,List.length_append,r1r,ek,eq0,adT,adD,yB,eme,mT,jt,dR,fX,dO ao,kT,LV.kill,bC];exact rfl):p:=e.mpr k
end azH
open azH in
theorem aNH(p:List Rat)(t:Rat)(cc:Nat)(hC:rl (1-t)+rl t+1<=cc)(wx:cc<=1073741824)(hs:∀x∈p,(rl x+cc)*2^p.length<=1073741824):an ai 166 [.list 3 (p.map ae),ae t] (.aY [.list 3 ((oI p t).map ae),.list 3 ((lE p t).map ae)]):=by
 have hlen:=asz (aP (azN 1 _) hC) hs;have kI:∀x∈p,rl x<=274877906944:=fun x hx=>by have:=aa7 (hs x hx);omega
 refine aL Tryz.func166 ?_;have ek:True:=trivial;have eq0:True:=trivial;have adT:True:=trivial;have adD:True:=trivial;have yB:True:=trivial;have eme:True:=trivial;have mT:True:=trivial;refine bf (zV 1 aj aj) ?_;refine bn ?_;refine cp aC (ue _ _ (by rw[show rl ((1:Int):Rat)=1 from rfl];omega)) ?_;refine bK ?_;refine wU [] rfl rfl (.cons (.pure (eY ao _ _)) .nil) (arL p J kI) (bm ao _) rfl ?_;refine bK ?_;refine gv rfl rfl (.arE (n:=0) (m:=p.length) ao pF Z31 cS jq rfl rfl J J J) ?_;refine dj ?_;refine iS (au.mv (t:=8) (b:=18) 33 aj aj aj rfl rfl rfl) ?_;refine lp4 (fun(k:Nat) (q tl lo:List Rat) L=>(mS L [(3,⟨3,[ae t],true⟩),(6,⟨3,[ae (1-t)],true⟩),(1000241,⟨3,(q++tl).map ae,true⟩),(33,⟨3,lo.map ae,true⟩)] [(9,iL ((k:Int)-1)),(8,.ref 33 3 0 lo.length),(7,.ref 1000241 3 0 p.length),(6,.aB 6 3 0 0),(3,.aB 3 3 0 0)])) (fun k q tl lo=>q.length=k/\k+tl.length=p.length/\lo.length+k=p.length/\lo++yy t k q=oI p t/\wb t k q tl=lE p t/\∀x∈q,(rl x+cc)*2^k<=1073741824) (fun k q tl lo=>k) p.length p ([]) ([]) ⟨rfl,by simp,by simp,by simp[oI],rfl,hs⟩ ?_;rintro k q tl lo L1 ⟨hq,zh,cI,hL,hH,bU⟩;refine bK ?_;refine aD rfl ?_ ?_<;>intro qZ sb
 ·obtain⟨j,rfl⟩:∃j,k=j+1:=⟨k-1,J⟩;have ek:(((j+1:Nat):Int)-1)=(j:Int):=J;have eq0:(q++tl).getD 0 0=q.getD 0 0:=afK _ _ _ J;have mK:=aa7 (bU _ (dJ (i:=0) J));refine b7 ?_;refine pg ?_;simp only[wP,cg,fZ,eq0];refine cp aC (lf _ 0 (by rw[show rl 0=1 from rfl];omega)) ?_;refine bn ?_;refine cj rfl (.app (news:=[ae (q.getD 0 0+0)]) rfl rfl rfl rfl rfl aE (.inl rfl) aj pF pF jg cS rfl jq (.inl ⟨32,0,_,rfl,by decide,rfl,rfl,by simp,rfl,by simp[aO,ao.pure]⟩) aQ aQ aj) ?_;refine aK ?_;refine cO (au.kill _ 32) ?_;refine aW ?_;refine dy (fun(i:Nat) L=>(mS L [(3,⟨3,[ae t],true⟩),(6,⟨3,[ae (1-t)],true⟩),(1000241,⟨3,((lC t q).take i++(q.drop i++tl)).map ae,true⟩),(33,⟨3,(lo++[q.getD 0 0]).map ae,true⟩)] [(35,ah i),(34,ah j),(9,ah j),(8,.ref 33 3 0 (lo.length+1)),(7,.ref 1000241 3 0 p.length),(6,.aB 6 3 0 0),(3,.aB 3 3 0 0)])) (fun i=>i<=j) (fun i=>j-i) 0 (bW _) ?_;rintro i L2 hi;refine a6 ?_;refine aD rfl ?_ ?_<;>intro aqm h36
  ·have ud:i<j:=J;have mT:((i:Int)+1).toNat=i+1:=J;obtain⟨adT,adD⟩:=aw7 (t:=t) (q:=q) (tl:=tl) (i:=i) J;have yB:=aw8 (t:=t) (q:=q) (tl:=tl) (i:=i) J;have fR:=aa7 (bU _ (dJ (i:=i) J));have mw:=aa7 (bU _ (dJ (i:=i+1) J));have iX:=cF (1-t) (q.getD i 0);have fC:=cF t (q.getD (i+1) 0);have vR:=atd (t:=t) (q:=q) (tl:=tl) (i:=i) J;refine uV ?_;simp only[t1,cg,fZ,adT];refine cp aC (jE _ _ J) ?_;refine a6 ?_;simp only[mT,cg,fZ,adD];refine cp aC (jE _ _ J) ?_;refine cp aC (lf _ _ J) ?_;refine b7 ?_;exact gM
  obtain rfl:j=i:=J;have eme:=ax0 (t:=t) (tl:=tl) hq;refine bG ?_;exact uv j (lC t q) (q.getD j 0::tl) (lo++[q.getD 0 0]) ⟨by rw[qq];omega,by simp;omega,by simp;omega,by rw[pn];exact hL,hH,ajo hC bU⟩
 obtain rfl:k=0:=J;obtain rfl:q=[]:=pQ hq;rw[yy,ey]at hL;rw[wb]at hH;refine ff ?_;rw[<-hL,<-hH];exact adC [33,1000241] rfl rfl (da ao rfl rfl rfl) rfl (da ao rfl rfl (by simpa using zh.symm))
def jL(l:List Int)(k:Nat):LV:=.agg [.list 1 (l.map eE),.v (.int .i64 (k:Nat))]
theorem gC(l:List Int)(k:Nat):aO [jL l k]=true:=by simp[aO,jL,LV.pure,bm jH]
theorem aC5{a b:Int}(h:b≠0):eO .rem .i64 a b=some (.int .i64 (a.tmod b)):=by simp[eO,h]
theorem dfi:(default:Int)=0:=rfl
def gZ(l:List Int)(k:Nat)(n:Int):Int:=if k<l.length then l.getD k 0%n else 0
def cf(l:List Int)(k:Nat):Nat:=if k<l.length then k+1 else k
theorem rv{l:List Int}{k:Nat}{n:Int}(h:0<n):0<=gZ l k n/\gZ l k n<n:=by
 unfold gZ;split
 ·exact⟨aaQ _ J,aaE _ h⟩
 omega
theorem aDT{a m:Int}(hm:0<m):a%m=if a.tmod m<0 then a.tmod m+m else a.tmod m:=by
 have h1:=aaQ a (show m≠0 by omega);have h2:=aaE a hm;rw[Int.tmod_eq_emod];split<;>split<;>omega
theorem ajr{P:Program}{L:St}{a:Nat}{T:TypeId}{b sz:Nat}{x y:LV}{m:Bool}{n:Nat}{ag:Bool}{blk:aV}(h:L.slot a=.aB b sz 0 0)(hb:L.heap b=some ⟨sz,[x],m⟩)
  (hx:x.aq=sz) (cJ:x.at 0 n ag=some x) (hT:bS P T n ag) (hi:dt L.heap x y) (h0:L.heap 0=some blk) (hm:blk.mt=true) (hp:aO blk.vals=true):abL P [.cell a T] L y blk :=
 ⟨[x],[y],L.heap,.cons ⟨b,sz,0,0,_,x,n,ag,h,hb,rfl,rfl,hx,cJ,hT⟩ .nil,cd.le_refl _,.cons (.dH hi) .nil,h0,hm,hp,rfl⟩
theorem aD1{P:Program}{L:St}{t:Nat}{x y:LV}{blk:aV}(bs:List Nat)(h0:bs.contains 0=false)(h:L.slot t=x)(hi:dt (L.b9 bs).heap x y)(hb:(L.b9 bs).heap 0=some blk)(hm:blk.mt=true)(hp:aO blk.vals=true):abL P [.tmp t] L y blk :=
 ⟨[x],[y],(L.b9 bs).heap,.cons h .nil,vW bs h0,.cons (.dH hi) .nil,hb,hm,hp,rfl⟩
def qg(l:List Int)(k:Nat):Rat×Nat :=
 if gZ l (cf l k) 4=3 then(((gZ l k 13-6:Int):Rat)/((1+gZ l (cf l (cf l k)) 4:Int):Rat),cf l (cf l (cf l k)))else(((gZ l k 13-6:Int):Rat),cf l (cf l k))
theorem acO{n d:Int}(h1:n.natAbs<4294967296)(h2:d.natAbs<4294967296):rl ((n:Rat)/(d:Rat))<=1:=by
 rw[<-ahx];have:=ad8 (k:=1) (decide (n<0) != decide (d<0)) (by simpa using h1) (by simpa using h2);omega
theorem aeu{n:Int}(h1:n.natAbs<4294967296):rl (n:Rat)<=1:=by
 have:=acO (n:=n) (d:=1) h1 aj;rwa[show ((1:Int):Rat)=1 from rfl,gQ,show (1:Rat)⁻¹=1 by grind,Rat.mul_one]at this
theorem aGQ{P:Program}{L:St}{t b sz:Nat}{blk:aV}(h:L.slot t=.aB b sz 0 0)(hb:L.heap b=some blk)(hp:aO blk.vals=true):pB P [.tmp t] L (.aB 1 sz 0 0) [blk] :=
 ⟨[.aB b sz 0 0],[.aB 1 sz 0 0],L.heap,[b],.cons h .nil,cd.le_refl _,.cons (.ptr (k:=0) rfl) .nil,by simp,rfl,fun k c hk=>by
  cases k with
  |zero=>simp at hk;subst hk;exact⟨blk,hb,rfl,hp⟩
  |succ k=>simp at hk,rfl⟩
theorem pE{l:List Int}{k:Nat}(hl:l.length<=500)(hk:k<=500):cf l k<=500:=by unfold cf;split<;>omega
theorem agv{l:List Int}{k:Nat}(hl:l.length<=500)(hk:k<=500):(qg l k).2<=500:=by
 have h1:=pE (l:=l) hl hk;have h2:=pE (l:=l) hl h1;unfold qg;split
 ·exact pE hl h2
 exact h2
theorem aiD(l:List Int)(k b:Nat):(jL l k).kill b=jL l k:=LV.oH b _ (by simp[jL,LV.pure,aO,bm jH])
open H0 in
theorem acg(n m:Int)(hm:0<m)(fC:m<=4611686018427387904):an ai 8 [iL n,iL m] (iL (n%m)):=by
 have hE:=aDT (a:=n) hm;have hb:=Int.tmod_lt_of_pos n hm;have hb2:=Int.lt_tmod_of_pos n hm;refine aL Tryz.func8 ?_;refine bM ?_;refine al rfl (.bin rfl rfl (aC5 J)) ?_;refine b7 ?_;refine iZ (fun L=>∃(r:Int) (L1:St),(r=n%m)/\L=(mS L1 [] [(0,iL r)])) ?_ ?_
 ·refine aD rfl ?_ ?_<;>intro sw h9
  ·refine bI ?_;refine al rfl acz ?_;refine bI ?_;exact⟨n.tmod m+m,_,by rw[hE,if_pos h9],eW⟩
  refine bc ?_;exact⟨n.tmod m,_,by rw[hE,if_neg h9],eW⟩
 rintro _ ⟨r,LC9,hr,rfl⟩;refine bH ?_;rw[<-hr];exact ee
open H0 in
theorem aON(l:List Int)(h:l.length<=9223372036854775807):an ai 4 [.list 1 (l.map eE)] (bL (decide (l.length<=500))):=by
 refine aL Tryz.func4 ?_;refine ff ?_;refine eG (x:=.v (.bool (decide (((l.length:Nat):Int)<=500)))) rfl ?_;rw[show decide (((l.length:Nat):Int)<=500)=decide (l.length<=500) by rw[decide_eq_decide];omega];exact .pure rfl
open H0 in
theorem aGh(l:List Int):mW ai 15 [.list 1 (l.map eE)] (.aB 1 2 0 0) [⟨2,[jL l 0],true⟩]:=by
 refine zi Tryz.func15 ?_;refine bH ?_;refine al rfl (.build (zs:=[.v (.slice none 0 0),.v (.int .i64 0)]) at0 aOm (by simp only[List.forall_mem_cons];exact⟨⟨_,rfl,rfl,ni⟩,fun _ h=>by cases h⟩)) ?_;refine gv rfl rfl (.box ni) ?_;refine aK ?_;exact aGQ rfl rfl (gC l 0)
namespace azj
theorem aJ{p q:Prop}(k:q)(e:p=q:=by simp only[bD,bo,bp,bh,l1,ek1,dfi];exact rfl):p:=e.mpr k
end azj
open azj in
theorem zI(l:List Int)(k:Nat)(n:Int)(hl:l.length<=500)(hk:k<=500)(hn:0<n)(ma:n<=1000):pe ai 16 ⟨2,[jL l k],true⟩ [.aB 0 2 0 0,iL n] (iL (gZ l k n)) ⟨2,[jL l (cf l k)],true⟩:=by
 refine fnM Tryz.func16 ?_;have ek1:True:=trivial;refine nn ?_;refine aD rfl ?_ ?_<;>intro pU jI
 ·have ph:¬k<l.length:=J;refine bK ?_;rw[gZ,if_neg ph,cf,if_neg ph];exact yD rfl (.dH (.pure rfl)) rfl rfl (gC l _)
 have ph:k<l.length:=J;have ek1:(((k+1:Nat):Int)-1).toNat=k:=J;refine bN ?_;refine cj rfl (.store (y:=jL l k) (y':=jL l (k+1)) rfl rfl rfl rfl rfl rfl rfl T3 ni) ?_;refine bG ?_;refine al rfl (.bin rfl rfl (ab1 (by first|omega|(simp;omega)) (by first|omega|(simp;omega)))) ?_;refine bI ?_;refine cp aC (acg _ _ J J) ?_;refine aK ?_;rw[gZ,if_pos ph,cf,if_pos ph];exact yD rfl (.dH (.pure rfl)) rfl rfl (gC l _)
namespace aAf
theorem aJ{p q:Prop}(k:q)(e:p=q:=by simp only[bD,bo,bp,bh,l1];exact rfl):p:=e.mpr k
end aAf
open aAf in
theorem anI(l:List Int)(k:Nat)(hl:l.length<=500)(hk:k<=500):pe ai 220 ⟨2,[jL l k],true⟩ [.aB 0 2 0 0] (ae (qg l k).1) ⟨2,[jL l (qg l k).2],true⟩:=by
 have k1:=pE (l:=l) hl hk;have k2:=pE (l:=l) hl k1;have xH:=rv (l:=l) (k:=k) (n:=13) aj;have hb2:=rv (l:=l) (k:=cf l (cf l k)) (n:=4) aj;refine fnM Tryz.func220 ?_;refine bH ?_;refine aaj 0 rfl rfl rfl (gC l _) (.cons .ptr (.cons (.dH (.pure rfl)) .nil)) .ptr (zI l k 13 J J aj aj) rfl (gC l _) ?_;refine bK ?_;refine aaj 0 rfl rfl rfl (gC l _) (.cons .ptr (.cons (.dH (.pure rfl)) .nil)) .ptr (zI l (cf l k) 4 J J aj aj) rfl (gC l _) ?_;refine bI ?_;refine aD rfl ?_ ?_<;>intro nX h8
 ·refine bI ?_;refine al rfl vX ?_;refine bn ?_;refine aaj 0 rfl rfl rfl (gC l _) (.cons .ptr (.cons (.dH (.pure rfl)) .nil)) .ptr (zI l (cf l (cf l k)) 4 J J aj aj) rfl (gC l _) ?_;refine al rfl acz ?_;refine cp aC (aey (gZ l k 13-6) (1+gZ l (cf l (cf l k)) 4) J J J J J) ?_;refine aW ?_;rw[qg,if_pos h8];exact ajr rfl rfl (ao.aq _) (rn _) cS (.pure (ao.pure _)) rfl rfl (gC l _)
 refine aW ?_;refine al rfl vX ?_;refine cp cr (nZ (gZ l k 13-6) J J) ?_;refine aK ?_;rw[qg,if_neg h8];exact ajr rfl rfl (ao.aq _) (rn _) cS (.pure (ao.pure _)) rfl rfl (gC l _)
theorem azR(q:Rat):jX q≠1:=by rw[zS];split<;>omega
theorem awv(n:Nat)(h:(ak n).length<=4611686018427387904):an ai 137 [bu n] (bL true):=by
 have:=aDt (ak n) h;rwa[decide_eq_true]at this;by_cases h0:(ak n).length=0
 ·exact .inl h0
 exact .inr (afI (afz n) J)
theorem azW(n:Nat)(h:(ak n).length<=4611686018427387904):an ai 193 [bu n] (bL true):=by
 have:=aIT (ak n) h;rwa[decide_eq_true]at this;by_cases h0:(ak n).length=0
 ·exact .inl h0
 exact .inr (afI (afz n) J)
theorem axo{q:Rat}(h:0<(ak (jX q)).length):gO q.num.natAbs (jX q)=1:=by
 rw[amv h];exact q.reduced
theorem aDl(q:Rat):gO q.num.natAbs q.den=1:=q.reduced
end Go.Proofs.YtbkmfcmgilhaaaaGreat
namespace Go.Lg
end Go.Lg
namespace Go.Proofs.YtbkmfcmgilhaaaaGreat
open Go.Lg
theorem m10{m:Nat}(h:m<10):(48+m%10)%4294967296=48+m:=by
 rw[jU h,jU (zT (Nat.add_lt_add_left h 48) aj)]
namespace asU
theorem aJ{p q:Prop}(k:q)(e:p=q:=by simp only[bD,bo,bp,bh,cL,ik,wP];exact rfl):p:=e.mpr k
end asU
open asU in
theorem au2(q:Rat)(h:rl q<=1099511627776):an ai 63 [ae q] (bL true):=by
 have a1:=nH q;have a2:=pL q;have a3:=oJ q;have aZ:=azR q;refine aL Tryz.func63 ?_;refine bN ?_;refine cp cr (awv _ J) ?_;refine aK ?_;refine cp cr (awv _ J) ?_;refine bH ?_;refine dU 18 rfl ?_ ?_<;>intro re pR
 ·refine bM ?_;refine aD rfl ?_ ?_<;>intro acR qT
  ·exfalso;have:=(abW (n:=jX q) J).1;omega
  refine bN ?_;refine aD rfl ?_ ?_<;>intro adu h29
  ·refine a6 ?_;refine dU 33 rfl ?_ ?_<;>intro agp h33
   ·have hz:=aba (q:=q) J;subst hz;refine b7 ?_;exact ee
   exfalso;have hz:=aba (q:=q) J;subst hz;revert agp;decide
  refine bM ?_;refine dU 43 rfl ?_ ?_<;>intro akt h43
  ·refine aW ?_
   first|simp only[cL,nx]|skip
   refine bK ?_;exact ee
  have nx:=axo (q:=q) J;refine aK ?_;refine cp aC (apX _ _ (dX _) (dX _) J J) ?_
  first|simp only[cL,nx]|skip
  refine cp cr (agh (ak 1) (dX _) aj) ?_;refine a6 ?_;exact ee
 refine ab7 ?_;refine aD rfl ?_ ?_<;>intro adu h29
 ·refine a6 ?_;refine dU 33 rfl ?_ ?_<;>intro agp h33
  ·have hz:=aba (q:=q) J;subst hz;refine b7 ?_;exact ee
  exfalso;have hz:=aba (q:=q) J;subst hz;revert agp;decide
 refine bM ?_;refine dU 43 rfl ?_ ?_<;>intro akt h43
 ·refine aW ?_
  first|simp only[cL,nx]|skip
  refine bK ?_;exact ee
 have nx:=axo (q:=q) J;refine aK ?_;refine cp aC (apX _ _ (dX _) (dX _) J J) ?_
 first|simp only[cL,nx]|skip
 refine cp cr (agh (ak 1) (dX _) aj) ?_;refine a6 ?_;exact ee
def HS(p:List Rat)(t:Rat):Prop:=∃cc,rl (1-t)+rl t+1<=cc/\cc<=1073741824/\∀x∈p,(rl x+cc)*2^p.length<=1073741824
theorem ahH(p:List Rat)(t:Rat)(h:HS p t):an ai 166 [.list 3 (p.map ae),ae t] (.aY [.list 3 ((oI p t).map ae),.list 3 ((lE p t).map ae)]):=by
 obtain⟨cc,h1,h2,h3⟩:=h;exact aNH p t cc h1 h2 h3
theorem HS.len{p:List Rat}{t:Rat}(h:HS p t):p.length<=30:=by
 obtain⟨cc,h1,h2,h3⟩:=h;exact asz (aP (azN 1 _) h1) h3
theorem HS.rl{p:List Rat}{t:Rat}(h:HS p t):rl t<=1073741824/\∀x∈p,Go.Lg.rl x<=1073741824:=by
 obtain⟨cc,h1,h2,h3⟩:=h;exact⟨J,fun x hx=>by have:=aa7 (h3 x hx);omega⟩
def dq(p:List Rat)(t:Rat):Rat:=(oI p t).getD (p.length-1) 0
def z6(p:List Rat)(a b:Rat):List Rat:=if 1-a≠0 then oI (lE p a) ((b-a)/(1-a))else if b≠0 then lE (oI p b) (1/b)else p.reverse
theorem ar6(p:List Rat){x:Nat}(h:x<p.length):p.reverse.getD x 0=p.getD (p.length-1-x) 0:=by
 rw[bq,bq,List.getElem?_reverse h]
theorem vz(o:List Rat)(i x:Nat)(v:Rat)(hi:i<o.length):(o.set i v).getD x 0=if x=i then v else o.getD x 0:=by
 rw[bq,bq,List.getElem?_set];by_cases h:i=x
 ·subst h;simp[hi]
 rw[if_neg h,if_neg (fun e=>h e.symm)]
theorem aLo{p o:List Rat}{i j n:Nat}(hp:p.length=n)(ho:o.length=n)(ud:i<j)(hj:j+i+1=n)
  (h:∀x,x<n->o.getD x 0=if x<i\/n<=x+i then p.getD (n-1-x) 0 else p.getD x 0) :
  ∀x,x<n->((o.set i (o.getD j 0)).set j (o.getD i 0)).getD x 0=if x<i+1\/n<=x+(i+1)then p.getD (n-1-x) 0 else p.getD x 0:=by
 intro x hx;rw[vz _ _ _ _ aQ,vz _ _ _ _ J,h j J,h i J,h x hx];by_cases h1:x=j
 ·subst h1;rw[if_pos rfl,if_neg J,if_pos J,show n-1-x=i by omega]
 rw[if_neg h1];by_cases h2:x=i
 ·subst h2;rw[if_pos rfl,if_neg J,if_pos J,show n-1-x=j by omega]
 rw[if_neg h2];by_cases h3:x<i\/n<=x+i
 ·rw[if_pos h3,if_pos J]
 rw[if_neg h3,if_neg J]
theorem aJH{p o:List Rat}{i n:Nat}(hp:p.length=n)(ho:o.length=n)(hi:n<=2*i+1)(h:∀x,x<n->o.getD x 0=if x<i\/n<=x+i then p.getD (n-1-x) 0 else p.getD x 0):o=p.reverse:=by
 refine aHb (by simp[hp,ho]) (fun x hx=>?_);rw[ar6 p J,h x J,hp];by_cases h3:x<i\/n<=x+i
 ·rw[if_pos h3]
 rw[if_neg h3];congr 1;omega
namespace auk
theorem aJ{p q:Prop}(k:q)(e:p=q:=by simp only[bD,bo,bp,bh,cg,ej,hll];exact rfl):p:=e.mpr k
end auk
open auk in
theorem ajO(p:List Rat)(t:Rat)(h:HS p t)(jh:0<p.length):an ai 180 [.list 3 (p.map ae),ae t] (ae (dq p t)):=by
 have hll:=aaB p t;have hlen:=h.len;have hj:(((p.length:Nat):Int)-1).toNat=p.length-1:=J;refine aL Tryz.func180 ?_;have ej:True:=trivial;refine ff ?_;refine aD rfl ?_ ?_<;>intro sw h9
 ·omega
 refine a6 ?_;refine cp aC (ahH _ _ (by assumption)) ?_;refine bG ?_;refine jc ?_;refine a6 ?_;rw[dq];exact fO
open H0 in
theorem arc(a b:Rat)(h:rl a+rl b<=1099511627776):an ai 167 [ae a,ae b] (ae (a/b)):=by
 refine aL Tryz.func167 ?_;refine bN ?_;refine cp aC (zp _ _ J) ?_;refine iR ?_;exact fO
end Go.Proofs.YtbkmfcmgilhaaaaGreat
end
