/- Texts LgTy, N1, N2, N3, N4, N5, N6, N7, N8, N9, N10, N11, R1, R2, R3, R4, R5, B1, M1, R6, B2, C1, C2, D1, E1, E3, K1, K4 of this proof, joined. -/
import Derived.Test.YtbgmjcnjbhhljaaGreatQX3
import Derived.Test.YtbgmjcnjbhhljaaGreatChecked
set_option linter.unusedVariables false
set_option linter.unusedSimpArgs false
open And renaming intro->bG
open Bool renaming and_eq_true->cY,eq_iff_iff->aeP,false_eq_true->zU
open Classical renaming byContradiction->nR
open Go.Proofs.Tryz renaming f152->abx,func144->ao7,func245->ao5,prog->ae,t105->apm,t114->apq,t172->anB,t276->aqV,t29->ap9,t31->ap2,t74->an2,t81->akC,t97->aoN,underlying105->an1,underlying114->ajW,underlying117->acZ,underlying172->amD,underlying174->vT,underlying176->akJ,underlying181->apH,underlying193->akX,underlying194->qC,underlying2->adH,underlying204->amV,underlying205->abJ,underlying22->abM,underlying223->ahB,underlying27->m9,underlying271->alS,underlying276->oB,underlying279->aaP,underlying29->amH,underlying3->alB,underlying31->ajp,underlying34->ajm,underlying36->amo,underlying4->ak3,underlying42->wR,underlying5->aiD,underlying53->en,underlying58->apf,underlying72->xw,underlying74->akM,underlying81->apJ,underlying89->aaZ,underlying97->aoH
open Int renaming emod_lt_of_pos->zN,emod_nonneg->aaf,natAbs_neg->aff
open List renaming append_nil->eX,drop_length->aiI,drop_of_length_le->iP,drop_zero->gX,eq_nil_of_length_eq_zero->kJ,getD_cons_succ->iG,getD_cons_zero->ij,getD_eq_getElem?_getD->bf,getElem?_eq_getElem->bO,getElem?_set->akz,length_append->kH,length_cons->dO,length_map->bF,length_nil->ff,mem_cons->fJ,nil_append->eF,range->eH,replicate->aJ,set_cons_succ->cd,set_cons_zero->cw,take_length->je,take_nil->gE,take_of_length_le->cW,take_succ_eq_append_getElem->tQ
open Nat renaming add_comm->td,add_mul->ep,add_zero->jK,div_add_mod->yT,div_eq_of_lt->we,div_le_self->qd,div_lt_iff_lt_mul->jZ,div_mul_le_self->ak5,div_one->abd,div_pos->ada,gcd->dK,gcd_comm->mE,gcd_dvd_left->vX,gcd_dvd_right->agn,gcd_pos_of_pos_left->ag3,gcd_rec->aaD,gcd_zero_right->aa9,le_antisymm->ap1,le_div_iff_mul_le->th,le_mul_of_pos_right->alP,le_of_dvd->yM,le_of_eq->aad,le_of_lt->sO,le_refl->bA,le_total->al1,le_trans->bW,lt_of_le_of_lt->sT,lt_of_lt_of_le->oK,lt_or_eq_of_le->amQ,lt_or_ge->fH,min_le_right->aiV,mod_eq_of_lt->fa,mod_lt->gl,mul_add->di,mul_assoc->dZ,mul_comm->er,mul_le_mul_left->nH,mul_le_mul_right->dT,mul_one->kx,mul_pos->sv,mul_zero->uA,pos_of_ne_zero->qa,pow_add->jl,pow_le_pow_right->tZ,pow_pos->lM,pow_succ->gx,pow_zero->adW,reduceAdd->aW,reduceBEq->aS,reduceEqDiff->cy,reduceMul->aZ,sub_le->ais,sub_mul->apU,succ_mul->sZ,zero_add->fW,zero_le->bJ,zero_mod->amB,zero_mul->aaj
open Option.some renaming injEq->dN
open Rat renaming div_def->tu,le_refl->aa8,le_trans->aj5,lt_iff->ano,neg_den->afk,neg_num->ah2,not_lt->alQ,num_eq_zero->aq1
section
set_option linter.unusedVariables false
set_option linter.unusedSimpArgs false
set_option maxHeartbeats 8000000
set_option maxRecDepth 100000
namespace Go.Proofs.YtbgmjcnjbhhljaaGreat
open Go.Lg
theorem fol:ae.follows .mixedOrders=true:=gg
mutual
def zc:LV->List Value
 | .v x=>[x]
 | .list _ _=>[.slice none 0 0]
 | .agg l=>yW l
 |_=>[]
def yW:List LV->List Value
 | []=>[]
 |x::xs=>zc x++yW xs
end
mutual
def xu:LV->Bool
 | .v x=>x.oneCell'
 | .list _ []=>true
 | .agg l=>aan l
 |_=>false
def aan:List LV->Bool
 | []=>true
 |x::xs=>xu x&&aan xs
end
mutual
theorem al2:∀x,xu x=true->(zc x).length=x.aj
 | .v x,_=>rfl
 | .list _ [],_=>rfl
 | .agg l,h=>by rw[xu]at h;rw[zc,arn l h];rfl
 | .list _ (_::_),h=>by cases h
 | .ref ..,h=>by cases h
 | .gm ..,h=>by cases h
 | .ax ..,h=>by cases h
 | .bg _,h=>by cases h
 | .aQ _,h=>by cases h
 | .bQ ..,h=>by cases h
 | .gZ ..,h=>by cases h
 | .any,h=>by cases h
theorem arn:∀l,aan l=true->(yW l).length=bI l
 | [],_=>rfl
 |x::xs,h=>by
  rw[aan,cY]at h;rw[yW,bI,kH,al2 x h.1,arn xs h.2]
end
section
variable {Z:Nat->Prop} {μ:Nat->Option Nat} {w:World}
mutual
theorem akH:∀x,xu x=true->ao Z μ w x (zc x)
 | .v x,h=>by rw[xu]at h;exact au9 h
 | .list n [],_=>aeN n
 | .agg l,h=>by rw[xu]at h;rw[zc];exact azZ (aka l h)
 | .list _ (_::_),h=>by cases h
 | .ref ..,h=>by cases h
 | .gm ..,h=>by cases h
 | .ax ..,h=>by cases h
 | .bg _,h=>by cases h
 | .aQ _,h=>by cases h
 | .bQ ..,h=>by cases h
 | .gZ ..,h=>by cases h
 | .any,h=>by cases h
theorem aka:∀l,aan l=true->a8 Z μ w l (yW l)
 | [],_=>auf
 |x::xs,h=>by
  rw[aan,cY]at h;rw[yW];exact av2 (al2 x h.1) (akH x h.1) (aka xs h.2)
end
end
theorem zk{P:Program}{T:TypeId}{z:LV}{i:TypeInfo}{zv:Value}(h1:P.info? T=some i)(h2:i.zero=some zv)(h3:z.pure=true)(h4:xu z=true)(h5:zc z=zv.cells.toList):ck P T z :=
 ⟨i,zv,h1,h2,h3,fun _ _ _=>h5▸akH z h4⟩
theorem T2:aX ae 2 1 false:=⟨by kernel_rfl,_,adH,rfl⟩
theorem B2:g6 ae 2 8:=⟨Tryz.t2,by kernel_rfl,rfl⟩
theorem Z2:ck ae 2 (.v (.int .i64 0)):=by exact zk (i:=Tryz.t2) gg rfl rfl rfl rfl
instance:TI ae 2 1 false:=⟨T2⟩
theorem T3:aX ae 3 1 false:=⟨by kernel_rfl,_,alB,rfl⟩
theorem B3:g6 ae 3 8:=⟨Tryz.t3,by kernel_rfl,rfl⟩
theorem Z3:ck ae 3 (.v (.int .i64 0)):=by exact zk (i:=Tryz.t3) gg rfl rfl rfl rfl
instance:TI ae 3 1 false:=⟨T3⟩
instance:UN ae 4 .bool:=⟨ak3⟩
theorem T4:aX ae 4 1 false:=⟨by kernel_rfl,_,ak3,rfl⟩
instance:TI ae 4 1 false:=⟨T4⟩
instance:UN ae 5 (.int .u8):=⟨aiD⟩
instance:UN ae 22 (.slice 3):=⟨abM⟩
theorem T22:aX ae 22 1 false:=⟨by kernel_rfl,_,abM,rfl⟩
instance:TI ae 22 1 false:=⟨T22⟩
instance:UN ae 27 (.slice 114):=⟨m9⟩
theorem T27:aX ae 27 1 false:=⟨by kernel_rfl,_,m9,rfl⟩
instance:TI ae 27 1 false:=⟨T27⟩
theorem bZ:aX ae 29 3 true:=⟨by kernel_rfl,_,amH,rfl⟩
theorem mG:g6 ae 29 56:=⟨ap9,by kernel_rfl,rfl⟩
theorem Z29:ck ae 29 (ab 0):=by rw[iF];exact zk (i:=ap9) gg rfl rfl rfl rfl
theorem jB:ck ae 29 (.agg [.v (.bool false),.list 1 [],.list 1 []]):=iF▸Z29
instance:TI ae 29 3 true:=⟨bZ⟩
instance:BI ae 29 56:=⟨mG⟩
instance:ZI ae 29 (.agg [.v (.bool false),.list 1 [],.list 1 []]):=⟨jB⟩
theorem xI:jn ae 29 [(1,false),(1,false),(1,false)]:=⟨_,amH,⟨rfl,T4,⟨rfl,T27,⟨rfl,T27,trivial⟩⟩⟩,by decide⟩
instance:SI ae 29 [(1,false),(1,false),(1,false)]:=⟨xI⟩
instance:UN ae 31 (.array 3 29):=⟨ajp⟩
theorem kt:aX ae 31 9 true:=⟨by kernel_rfl,_,ajp,rfl⟩
theorem B31:g6 ae 31 168:=⟨ap2,by kernel_rfl,rfl⟩
theorem Z31:ck ae 31 (.agg [ab 0,ab 0,ab 0]):=by rw[iF];exact zk (i:=ap2) gg rfl rfl rfl rfl
instance:TI ae 31 9 true:=⟨kt⟩
instance:ZI ae 31 (.agg [ab 0,ab 0,ab 0]):=⟨Z31⟩
instance:UN ae 34 (.array 3 31):=⟨ajm⟩
theorem T34:aX ae 34 27 true:=⟨by kernel_rfl,_,ajm,rfl⟩
theorem Z34:ck ae 34 (.agg [.agg [ab 0,ab 0,ab 0],.agg [ab 0,ab 0,ab 0],.agg [ab 0,ab 0,ab 0]]):=by rw[iF];exact zk (i:=Tryz.t34) gg rfl rfl rfl rfl
theorem T36:aX ae 36 36 true:=⟨by kernel_rfl,_,amo,rfl⟩
theorem Z36:ck ae 36 (.agg [.agg [.agg [ab 0,ab 0,ab 0],.agg [ab 0,ab 0,ab 0],.agg [ab 0,ab 0,ab 0]],.agg [ab 0,ab 0,ab 0]]):=by rw[iF];exact zk (i:=Tryz.t36) gg rfl rfl rfl rfl
instance:TI ae 36 36 true:=⟨T36⟩
theorem arT:jn ae 36 [(27,true),(9,true)]:=⟨_,amo,⟨rfl,T34,⟨rfl,kt,trivial⟩⟩,by decide⟩
instance:SI ae 36 [(27,true),(9,true)]:=⟨arT⟩
instance:UN ae 37 (.slice 42):=⟨Tryz.underlying37⟩
instance:UN ae 42 (.slice 31):=⟨wR⟩
theorem T42:aX ae 42 1 false:=⟨by kernel_rfl,_,wR,rfl⟩
theorem B42:g6 ae 42 24:=⟨Tryz.t42,by kernel_rfl,rfl⟩
instance:UN ae 53 (.slice 29):=⟨en⟩
theorem T53:aX ae 53 1 false:=⟨by kernel_rfl,_,en,rfl⟩
instance:TI ae 53 1 false:=⟨T53⟩
theorem T58:aX ae 58 12 true:=⟨by kernel_rfl,_,apf,rfl⟩
theorem Z58:ck ae 58 (.agg [.agg [ab 0,ab 0,ab 0],ab 0]):=by rw[iF];exact zk (i:=Tryz.t58) gg rfl rfl rfl rfl
instance:TI ae 58 12 true:=⟨T58⟩
instance:ZI ae 58 (.agg [.agg [ab 0,ab 0,ab 0],ab 0]):=⟨Z58⟩
theorem ayT:jn ae 58 [(9,true),(3,true)]:=⟨_,apf,⟨rfl,kt,⟨rfl,bZ,trivial⟩⟩,by decide⟩
instance:SI ae 58 [(9,true),(3,true)]:=⟨ayT⟩
instance:UN ae 72 (.slice 74):=⟨xw⟩
theorem T72:aX ae 72 1 false:=⟨by kernel_rfl,_,xw,rfl⟩
instance:TI ae 72 1 false:=⟨T72⟩
theorem vG:aX ae 74 12 true:=⟨by kernel_rfl,_,akM,rfl⟩
theorem B74:g6 ae 74 224:=⟨an2,by kernel_rfl,rfl⟩
theorem Z74:ck ae 74 (.agg [.agg [ab 0,ab 0,ab 0],ab 0]):=by rw[iF];exact zk (i:=an2) gg rfl rfl rfl rfl
instance:TI ae 74 12 true:=⟨vG⟩
instance:ZI ae 74 (.agg [.agg [ab 0,ab 0,ab 0],ab 0]):=⟨Z74⟩
theorem as6:jn ae 74 [(9,true),(3,true)]:=⟨_,akM,⟨rfl,kt,⟨rfl,bZ,trivial⟩⟩,by decide⟩
instance:SI ae 74 [(9,true),(3,true)]:=⟨as6⟩
theorem zx:aX ae 81 6 true:=⟨by kernel_rfl,_,apJ,rfl⟩
theorem B81:g6 ae 81 112:=⟨akC,by kernel_rfl,rfl⟩
theorem Z81:ck ae 81 (.agg [ab 0,ab 0]):=by rw[iF];exact zk (i:=akC) gg rfl rfl rfl rfl
instance:TI ae 81 6 true:=⟨zx⟩
instance:ZI ae 81 (.agg [ab 0,ab 0]):=⟨Z81⟩
theorem amF:jn ae 81 [(3,true),(3,true)]:=⟨_,apJ,⟨rfl,bZ,⟨rfl,bZ,trivial⟩⟩,by decide⟩
instance:SI ae 81 [(3,true),(3,true)]:=⟨amF⟩
instance:UN ae 89 (.slice 81):=⟨aaZ⟩
theorem T89:aX ae 89 1 false:=⟨by kernel_rfl,_,aaZ,rfl⟩
theorem Z89:ck ae 89 (.v (.slice none 0 0)):=by exact zk (i:=Tryz.t89) gg rfl rfl rfl rfl
instance:TI ae 89 1 false:=⟨T89⟩
instance:ZI ae 89 (.v (.slice none 0 0)):=⟨Z89⟩
theorem te:aX ae 97 3 true:=⟨by kernel_rfl,_,aoH,rfl⟩
theorem B97:g6 ae 97 56:=⟨aoN,by kernel_rfl,rfl⟩
theorem Z97:ck ae 97 (.agg [.v (.int .i64 0),.v (.slice none 0 0),.v (.slice none 0 0)]):=by exact zk (i:=aoN) gg rfl rfl rfl rfl
instance:TI ae 97 3 true:=⟨te⟩
instance:ZI ae 97 (.agg [.v (.int .i64 0),.v (.slice none 0 0),.v (.slice none 0 0)]):=⟨Z97⟩
theorem axj:jn ae 97 [(1,false),(1,false),(1,false)]:=⟨_,aoH,⟨rfl,T3,⟨rfl,T53,⟨rfl,T72,trivial⟩⟩⟩,by decide⟩
instance:SI ae 97 [(1,false),(1,false),(1,false)]:=⟨axj⟩
instance:UN ae 101 (.slice 105):=⟨Tryz.underlying101⟩
theorem adE:aX ae 105 7 true:=⟨by kernel_rfl,_,an1,rfl⟩
theorem ae1:g6 ae 105 120:=⟨apm,by kernel_rfl,rfl⟩
theorem aex:ck ae 105 (.agg [.agg [ab 0,ab 0],.v (.int .i64 0)]):=by rw[iF];exact zk (i:=apm) gg rfl rfl rfl rfl
instance:TI ae 105 7 true:=⟨adE⟩
instance:BI ae 105 120:=⟨ae1⟩
instance:ZI ae 105 (.agg [.agg [ab 0,ab 0],.v (.int .i64 0)]):=⟨aex⟩
theorem aj1:jn ae 105 [(6,true),(1,false)]:=⟨_,an1,⟨rfl,zx,⟨rfl,T3,trivial⟩⟩,by decide⟩
instance:SI ae 105 [(6,true),(1,false)]:=⟨aj1⟩
theorem awe:ck ae 107 (.agg [.v (.slice none 0 0),.v (.int .i64 0)]):=by exact zk (i:=Tryz.t107) gg rfl rfl rfl rfl
theorem aqY:jn ae 107 [(1,false),(1,false)]:=⟨_,Tryz.underlying107,⟨rfl,T22,⟨rfl,T3,trivial⟩⟩,by decide⟩
instance:SI ae 107 [(1,false),(1,false)]:=⟨aqY⟩
instance:UN ae 114 (.int .u32):=⟨ajW⟩
theorem oy:aX ae 114 1 false:=⟨by kernel_rfl,_,ajW,rfl⟩
theorem aac:g6 ae 114 4:=⟨apq,by kernel_rfl,rfl⟩
theorem aau:ck ae 114 (.v (.int .u32 0)):=by exact zk (i:=apq) gg rfl rfl rfl rfl
instance:TI ae 114 1 false:=⟨oy⟩
instance:BI ae 114 4:=⟨aac⟩
instance:UN ae 117 (.int .u64):=⟨acZ⟩
instance:UN ae 172 (.array 4 29):=⟨amD⟩
theorem sA:aX ae 172 12 true:=⟨by kernel_rfl,_,amD,rfl⟩
theorem ajf:g6 ae 172 224:=⟨anB,by kernel_rfl,rfl⟩
theorem adm:ck ae 172 (.agg [ab 0,ab 0,ab 0,ab 0]):=by rw[iF];exact zk (i:=anB) gg rfl rfl rfl rfl
instance:TI ae 172 12 true:=⟨sA⟩
instance:ZI ae 172 (.agg [ab 0,ab 0,ab 0,ab 0]):=⟨adm⟩
instance:UN ae 174 (.slice 172):=⟨vT⟩
theorem amO:aX ae 174 1 false:=⟨by kernel_rfl,_,vT,rfl⟩
instance:TI ae 174 1 false:=⟨amO⟩
theorem ac4:aX ae 176 3 true:=⟨by kernel_rfl,_,akJ,rfl⟩
theorem aul:ck ae 176 (.agg [.v (.int .i64 0),.v (.slice none 0 0),.v (.slice none 0 0)]):=by exact zk (i:=Tryz.t176) gg rfl rfl rfl rfl
instance:TI ae 176 3 true:=⟨ac4⟩
instance:ZI ae 176 (.agg [.v (.int .i64 0),.v (.slice none 0 0),.v (.slice none 0 0)]):=⟨aul⟩
theorem ary:jn ae 176 [(1,false),(1,false),(1,false)]:=⟨_,akJ,⟨rfl,T3,⟨rfl,T53,⟨rfl,amO,trivial⟩⟩⟩,by decide⟩
instance:SI ae 176 [(1,false),(1,false),(1,false)]:=⟨ary⟩
instance:UN ae 181 (.array 3 2):=⟨apH⟩
theorem afr:aX ae 181 3 true:=⟨by kernel_rfl,_,apH,rfl⟩
theorem aAM:ck ae 181 (.agg [.v (.int .i64 0),.v (.int .i64 0),.v (.int .i64 0)]):=by exact zk (i:=Tryz.t181) gg rfl rfl rfl rfl
instance:TI ae 181 3 true:=⟨afr⟩
instance:ZI ae 181 (.agg [.v (.int .i64 0),.v (.int .i64 0),.v (.int .i64 0)]):=⟨aAM⟩
instance:UN ae 184 (.slice 181):=⟨Tryz.underlying184⟩
instance:UN ae 191 (.slice 97):=⟨Tryz.underlying191⟩
instance:UN ae 193 (.slice 194):=⟨akX⟩
theorem avm:aX ae 193 1 false:=⟨by kernel_rfl,_,akX,rfl⟩
theorem atD:ck ae 193 (.v (.slice none 0 0)):=by exact zk (i:=Tryz.t193) gg rfl rfl rfl rfl
instance:TI ae 193 1 false:=⟨avm⟩
instance:ZI ae 193 (.v (.slice none 0 0)):=⟨atD⟩
instance:UN ae 194 (.slice 29):=⟨qC⟩
theorem aqq:aX ae 194 1 false:=⟨by kernel_rfl,_,qC,rfl⟩
theorem auE:g6 ae 194 24:=⟨Tryz.t194,by kernel_rfl,rfl⟩
instance:TI ae 194 1 false:=⟨aqq⟩
instance:BI ae 194 24:=⟨auE⟩
instance:UN ae 204 (.array 2 2):=⟨amV⟩
theorem ahz:aX ae 204 2 true:=⟨by kernel_rfl,_,amV,rfl⟩
theorem ayC:ck ae 204 (.agg [.v (.int .i64 0),.v (.int .i64 0)]):=by exact zk (i:=Tryz.t204) gg rfl rfl rfl rfl
instance:TI ae 204 2 true:=⟨ahz⟩
instance:ZI ae 204 (.agg [.v (.int .i64 0),.v (.int .i64 0)]):=⟨ayC⟩
instance:UN ae 205 (.array 8 204):=⟨abJ⟩
theorem atM:aX ae 205 16 true:=⟨by kernel_rfl,_,abJ,rfl⟩
theorem atl:ck ae 205 (.agg [.agg [.v (.int .i64 0),.v (.int .i64 0)],.agg [.v (.int .i64 0),.v (.int .i64 0)],.agg [.v (.int .i64 0),.v (.int .i64 0)],.agg [.v (.int .i64 0),.v (.int .i64 0)],.agg [.v (.int .i64 0),.v (.int .i64 0)],.agg [.v (.int .i64 0),.v (.int .i64 0)],.agg [.v (.int .i64 0),.v (.int .i64 0)],.agg [.v (.int .i64 0),.v (.int .i64 0)]]):=by exact zk (i:=Tryz.t205) gg rfl rfl rfl rfl
instance:TI ae 205 16 true:=⟨atM⟩
instance:ZI ae 205 (.agg [.agg [.v (.int .i64 0),.v (.int .i64 0)],.agg [.v (.int .i64 0),.v (.int .i64 0)],.agg [.v (.int .i64 0),.v (.int .i64 0)],.agg [.v (.int .i64 0),.v (.int .i64 0)],.agg [.v (.int .i64 0),.v (.int .i64 0)],.agg [.v (.int .i64 0),.v (.int .i64 0)],.agg [.v (.int .i64 0),.v (.int .i64 0)],.agg [.v (.int .i64 0),.v (.int .i64 0)]]):=⟨atl⟩
instance:UN ae 223 (.slice 2):=⟨ahB⟩
instance:UN ae 271 (.array 4 194):=⟨alS⟩
theorem aqO:aX ae 271 4 true:=⟨by kernel_rfl,_,alS,rfl⟩
theorem auL:ck ae 271 (.agg [.v (.slice none 0 0),.v (.slice none 0 0),.v (.slice none 0 0),.v (.slice none 0 0)]):=by exact zk (i:=Tryz.t271) gg rfl rfl rfl rfl
instance:TI ae 271 4 true:=⟨aqO⟩
instance:ZI ae 271 (.agg [.v (.slice none 0 0),.v (.slice none 0 0),.v (.slice none 0 0),.v (.slice none 0 0)]):=⟨auL⟩
instance:UN ae 276 (.slice 29):=⟨oB⟩
theorem apz:aX ae 276 1 false:=⟨by kernel_rfl,_,oB,rfl⟩
theorem aAc:g6 ae 276 24:=⟨aqV,by kernel_rfl,rfl⟩
theorem azN:ck ae 276 (.v (.slice none 0 0)):=by exact zk (i:=aqV) gg rfl rfl rfl rfl
instance:UN ae 279 (.slice 276):=⟨aaP⟩
theorem arw:aX ae 279 1 false:=⟨by kernel_rfl,_,aaP,rfl⟩
theorem at3:ck ae 279 (.v (.slice none 0 0)):=by exact zk (i:=Tryz.t279) gg rfl rfl rfl rfl
instance:TI ae 279 1 false:=⟨arw⟩
instance:ZI ae 279 (.v (.slice none 0 0)):=⟨at3⟩
instance:UN ae 298 (.array 2 29):=⟨Tryz.underlying298⟩
theorem avF:ck ae 298 (.agg [ab 0,ab 0]):=by rw[iF];exact zk (i:=Tryz.t298) gg rfl rfl rfl rfl
instance:ZI ae 298 (.agg [ab 0,ab 0]):=⟨avF⟩
theorem ajC:ck ae 81 (cP (0,0)):=by rw[rL];exact Z81
instance:EC ae 2 jx 1 false 0:=⟨m8,Z2,T2⟩
instance:EC ae 3 jx 1 false 0:=⟨m8,Z3,T3⟩
instance:EC ae 29 ab 3 true 0:=⟨al,Z29,bZ⟩
instance:EC ae 31 aB 9 true ⟨0,0,0⟩:=⟨a7,Z31,kt⟩
instance:EC ae 74 dj 12 true ⟨⟨0,0,0⟩,0⟩:=⟨iA,Z74,vG⟩
instance:EC ae 81 cP 6 true (0,0):=⟨cB,ajC,zx⟩
instance:AE ae 81 cP 6 true (0,0):=⟨cB,ajC⟩
instance:EC ae 114 aO 1 false 0:=⟨eu,aau,oy⟩
section
variable {f:FuncId} {fn:Func} {c:Code} {args:List LV} {r:LV}
theorem aE(hf:ae.funcs[f]?=some fn)
  (h:bM ae c (fun e L=>match e with | .exit _=>False|_=>mH ae fn.results.toList L r []) (St.mk (fun t=>args.getD t .any) (hp [])))
  (hb:fn.body=some c:=by exact rfl) (hn:(fn.name== "runtime.NumGoroutine")=false:=by decide +kernel) (hd:ig fn.ntmps c=true:=by decide +kernel) (hlen:args.length<=fn.ntmps:=by exact Nat.le_of_ble_eq_true rfl) (ht:∀g,r.bl g=r:=by exact tm0):ar ae f args r:=aAg fol hf hb hn hd hlen ht h
theorem xe{bs:List aL}(hf:ae.funcs[f]?=some fn)
  (h:bM ae c (fun e L=>match e with | .exit _=>False|_=>mH ae fn.results.toList L r bs) (St.mk (fun t=>args.getD t .any) (hp [])))
  (hb:fn.body=some c:=by exact rfl) (hn:(fn.name== "runtime.NumGoroutine")=false:=by decide +kernel) (hd:ig fn.ntmps c=true:=by decide +kernel) (hlen:args.length<=fn.ntmps:=by exact Nat.le_of_ble_eq_true rfl):ke ae f args r bs:=avf fol hf hb hn hd hlen h
theorem tr{blk blk':aL}(hf:ae.funcs[f]?=some fn)
  (h:bM ae c (fun e L=>match e with | .exit _=>False|_=>qX ae fn.results.toList L r blk') (St.mk (fun t=>args.getD t .any) (hp [(0,blk)])))
  (hb:fn.body=some c:=by exact rfl) (hn:(fn.name== "runtime.NumGoroutine")=false:=by decide +kernel) (hd:ig fn.ntmps c=true:=by decide +kernel) (hlen:args.length<=fn.ntmps:=by exact Nat.le_of_ble_eq_true rfl) (dW:blk.mt=true:=by exact rfl):jt ae f blk args r blk':=at4 fol hf hb hn hd hlen dW h
end
end Go.Proofs.YtbgmjcnjbhhljaaGreat
end
section
set_option linter.unusedVariables false
set_option linter.unusedSimpArgs false
set_option maxHeartbeats 8000000
set_option maxRecDepth 100000
attribute [local irreducible] Go.Lg.opsL Go.Lg.bM Go.Lg.lq Go.Lg.nJ
namespace Go.Proofs.YtbgmjcnjbhhljaaGreat
open Go.Lg
namespace an0
theorem pb{p q:Prop}(k:q)(e:p=q:=by simp only[bc,aZ,aW,aS,ej,ek];exact rfl):p:=e.mpr k
theorem nx{p:Prop}(h:p:=by first|(refine pb ?_;exact rfl)|exact rfl):p:=h
theorem agV{p q:Prop}(k:q)(e:p=q:=by simp only[bc,aZ,aW,aS,ek];exact rfl):p:=e.mpr k
theorem nf2{p:Prop}(h:p:=by first|(refine agV ?_;exact rfl)|exact rfl):p:=h
end an0
open an0 H0 in
theorem amX(l:List Nat)(hl:l.length<=4611686018427387904):ar ae 144 [dB l] (dB (sF l)):=by
 unfold dB sF;refine aE ao7 ?_;refine dx ?_;refine da (fun(k:Nat) L=>(mS L [] [(3,ak k),(0,.list 1 (l.map aO))])) (fun k=>k<=l.length/\fD l.length l=fD k l) (fun k=>k) l.length ⟨bA _,rfl⟩ ?_;rintro k L1 ⟨hk,kN⟩;refine aA ?_;refine cz 8 rfl ?_ ?_<;>intro oS h8
 ·obtain⟨j,rfl⟩:∃j,k=j+1:=⟨k-1,aa⟩;have ej:(((j+1:Nat):Int)-1).toNat=j:=aa;have ek:(((j+1:Nat):Int)-1)=j:=aa;refine aP ?_;refine nL nx ?_;refine aT ?_;refine au rfl ?_ ?_<;>intro mA iR
  ·refine aP ?_;refine nL nf2 ?_;refine aR ?_;exact fj j ⟨aa,kN.trans (by simp only[fD];rw[if_pos (by simpa using iR)])⟩
  refine bx ?_;refine ai rfl aas ?_;refine ay ?_;rw[kN,fD,if_neg (by simpa using iR)];exact cm rfl (.pure (bN eu _ _))
 have kF:k=0:=aa;subst kF;have ej:True:=trivial;have ek:True:=trivial;refine aP ?_;refine nL nx ?_;refine cg ?_;refine ai rfl aas ?_;refine ay ?_;rw[kN];exact cm rfl (.pure (bN eu _ _))
namespace yR
theorem aD{p q:Prop}(k:q)(e:p=q:=by simp only[bc,aZ,aW,aS,dU];exact rfl):p:=e.mpr k
end yR
open yR in
theorem afK(a b:List Nat)(ha:bh a)(hb:bh b)(eU:a.length<=1099511627776)(jT:b.length<=1099511627776):ar ae 153 [dB a,dB b] (aM (val a+val b)):=by
 unfold dB aM;refine aE Tryz.func153 ?_;refine gA ?_;refine fk (fun L=>∃(x:List Nat) (y:List Nat) (L1:St),(bh x/\bh y/\x.length<=1099511627776/\y.length<=x.length/\val a+val b=val x+val y)/\L=(mS L1 [] [(1,.list 1 (y.map aO)),(0,.list 1 (x.map aO))])) ?_ ?_
 ·refine au rfl ?_ ?_<;>intro tL sX
  ·refine aP ?_;exact⟨b,a,_,⟨hb,ha,jT,aa,td _ _⟩,ca⟩
  refine aR ?_;exact⟨a,b,_,⟨ha,hb,eU,aa,rfl⟩,ca⟩
 rintro _ ⟨x,y,aBU,⟨hx,hy,hlx,hyx,hxy⟩,rfl⟩;rw[hxy];refine aA ?_;refine eD rfl rfl (.gC (n:=x.length+1) (m:=x.length+1) ml ml om om om) ?_;refine jX ?_;refine ow (fun(k:Nat) (o:List Nat) (c:Nat) L=>(mS L [(19,⟨1,o.map aO,true⟩)] [(22,ak k),(21,ak x.length),(20,.list 1 (x.map aO)),(6,bP c),(5,.ref 19 1 0 (x.length+1)),(1,.list 1 (y.map aO)),(0,.list 1 (x.map aO))])) (fun k o c=>k<=x.length/\o.length=x.length+1/\c<=1/\bh o/\val (o.take k)+4294967296^k*c=val (x.take k)+val (y.take k)) (fun k o c=>x.length-k) 0 (aJ (x.length+1) 0) 0 ⟨bJ _,by simp,aa,qI _,by simp[val]⟩ ?_;rintro k o c L1 ⟨hk,cf,hc,bD,hv⟩;have qp:=fi hx k;have hyk:=fi hy k;refine aA ?_;refine au rfl ?_ ?_<;>intro mN mB
 ·refine ayI ?_;refine au rfl ?_ ?_<;>intro xV tc
  ·refine arA ?_;exact nN (k+1) (o.set k ((c+x.getD k 0+y.getD k 0)%4294967296)) ((c+x.getD k 0+y.getD k 0)/4294967296) ⟨aa,by simp[cf],aa,ja bD _ _ (gl _ aa),akl aa hv rfl⟩
  refine wX ?_;exact nN (k+1) (o.set k ((c+x.getD k 0)%4294967296)) ((c+x.getD k 0)/4294967296) ⟨aa,by simp[cf],aa,ja bD _ _ (gl _ aa),akl aa hv (by rw[uR y k aa];rfl)⟩
 obtain rfl:k=x.length:=aa;refine nk ?_;refine n9 [19] oc (amX _ oC) ?_;refine ay ?_;rw[<-ass (c:=c%4294967296) hyx cf bD aa (by rw[fa aa];exact hv)];exact cm rfl (.pure (tx _))
theorem nw(l:List Nat)(h:bh l)(hl:l.length<=4611686018427387904):ar ae 144 [dB l] (aM (val l)):=by
 have:=amX l hl;rwa[qw h]at this
namespace abV
theorem aD{p q:Prop}(k:q)(e:p=q:=by simp only[bc,aZ,aW,aS,dU,ej];exact rfl):p:=e.mpr k
end abV
open abV in
theorem arD(a:List Nat)(hl:a.length<=4611686018427387904):ar ae 159 [dB a] (bL (decide (a.length=0\/a.getD (a.length-1) 0≠0))):=by
 unfold dB;refine aE Tryz.func159 ?_;have ej:True:=trivial;refine cg ?_;refine cz 6 rfl ?_ ?_<;>intro h6r h6
 ·have ej:True:=trivial;refine bp ?_;refine cm ?_ (.pure rfl);simp only[e1,e2,e3,e4,p1,p2,p3,q1,q2,q3,aS];congr 2
  first|(symm;rw[decide_eq_true_iff];omega)|(rw[aeP,bne_iff_ne,decide_eq_true_iff];omega)
 have ej:((a.length:Int)-1).toNat=a.length-1:=aa;refine bp ?_;refine cm ?_ (.pure rfl);simp only[e1,e2,e3,e4,p1,p2,p3,q1,q2,q3,aS];congr 2
 first|(symm;rw[decide_eq_true_iff];omega)|(rw[aeP,bne_iff_ne,decide_eq_true_iff];omega)
namespace aai
theorem aD{p q:Prop}(k:q)(e:p=q:=by simp only[bc,aZ,aW,aS,dU,ej,ek];exact rfl):p:=e.mpr k
end aai
open aai in
theorem alj(a:List Nat)(h:bh a)(hl:a.length<=2):ar ae 247 [dB a] (bP (val a)):=by
 unfold dB;refine aE Tryz.func247 ?_;have ej:True:=trivial;have ek:True:=trivial;refine iQ ?_;refine iy (fun(k n:Nat) L=>(mS L [] [(4,iL ((k:Int)-1)),(3,bP n),(0,.list 1 (a.map aO))])) (fun k n=>k<=a.length/\n=val (a.drop k)) (fun k n=>k) a.length 0 ⟨bA _,by simp[val]⟩ ?_;rintro k n L1 ⟨hk,hn⟩;refine aP ?_;refine au rfl ?_ ?_<;>intro sB h9
 ·obtain⟨j,rfl⟩:∃j,k=j+1:=⟨k-1,aa⟩;have ej:(((j+1:Nat):Int)-1).toNat=j:=aa;have ek:(((j+1:Nat):Int)-1)=j:=aa;have hb:=fi h j;have me:n<4294967296:=by have:=aje h (k:=j+1) (j:=1) aa;rw[hn];simpa using this
  refine ur ?_;exact fC j (n*4294967296+a.getD j 0) ⟨aa,by rw[kY aa,hn];omega⟩
 obtain rfl:k=0:=aa;have ej:True:=trivial;have ek:True:=trivial;rw[gX]at hn;rw[<-hn];refine bp ?_;exact dA
open aai in
theorem abY(a b:List Nat)(ha:bh a)(hb:bh b)(eU:a.length<=1099511627776)(jT:b.length<=1099511627776):ar ae 156 [dB a,dB b] (iL (jF (val a) (val b))):=by
 refine aE Tryz.func156 ?_;have ej:True:=trivial;have ek:True:=trivial;refine bu ?_;refine cp bK (nw _ fb aa) ?_;refine aT ?_;refine cp bK (nw _ fb aa) ?_;refine dx ?_;refine au rfl ?_ ?_<;>intro rV nb
 ·have xf:(ah (val a)).length<=1099511627776:=by rw[<-qw ha];unfold sF;simp;omega
  refine cb ?_;refine au rfl ?_ ?_<;>intro yN uv
  ·have hE:=acE (m:=val a) (n:=val b) aa;refine bu ?_
   first|(rw[ov hE];exact cm rfl (.pure rfl))|(rw[oE hE];exact cm rfl (.pure rfl))|(rw[pI hE];exact cm rfl (.pure rfl))
  have hE:=acE (m:=val b) (n:=val a) aa;refine bx ?_
  first|(rw[ov hE];exact cm rfl (.pure rfl))|(rw[oE hE];exact cm rfl (.pure rfl))|(rw[pI hE];exact cm rfl (.pure rfl))
 have hlen:(ah (val a)).length=(ah (val b)).length:=aa;have xf:(ah (val a)).length<=1099511627776:=by rw[<-qw ha];unfold sF;simp;omega
 clear nb rV;refine bp ?_;refine da (fun(k:Nat) L=>(mS L [] [(5,iL ((k:Int)-1)),(1,aM (val b)),(0,aM (val a))])) (fun k=>k<=(ah (val a)).length/\(ah (val a)).drop k=(ah (val b)).drop k) (fun k=>k) ((ah (val a)).length) ⟨bA _,by rw[aiI,iP aa]⟩ ?_;rintro k L1 ⟨hk,hd⟩;refine aP ?_;refine au rfl ?_ ?_<;>intro vk h24
 ·obtain⟨j,rfl⟩:∃j,k=j+1:=⟨k-1,aa⟩;have ej:(((j+1:Nat):Int)-1).toNat=j:=aa;have ek:(((j+1:Nat):Int)-1)=j:=aa;refine jX ?_;refine au rfl ?_ ?_<;>intro tT uZ
  ·refine dx ?_;refine au rfl ?_ ?_<;>intro ayu h44
   ·have hE:=aeh (b7 (val a)) (k:=j) aa aa hd aa;rw[bq,bq]at hE;refine bp ?_
    first|(rw[ov hE];exact cm rfl (.pure rfl))|(rw[oE hE];exact cm rfl (.pure rfl))|(rw[pI hE];exact cm rfl (.pure rfl))
   have hE:=aeh (b7 (val b)) (k:=j) aa aa hd.symm aa;rw[bq,bq]at hE;refine dk ?_
   first|(rw[ov hE];exact cm rfl (.pure rfl))|(rw[oE hE];exact cm rfl (.pure rfl))|(rw[pI hE];exact cm rfl (.pure rfl))
  refine bx ?_;exact fj j ⟨aa,ak7 aa aa hd aa⟩
 obtain rfl:k=0:=aa;have ej:True:=trivial;have ek:True:=trivial;rw[gX,gX]at hd;have hE:val a=val b:=by have:=congrArg val hd;rwa[bq,bq]at this
 refine cg ?_
 first|(rw[ov hE];exact cm rfl (.pure rfl))|(rw[oE hE];exact cm rfl (.pure rfl))|(rw[pI hE];exact cm rfl (.pure rfl))
theorem aqr{b:List Nat}(h:bh b):(ah (val b)).length<=b.length:=by
 rw[<-qw h];unfold sF;simp;exact aiV _ _
open H0 in
theorem auU(a b:List Nat)(ha:bh a)(hb:bh b)(eU:a.length<=1099511627776)(jT:b.length<=1099511627776)(bT:val a<val b):ar ae 245 [dB a,dB b] (.aQ [dB [],iL 7]):=by
 refine aE ao5 ?_;refine cg ?_;refine cp aK (abY _ _ fb fb aa aa) ?_;refine bw ?_;refine au rfl ?_ ?_<;>intro mA iR
 ·refine bu ?_;exact pt rfl (.nil 1) rfl (.pure rfl)
 exfalso;rw[ov bT]at iR;omega
theorem ar1{k br:Nat}{a b o:List Nat}(cf:k<o.length)(iC:br<=1)(hx:a.getD k 0<4294967296)(hyb:b.getD k 0<4294967296)(bD:bh o)(hv:val (o.take k)+val (b.take k)=val (a.take k)+4294967296^k*br){y d:Nat}
  (hy:y=br+b.getD k 0) (hd:d=(18446744073709551616+a.getD k 0-y)%18446744073709551616) :
  d/9223372036854775808<=1/\bh (o.set k (d%4294967296))/\val ((o.set k (d%4294967296)).take (k+1))+val (b.take (k+1))=val (a.take (k+1))+4294967296^(k+1)*(d/9223372036854775808):=by
 refine⟨aa,ja bD _ _ aa,?_⟩;rcases fH (a.getD k 0) y with h|h
 ·have h1:d%4294967296=4294967296+a.getD k 0-y:=aa;have h2:d/9223372036854775808=1:=aa;rw[h1,h2];exact ans cf hv hy h aa
 have h1:d%4294967296=a.getD k 0-y:=aa;have h2:d/9223372036854775808=0:=aa;rw[h1,h2];exact al4 cf hv hy h
open yR in
theorem awi(a b:List Nat)(ha:bh a)(hb:bh b)(eU:a.length<=1099511627776)(jT:b.length<=1099511627776)(hle:val b<=val a):ar ae 245 [dB a,dB b] (.aQ [aM (val a-val b),iL 0]):=by
 have uW:(ah (val b)).length<=a.length:=by
  apply sq;exact sT hle (yj ha)
 refine aE ao5 ?_;refine cg ?_;refine cp aK (abY _ _ fb fb aa aa) ?_;refine bw ?_;refine au rfl ?_ ?_<;>intro mA iR
 ·exfalso;rcases amQ hle with h|h
  ·rw[oE h]at iR;omega
  rw[pI h.symm]at iR;omega
 refine aV ?_;refine cp bK (nw _ fb aa) ?_;refine aP ?_;refine eD rfl rfl (.gC (n:=a.length) (m:=a.length) ml ml om om om) ?_;refine jX ?_;refine ow (fun(k:Nat) (o:List Nat) (br:Nat) L=>(mS L [(20,⟨1,o.map aO,true⟩)] [(23,ak k),(22,ak a.length),(21,.list 1 (a.map aO)),(7,bP br),(6,.ref 20 1 0 a.length),(1,aM (val b)),(0,.list 1 (a.map aO))])) (fun k o br=>k<=a.length/\o.length=a.length/\br<=1/\bh o/\val (o.take k)+val ((ah (val b)).take k)=val (a.take k)+4294967296^k*br) (fun k o br=>a.length-k) 0 (aJ a.length 0) 0 ⟨bJ _,by simp,aa,qI _,by simp[val]⟩ ?_;rintro k o br L1 ⟨hk,cf,iC,bD,hv⟩;have qp:=fi ha k;have hyk:=fv (val b) k;refine aA ?_;refine au rfl ?_ ?_<;>intro vk h24
 ·refine anT ?_;refine fk (fun L=>∃(y:Nat) (L1:St),(y=br+(ah (val b)).getD k 0)/\L=(mS L1 [(20,⟨1,o.map aO,true⟩)] [(10,bP y),(8,ak k),(9,aO (a.getD k 0)),(23,ak k),(22,ak a.length),(21,.list 1 (a.map aO)),(7,bP br),(6,.ref 20 1 0 a.length),(1,aM (val b)),(0,.list 1 (a.map aO))])) ?_ ?_
  ·refine au rfl ?_ ?_<;>intro yZ zH
   ·refine cg ?_;exact⟨br+(ah (val b)).getD k 0,_,rfl,ca⟩
   refine aR ?_;exact⟨br,_,by rw[uR _ k aa];rfl,ca⟩
  rintro _ ⟨y,aCN,hy,rfl⟩;refine aA ?_;refine ai rfl (.bin rfl rfl (aa7 aa)) ?_;refine tE ?_;exact nN (k+1) (o.set k ((18446744073709551616+a.getD k 0-y)%18446744073709551616%4294967296)) ((18446744073709551616+a.getD k 0-y)%18446744073709551616/9223372036854775808) ⟨aa,by simp[cf],ar1 aa iC qp hyk bD hv hy rfl⟩
 obtain rfl:k=a.length:=aa;refine bu ?_;refine n9 [20] oc (nw _ fb aa) ?_;refine aV ?_;have e:=amm ha bD cf uW (by rw[bq];exact hle) hv;rw[qw bD,bq]at e;have e2:=congrArg val e;rw[bq,bq]at e2;rw[<-e2];exact pt rfl (.pure (gw _)) rfl (.pure rfl)
theorem ari{c x y z:Nat}(hc:c<4294967296)(hx:x<4294967296)(hy:y<4294967296)(hz:z<4294967296):c+(x*y+z)<18446744073709551616:=by
 have:=qg hx hy;omega
theorem mul_zero{i x:Nat}{a b o:List Nat}(hx:x=a.getD i 0)(h0:x=0)(hv:val o=val (a.take i)*val b):val o=val (a.take (i+1))*val b:=by
 rw[m7,<-hx,h0];simpa using hv
theorem aiG{i m j x:Nat}{o:List Nat}(hj:j<m)(hz:∀p,i+m<=p->o.getD p 0=0):∀p,i+m<=p->(o.set (i+j) x).getD p 0=0:=fun p hp=>by
 rw[Go.Lg.getD_set_ne _ _ _ _ aa];exact hz p hp
theorem al5{i m x:Nat}{o:List Nat}(hz:∀p,i+m<=p->o.getD p 0=0):∀p,i+1+m<=p->(o.set (i+m) x).getD p 0=0:=fun p hp=>by
 rw[Go.Lg.getD_set_ne _ _ _ _ aa];exact hz p aa
theorem ajA(n p:Nat):(aJ n 0).getD p 0=0:=by
 rw[bf,List.getElem?_replicate];split<;>rfl
namespace ahy
theorem aD{p q:Prop}(k:q)(e:p=q:=by simp only[bc,aZ,aW,aS,dU,g7];exact rfl):p:=e.mpr k
end ahy
open ahy in
theorem agk(a b:List Nat)(ha:bh a)(hb:bh b)(eU:a.length<=1099511627776)(jT:b.length<=1099511627776):ar ae 64 [dB a,dB b] (aM (val a*val b)):=by
 unfold dB;refine aE Tryz.func64 ?_;have g7:True:=trivial;refine bp ?_;refine eD rfl rfl (.gC (n:=a.length+b.length) (m:=a.length+b.length) ml ml om om om) ?_;refine bp ?_;refine iy (fun(i:Nat) (o:List Nat) L=>(mS L [(16,⟨1,o.map aO,true⟩)] [(19,ak i),(18,ak a.length),(17,.list 1 (a.map aO)),(5,.ref 16 1 0 (a.length+b.length)),(1,.list 1 (b.map aO)),(0,.list 1 (a.map aO))])) (fun i o=>i<=a.length/\o.length=a.length+b.length/\bh o/\val o=val (a.take i)*val b/\∀p,i+b.length<=p->o.getD p 0=0) (fun i o=>a.length-i) 0 (aJ (a.length+b.length) 0) ⟨bJ _,by simp,qI _,by simp[val,aeA],fun p _=>ajA _ _⟩ ?_;rintro i o L1 ⟨hi,cf,bD,hv,hz⟩;have uG:=fi ha i;have g7:True:=trivial;refine aA ?_;refine au rfl ?_ ?_<;>intro w6 xF
 ·refine iQ ?_;refine au rfl ?_ ?_<;>intro ad1 o6
  ·refine bx ?_;exact fC (i+1) o ⟨aa,cf,bD,mul_zero rfl aa hv,fun p hp=>hz p aa⟩
  refine nB ?_;refine ow (fun(j:Nat) (o:List Nat) (c:Nat) L=>(mS L [(16,⟨1,o.map aO,true⟩)] [(28,ak j),(27,ak b.length),(26,.list 1 (b.map aO)),(8,bP c),(7,aO (a.getD i 0)),(6,ak i),(19,ak i),(18,ak a.length),(17,.list 1 (a.map aO)),(5,.ref 16 1 0 (a.length+b.length)),(1,.list 1 (b.map aO)),(0,.list 1 (a.map aO))])) (fun j o c=>j<=b.length/\o.length=a.length+b.length/\bh o/\c<4294967296/\val o+4294967296^(i+j)*c=val (a.take i)*val b+4294967296^i*(a.getD i 0*val (b.take j))/\∀p,i+b.length<=p->o.getD p 0=0) (fun j o c=>b.length-j) 0 o 0 ⟨bJ _,cf,bD,aa,by rw[hv];simp[val],hz⟩ ?_;rintro j o c L2 ⟨hj,cf,bD,hc,hv,hz⟩;have hyj:=fi hb j;have hzj:=fi bD (i+j);have hs:=ari hc uG hyj hzj;have g7:((i:Int)+(j:Int)).toNat=i+j:=aa;refine aA ?_;refine au rfl ?_ ?_<;>intro tw ri
  ·refine axT ?_;exact nN (j+1) (o.set (i+j) ((c+(a.getD i 0*b.getD j 0+o.getD (i+j) 0))%4294967296)) ((c+(a.getD i 0*b.getD j 0+o.getD (i+j) 0))/4294967296) ⟨aa,by simp[cf],ja bD _ _ (gl _ aa),aa,apu aa hv rfl,aiG aa hz⟩
  obtain rfl:j=b.length:=aa;have auV:((i:Int)+(b.length:Int)).toNat=i+b.length:=aa;refine ur ?_;exact fC (i+1) (o.set (i+b.length) (c%4294967296)) ⟨aa,by simp[cf],ja bD _ _ (gl _ aa),by rw[fa hc];exact akL aa aa (hz _ (bA _)) rfl rfl hv,al5 hz⟩
 obtain rfl:i=a.length:=aa;refine bu ?_;refine n9 [16] oc (nw _ fb oC) ?_;refine ay ?_;rw[je]at hv;rw[<-hv];exact dA
open aai in
theorem aAT(a:List Nat)(d:Nat)(ha:bh a)(eU:a.length<=1099511627776)(gu:0<d)(hd:d<4294967296):ar ae 249 [dB a,mj d] (.aQ [aM (val a/d),mj (val a%d)]):=by
 unfold dB;refine aE Tryz.func249 ?_;have ej:True:=trivial;have ek:True:=trivial;refine cb ?_;refine eD rfl rfl (.gC (n:=a.length) (m:=a.length) ml ml om om om) ?_;refine qP ?_;refine ow (fun(k:Nat) (q:List Nat) (r:Nat) L=>(mS L [(11,⟨1,q.map aO,true⟩)] [(8,iL ((k:Int)-1)),(7,bP r),(6,.ref 11 1 0 a.length),(1,mj d),(0,.list 1 (a.map aO))])) (fun k q r=>k<=a.length/\q.length=a.length/\bh q/\r<d/\val (q.drop k)*d+r=val (a.drop k)) (fun k q r=>k) a.length (aJ a.length 0) 0 ⟨bA _,by simp,qI _,gu,by simp[val]⟩ ?_;rintro k q r L1 ⟨hk,hJ,ka,hr,hv⟩;refine aP ?_;refine au rfl ?_ ?_<;>intro nn jJ
 ·obtain⟨j,rfl⟩:∃j,k=j+1:=⟨k-1,aa⟩;have ej:(((j+1:Nat):Int)-1).toNat=j:=aa;have ek:(((j+1:Nat):Int)-1)=j:=aa;have hxj:=fi ha j;refine wX ?_;refine ai rfl abh ?_;refine iQ ?_;exact nN j (q.set j ((r*4294967296+a.getD j 0)/d%4294967296)) ((r*4294967296+a.getD j 0)%d) ⟨aa,by simp[hJ],ja ka _ _ (gl _ aa),gl _ gu,by rw[fa (aja hr hxj)];exact aj0 aa hJ hv rfl⟩
 obtain rfl:k=0:=aa;have ej:True:=trivial;have ek:True:=trivial;refine bu ?_;refine n9 [11] oc (nw _ fb oC) ?_;refine aP ?_;obtain⟨E1,E2⟩:=aln gu hr ka hv;rw[qw ka]at E1;have E3:=congrArg val E1;rw[bq,bq]at E3;rw[<-E3,<-E2];have E4:r%4294967296=r:=fa aa;refine pt rfl (.pure (gw _)) rfl ?_;show bR _ (mj (r%4294967296)) (mj r);rw[E4];exact .pure rfl
theorem ab6{s:Nat}(hs:s<32):2^s<=2147483648/\0<2^s:=⟨tZ (n:=2) aa (show s<=31 by omega),lM aa⟩
theorem al3{m:Nat}(h:m<256):(0:Int)<=IntKind.u8.wrap (m:Int)/\(IntKind.u8.wrap (m:Int)).toNat=m:=by
 rw[IntKind.wrap_u8];omega
theorem aiF{x p:Nat}(hx:x<4294967296)(hp:p<=2147483648):x*p<=9223372034707292160:=by
 have:=Nat.mul_le_mul (Nat.le_sub_one_of_lt hx) hp;simpa using this
theorem anV{x p c:Nat}(hx:x<4294967296)(hc:c<p):(x*p+c)/4294967296<p:=by
 rw[jZ aa];have:(x+1)*p<=4294967296*p:=dT _ hx;rw[ep]at this;rw[er p];omega
open yR in
theorem aA3(a:List Nat)(s:Nat)(ha:bh a)(eU:a.length<=1099511627776)(hs:s<32):ke ae 251 [dB a,ak s] (.ref 1 1 0 (a.length+1)) [⟨1,(eZ (a.length+1) (val a*2^s)).map aO,true⟩]:=by
 unfold dB;refine xe Tryz.func251 ?_;refine cb ?_;refine eD rfl rfl (.gC (n:=a.length+1) (m:=a.length+1) ml ml om om om) ?_;refine jX ?_;refine ow (fun(k:Nat) (o:List Nat) (c:Nat) L=>(mS L [(12,⟨1,o.map aO,true⟩)] [(15,ak k),(14,ak a.length),(13,.list 1 (a.map aO)),(6,bP c),(5,.ref 12 1 0 (a.length+1)),(1,ak s),(0,.list 1 (a.map aO))])) (fun k o c=>k<=a.length/\o.length=a.length+1/\c<2^s/\bh o/\val (o.take k)+4294967296^k*c=val (a.take k)*2^s) (fun k o c=>a.length-k) 0 (aJ (a.length+1) 0) 0 ⟨bJ _,by simp,(ab6 hs).2,qI _,by simp[val]⟩ ?_;rintro k o c L1 ⟨hk,cf,hc,bD,hv⟩;have qp:=fi ha k;obtain⟨ir,hp2⟩:=ab6 hs;have hsx:=aiF qp ir;refine aA ?_;refine au rfl ?_ ?_<;>intro nn jJ
 ·refine nk ?_;refine ai rfl (.sh rfl rfl (aoV aa aa)) ?_;refine ai rfl (.bin rfl rfl (orV hc aa)) ?_;refine tE ?_;exact nN (k+1) (o.set k ((a.getD k 0*2^s+c)%4294967296)) ((a.getD k 0*2^s+c)/4294967296) ⟨aa,by simp[cf],anV qp hc,ja bD _ _ (gl _ aa),as3 aa hv rfl⟩
 obtain rfl:k=a.length:=aa;refine ur ?_;have wg:c%4294967296=c:=fa aa;have E:=axw cf hv;have E2:=aeB (ja bD a.length c aa) (by simp only[List.length_set];exact cf);rw[E]at E2;rw[<-E2];simp only[wg];exact aaw rfl rfl (bS eu _)
open H0 in
theorem aiu(n:Nat)(hn:n<18446744073709551616):ar ae 248 [bP n] (aM n):=by
 have hL:bh [n%4294967296,n/4294967296%4294967296]:=by
  intro x hx;simp at hx;omega
 have hV:val [n%4294967296,n/4294967296%4294967296]=n:=by rw[val_two];omega
 refine aE Tryz.func248 ?_;refine dk ?_;refine n9 [8] oc (nw _ fb oC) ?_;refine ay ?_
 skip
 exact cm rfl (by rw[hV];exact .pure (gw _))
namespace ajw
theorem pb{p q:Prop}(k:q)(e:p=q:=by simp only[bc,aZ,aW,aS,hbn];exact rfl):p:=e.mpr k
theorem nx{p:Prop}(h:p:=by first|(refine pb ?_;exact rfl)|exact rfl):p:=h
end ajw
open ajw H0 in
theorem aiP(n:Nat)(hn:n<4294967296):ar ae 145 [mj n] (iL (cx n)):=by
 refine aE Tryz.func145 ?_;refine bp ?_;refine fk (fun L=>∃(m:Nat) (q:Nat) (L1:St),(cx n=q+cx m/\m<65536/\q<=16)/\L=(mS L1 [] [(2,iL q),(0,mj m)])) ?_ ?_
 ·refine au rfl ?_ ?_<;>intro h4r h4
  ·refine bw ?_;refine ai rfl (.sh rfl rfl (aaT (m:=16) an)) ?_;refine aP ?_;exact⟨n/2^16,16,_,⟨aen aa,aa,aa⟩,ca⟩
  refine aR ?_;exact⟨n,0,_,⟨aa,aa,aa⟩,ca⟩
 rintro _ ⟨m,q,LC4,⟨rb,hm,hq⟩,rfl⟩;refine bu ?_;refine fk (fun L=>∃(m2:Nat) (q2:Nat) (L1:St),(cx n=q2+cx m2/\m2<256/\q2<=24)/\L=(mS L1 [] [(2,iL q2),(0,mj m2)])) ?_ ?_
 ·refine au rfl ?_ ?_<;>intro oS h8
  ·refine bw ?_;refine ai rfl (.sh rfl rfl (aaT (m:=8) an)) ?_;refine bx ?_;exact⟨m/2^8,q+8,_,⟨by rw[rb,aen (n:=m) (k:=8) aa];omega,aa,aa⟩,ca⟩
  refine aR ?_;exact⟨m,q,_,⟨rb,aa,aa⟩,ca⟩
 rintro _ ⟨m2,q2,LC8,⟨qT,fh,hq2⟩,rfl⟩;have hb8:cx m2<=8:=qM.2 fh;have hbn:(UInt8.ofNat (cx m2)).toNat=cx m2:=(by decide:∀k,k<=8->(UInt8.ofNat k).toNat=k) _ hb8;refine aA ?_;refine ai rfl (.adi (b:=UInt8.ofNat (cx m2)) rfl Tryz.underlying9 rfl (al3 fh).1 (by rw[(al3 fh).2];exact tbl bj fh)) ?_;refine ai rfl (.cvI aiD alB rfl aa aa) ?_;refine ai rfl pn ?_;refine aT ?_;refine nL nx ?_;refine aR ?_;rw[qT];exact cm rfl (by first|exact .pure rfl|(rw[hbn];exact .pure rfl))
open H0 in
theorem aBl(n:Nat)(hn:n<4294967296):ar ae 250 [mj n] (iL (32-cx n)):=by
 have hb:cx n<=32:=qM.2 hn;refine aE Tryz.func250 ?_;refine bu ?_;refine cp bK (aiP _ aa) ?_;refine aV ?_;exact dA
theorem ya(l:List Nat)(h:bh l)(hl:l.length<=1099511627776):(ah (val l)).length<=1099511627776:=bW (aqr h) hl
theorem ai9{n:Nat}(h:0<(ah n).length):32*((ah n).length-1)+cx ((ah n).getD ((ah n).length-1) 0)=cx n:=by
 have:=auB (b7 n) (abp n) h;rw[bq]at this;omega
open abV in
theorem aay(a:List Nat)(ha:bh a)(eU:a.length<=1099511627776):ar ae 54 [dB a] (iL (cx (val a))):=by
 have bT:=ya a ha eU;refine aE Tryz.func54 ?_;have ej:True:=trivial;refine bu ?_;refine cp bK (nw _ fb oC) ?_;refine cg ?_;refine au rfl ?_ ?_<;>intro h7r h7
 ·have h0:val a=0:=oX.1 (kJ aa);have hz:cx (val a)=0:=sc.2 h0;refine aP ?_;rw[hz];exact dA
 have lW:0<(ah (val a)).length:=aa;have ej:(((ah (val a)).length:Int)-1).toNat=(ah (val a)).length-1:=aa;have hz:=ai9 lW;have xR:=fv (val a) ((ah (val a)).length-1);have ahD:cx ((ah (val a)).getD ((ah (val a)).length-1) 0)<=32:=qM.2 xR;refine dx ?_;refine cp bK (aiP _ (by rw[ej];exact xR)) ?_;refine ai rfl (.bin rfl rfl (qD (by simp only[ej,dU];omega) (by simp only[ej,dU];omega))) ?_;refine ay ?_;refine cm ?_ (.pure rfl);simp only[e1,e2,e3,e4,p1,p2,p3,q1,q2,q3,aS];congr 2;omega
namespace anx
theorem pb{p q:Prop}(k:q)(e:p=q:=by simp only[bc,aZ,aW,aS,List.take_zero,gE,eF,cT eu,LV.kill];exact rfl):p:=e.mpr k
theorem nx{p:Prop}(h:p:=by first|(refine pb ?_;exact rfl)|exact rfl):p:=h
end anx
open anx H0 in
theorem aa1(a:List Nat)(eU:a.length<=1099511627776):ar ae 246 [dB a] (dB a):=by
 unfold dB;refine aE Tryz.func246 ?_;refine aP ?_;refine ad2 (alT (sz:=1) (l:=a.map aO) rfl m9 (fun b hb=>?_));refine aT ?_;refine au rfl ?_ ?_<;>intro h4r h4
 ·have uX:a=[]:=by simpa using hb h4r
  subst uX;refine aP ?_;exact cm rfl (.nil 1)
 refine aA ?_;refine dH rfl (.app rfl rfl rfl rfl rfl (bJ _) (.inr rfl) an m9 m9 aau oy rfl aac (.inr (.inl rfl)) bm bm an) ?_;refine aT ?_;refine nL nx ?_;refine aR ?_;exact nq [7] rfl rfl (eM eu rfl rfl az)
open yR in
theorem acV(a b:List Nat)(eU:a.length<=1099511627776)(jT:b.length<=1099511627776):ar ae 57 [dB a,dB b] (bL (decide (a=b))):=by
 unfold dB;refine aE Tryz.func57 ?_;refine gA ?_;refine au rfl ?_ ?_<;>intro qL vb
 ·have hE:a≠b:=by rintro rfl;omega
  refine aP ?_
  first|(rw[decide_eq_true hE];exact cm rfl (.pure rfl))|(rw[decide_eq_false hE];exact cm rfl (.pure rfl))
 have hl:a.length=b.length:=aa;clear vb qL;refine cg ?_;refine da (fun(k:Nat) L=>(mS L [] [(13,ak k),(12,ak a.length),(11,.list 1 (a.map aO)),(1,.list 1 (b.map aO)),(0,.list 1 (a.map aO))])) (fun k=>k<=a.length/\a.take k=b.take k) (fun k=>a.length-k) 0 ⟨bJ _,rfl⟩ ?_;rintro k L1 ⟨hk,ht⟩;refine aA ?_;refine au rfl ?_ ?_<;>intro rV nb
 ·refine ur ?_;refine au rfl ?_ ?_<;>intro vk h24
  ·have hE:a≠b:=by rintro rfl;omega
   refine cg ?_
   first|(rw[decide_eq_true hE];exact cm rfl (.pure rfl))|(rw[decide_eq_false hE];exact cm rfl (.pure rfl))
  refine bu ?_;exact fj (k+1) ⟨aa,asO aa aa ht aa⟩
 obtain rfl:k=a.length:=aa;have hE:a=b:=by rw[je,hl,je]at ht;exact ht
 refine cg ?_
 first|(rw[decide_eq_true hE];exact cm rfl (.pure rfl))|(rw[decide_eq_false hE];exact cm rfl (.pure rfl))
namespace ai3
theorem aD{p q:Prop}(k:q)(e:p=q:=by simp only[bc,aZ,aW,aS,ej,ek,dU];exact rfl):p:=e.mpr k
end ai3
open ai3 in
theorem aut(l:List Nat)(hl:l.length<=4611686018427387904)(h0:0<l.length):jt ae 144 ⟨1,l.map aO,true⟩ [.ref 0 1 0 l.length] (.ref 0 1 0 (fD l.length l)) ⟨1,l.map aO,true⟩:=by
 refine tr ao7 ?_;have ej:True:=trivial;have ek:True:=trivial;refine dx ?_;refine da (fun(k:Nat) L=>(mS L [(0,⟨1,l.map aO,true⟩)] [(3,ak k),(0,.ref 0 1 0 l.length)])) (fun k=>k<=l.length/\fD l.length l=fD k l) (fun k=>k) l.length ⟨bA _,rfl⟩ ?_;rintro k L1 ⟨hk,kN⟩;refine aA ?_;refine cz 8 rfl ?_ ?_<;>intro oS h8
 ·obtain⟨j,rfl⟩:∃j,k=j+1:=⟨k-1,aa⟩;have ej:(((j+1:Nat):Int)-1).toNat=j:=aa;have ek:(((j+1:Nat):Int)-1)=j:=aa;refine bx ?_;refine au rfl ?_ ?_<;>intro mA iR
  ·refine cb ?_;exact fj j ⟨aa,kN.trans (by simp only[fD];rw[if_pos (by simpa using iR)])⟩
  refine bx ?_;refine ai rfl aas ?_;refine ay ?_;rw[kN,fD,if_neg (by simpa using iR)];exact oG rfl .ref rfl rfl (bS eu _)
 have kF:k=0:=aa;subst kF;refine nk ?_;refine ai rfl aas ?_;refine ay ?_;rw[kN];exact oG rfl .ref rfl rfl (bS eu _)
theorem awQ(l:List Nat)(n:Nat)(hn:n=l.length)(hl:n<=4611686018427387904)(h0:0<n):jt ae 144 ⟨1,l.map aO,true⟩ [.ref 0 1 0 n] (.ref 0 1 0 (fD n l)) ⟨1,l.map aO,true⟩:=by
 subst hn;exact aut l hl h0
theorem anL(x s:Nat)(eU:(ah x).length<=1099511627776)(hs:s<32):ke ae 251 [aM x,ak s] (.ref 1 1 0 ((ah x).length+1)) [⟨1,(eZ ((ah x).length+1) (x*2^s)).map aO,true⟩]:=by
 have:=aA3 (ah x) s (b7 x) eU hs;rw[bq]at this;exact this
theorem val_one(x:Nat):val [x]=x:=by simp[val]
theorem akE{x:Nat}(h:x<=32):(32:Int)-(x:Int)=((32-x:Nat):Int):=aa
namespace yu
theorem aD{p q:Prop}(k:q)(e:p=q:=by simp only[bc,aZ,aW,aS,dU,bq,ej,ek,es,eV,kT,kp,mV,nP,oD,kG,mc,g7,pL,pA,lB,nd,List.set_set,List.length_set,Nat.add_mod_mod,nI,nT,iZ,gi];exact rfl):p:=e.mpr k
theorem pb{p q:Prop}(k:q)(e:p=q:=by simp only[bc,aZ,aW,aS,dU,bq,ej,ek,es,eV,kT,kp,mV,nP,oD,kG,mc,g7,pL,pA,lB,nd,List.set_set,List.length_set,Nat.add_mod_mod,nI,nT,iZ,gi,oD];exact rfl):p:=e.mpr k
theorem nx{p:Prop}(h:p:=by first|(refine pb ?_;exact rfl)|exact rfl):p:=h
theorem agV{p q:Prop}(k:q)(e:p=q:=by simp only[bc,aZ,aW,aS,dU,bq,ej,ek,es,eV,kT,kp,mV,nP,oD,kG,mc,g7,pL,pA,lB,nd,List.set_set,List.length_set,Nat.add_mod_mod,nI,nT,iZ,gi,val_one];exact rfl):p:=e.mpr k
theorem nf2{p:Prop}(h:p:=by first|(refine agV ?_;exact rfl)|exact rfl):p:=h
theorem as2{p q:Prop}(k:q)(e:p=q:=by simp only[bc,aZ,aW,aS,dU,bq,ej,ek,es,eV,kT,kp,mV,nP,oD,kG,mc,g7,pL,pA,lB,nd,List.set_set,List.length_set,Nat.add_mod_mod,nI,nT,iZ,gi,abf,nP];exact rfl):p:=e.mpr k
theorem nf3{p:Prop}(h:p:=by first|(refine as2 ?_;exact rfl)|exact rfl):p:=h
theorem ajJ{p q:Prop}(k:q)(e:p=q:=by simp only[bc,aZ,aW,aS,dU,bq,ej,ek,es,eV,kT,kp,mV,nP,oD,kG,mc,g7,pL,pA,lB,nd,List.set_set,List.length_set,Nat.add_mod_mod,nI,nT,iZ,gi,gi];exact rfl):p:=e.mpr k
theorem nf4{p:Prop}(h:p:=by first|(refine ajJ ?_;exact rfl)|exact rfl):p:=h
theorem dy{p:Prop}(h:p:=by first|rfl|(refine ajJ ?_;first|exact trivial|rfl|(congr 3<;>omega)|(congr 2<;>omega))):p:=h
theorem ath{p q:Prop}(k:q)(e:p=q:=by simp only[bc,aZ,aW,aS,dU,bq,ej,ek,es,eV,kT,kp,mV,nP,oD,kG,mc,g7,pL,pA,lB,nd,List.set_set,List.length_set,Nat.add_mod_mod,nI,nT,iZ,gi,gi,nP];exact rfl):p:=e.mpr k
theorem ox{p:Prop}(h:p:=by first|rfl|(refine ath ?_;first|exact trivial|rfl|(congr 3<;>omega)|(congr 2<;>omega))):p:=h
theorem avy{p q:Prop}(k:q)(e:p=q:=by simp only[bc,aZ,aW,aS,dU,bq,ej,ek,es,eV,kT,kp,mV,nP,oD,kG,mc,g7,pL,pA,lB,nd,List.set_set,List.length_set,Nat.add_mod_mod,nI,nT,iZ,gi,<-hT];exact rfl):p:=e.mpr k
theorem nf6{p:Prop}(h:p:=by first|(refine avy ?_;exact rfl)|exact rfl):p:=h
end yu
open yu in
theorem aAZ(b ul ql:List Nat)(n s m q0 j:Nat)(gi:(ah (val b*2^s)).length=n+2)(iz:n+2<=m)(nC:m<=1099511627776)(mQ:q0=m+1-(n+2))(hk:j+1<=q0)(iN:ul.length=m+1)(hJ:ql.length=q0)(eB:bh ul)(ka:bh ql)(pB:2147483648<=(ah (val b*2^s)).getD (n+1) 0)(gQ:0<(val b*2^s))(qE:(val b*2^s)<4294967296^(n+2))(bT:val ul<(val b*2^s)*4294967296^(j+1)){Q:gI->St->Prop}(L1:St)
  (hQ:∀(x:Nat) (L2:St),(val ul/4294967296^j/(val b*2^s)<=x/\x<=val ul/4294967296^j/(val b*2^s)+1/\x<4294967296)->Q .normal (mS L2 [(1001057,⟨1,ul.map aO,true⟩),(1001105,⟨1,(eZ ((ah (val b)).length+1) (val b*2^s)).map aO,false⟩),(77,⟨1,ql.map aO,true⟩)] [(15,bP x),(13,iL (((j+1:Nat):Int)-1)),(12,ak (n+2)),(11,aM (val b*2^s)),(10,.ref 1001057 1 0 (m+1)),(9,ak s),(4,.ref 77 1 0 q0)])) :
  bM ae ((w8 abx [1,1,1,1,1,1,1,0,1,0,0,1,0,0,1,1,0]).getD .skip) Q (mS L1 [(1001057,⟨1,ul.map aO,true⟩),(1001105,⟨1,(eZ ((ah (val b)).length+1) (val b*2^s)).map aO,false⟩),(77,⟨1,ql.map aO,true⟩)] [(16,bP ((ul.getD (n+2+j) 0*4294967296+ul.getD (n+1+j) 0)%(ah (val b*2^s)).getD (n+1) 0)),(15,bP ((ul.getD (n+2+j) 0*4294967296+ul.getD (n+1+j) 0)/(ah (val b*2^s)).getD (n+1) 0)),(13,iL (((j+1:Nat):Int)-1)),(12,ak (n+2)),(11,aM (val b*2^s)),(10,.ref 1001057 1 0 (m+1)),(9,ak s),(4,.ref 77 1 0 q0)]):=by
 have ej:True:=trivial;have ek:True:=trivial;have es:True:=trivial;have eV:True:=trivial;have kT:True:=trivial;have kp:True:=trivial;have mV:True:=trivial;have nP:True:=trivial;have oD:True:=trivial;have kG:True:=trivial;have mc:True:=trivial;have g7:True:=trivial;have pL:True:=trivial;have pA:True:=trivial;have lB:True:=trivial;have nd:True:=trivial;have nI:True:=trivial;have nT:True:=trivial;have iZ:True:=trivial;have kT:((j:Int)+((n+2:Nat):Int)).toNat=n+2+j:=aa;have kp:((j:Int)+((n+2:Nat):Int)-1).toNat=n+1+j:=aa;have mV:((j:Int)+((n+2:Nat):Int)-2).toNat=n+j:=aa;have kG:(((n+2:Nat):Int)-1).toNat=n+1:=aa;have mc:(((n+2:Nat):Int)-2).toNat=n:=aa;have ek:(((j+1:Nat):Int)-1)=(j:Int):=aa;have acd:=fv ((val b*2^s)) (n+1);have u6:=fv ((val b*2^s)) n;have hu0:=fi eB (n+2+j);have zn:=fi eB (n+1+j);have tK:=fi eB (n+j);obtain⟨vl,rl,rD,hrl,y9,zj,xk⟩:=ag6 (j:=j) gi aa eB bT;have hun:=aA2 y9 zj rD u6 xk;have ahp:=azK y9 zj hrl tK aa;have hqB:val ul/4294967296^j/(val b*2^s)<4294967296:=by rw[jZ gQ,er];exact xk
 refine aa4 rfl ?_;refine aT ?_;refine iy (fun(x rest:Nat) L=>(mS L [(1001057,⟨1,ul.map aO,true⟩),(1001105,⟨1,(eZ ((ah (val b)).length+1) (val b*2^s)).map aO,false⟩),(77,⟨1,ql.map aO,true⟩)] [(16,bP rest),(15,bP x),(13,iL (((j+1:Nat):Int)-1)),(12,ak (n+2)),(11,aM (val b*2^s)),(10,.ref 1001057 1 0 (m+1)),(9,ak s),(4,.ref 77 1 0 q0)])) (fun x rest=>val ul/4294967296^j/(val b*2^s)<=x/\x*(ah (val b*2^s)).getD (n+1) 0+rest=(ul.getD (n+2+j) 0*4294967296+ul.getD (n+1+j) 0)/\rest<4294967296) (fun x rest=>x) ((ul.getD (n+2+j) 0*4294967296+ul.getD (n+1+j) 0)/(ah (val b*2^s)).getD (n+1) 0) ((ul.getD (n+2+j) 0*4294967296+ul.getD (n+1+j) 0)%(ah (val b*2^s)).getD (n+1) 0) ⟨ahp,by rw[er];exact yT _ _,Nat.lt_trans (gl _ aa) acd⟩ ?_;rintro x rest L2 ⟨hx,hxr,aBT⟩;have hxt:x<=x*(ah (val b*2^s)).getD (n+1) 0:=alP _ aa;refine aA ?_;refine cz 120 rfl ?_ ?_<;>intro aBE aBF
 ·have xE:val ul/4294967296^j/(val b*2^s)<=x-1:=aa;have yP:1<=x:=aa;refine anT ?_;have yn:(x-1)*(ah (val b*2^s)).getD (n+1) 0+(rest+(ah (val b*2^s)).getD (n+1) 0)=(ul.getD (n+2+j) 0*4294967296+ul.getD (n+1+j) 0):=by
   have e:(x-1)*(ah (val b*2^s)).getD (n+1) 0+(ah (val b*2^s)).getD (n+1) 0=x*(ah (val b*2^s)).getD (n+1) 0:=by rw[<-sZ];congr 1;omega
   omega
  refine tE ?_;refine au rfl ?_ ?_<;>intro atG axM
  ·have gR:=aqz (u2:=ul.getD (n+j) 0) yn hun zn u6 aa;refine ay ?_;exact vW (hQ (x-1) _ ⟨xE,af8 y9 zj rD aa gQ yn (sO gR.1) gR.2,gR.1⟩) pJ
  refine bw ?_;exact fC (x-1) (rest+(ah (val b*2^s)).getD (n+1) 0) ⟨xE,yn,aa⟩
 have hmul:=qg (show x<4294967296 by omega) u6;refine ur ?_;refine au rfl ?_ ?_<;>intro aCt azB
 ·have yP:1<=x:=by
   rcases Nat.eq_zero_or_pos x with e|e
   ·rw[e,aaj]at azB;omega
   exact e
  have xE:val ul/4294967296^j/(val b*2^s)<=x-1:=by have:=asJ y9 zj hrl gQ hxr aa;omega
  refine ay ?_;have yn:(x-1)*(ah (val b*2^s)).getD (n+1) 0+(rest+(ah (val b*2^s)).getD (n+1) 0)=(ul.getD (n+2+j) 0*4294967296+ul.getD (n+1+j) 0):=by
   have e:(x-1)*(ah (val b*2^s)).getD (n+1) 0+(ah (val b*2^s)).getD (n+1) 0=x*(ah (val b*2^s)).getD (n+1) 0:=by rw[<-sZ];congr 1;omega
   omega
  refine tE ?_;refine au rfl ?_ ?_<;>intro atG axM
  ·have gR:=aqz (u2:=ul.getD (n+j) 0) yn hun zn u6 aa;refine ay ?_;exact vW (hQ (x-1) _ ⟨xE,af8 y9 zj rD aa gQ yn (sO gR.1) gR.2,gR.1⟩) pJ
  refine bw ?_;exact fC (x-1) (rest+(ah (val b*2^s)).getD (n+1) 0) ⟨xE,yn,aa⟩
 refine ay ?_;exact vW (hQ (x) _ ⟨hx,af8 y9 zj rD aa gQ hxr aa aa,aa⟩) pJ
open yu in
theorem awH(b ul ql:List Nat)(n s m q0 j:Nat)(gi:(ah (val b*2^s)).length=n+2)(iz:n+2<=m)(nC:m<=1099511627776)(mQ:q0=m+1-(n+2))(hk:j+1<=q0)(iN:ul.length=m+1)(hJ:ql.length=q0)(eB:bh ul)(ka:bh ql)(pB:2147483648<=(ah (val b*2^s)).getD (n+1) 0)(gQ:0<(val b*2^s))(qE:(val b*2^s)<4294967296^(n+2))(bT:val ul<(val b*2^s)*4294967296^(j+1))(x:Nat)(zi:val ul/4294967296^j/(val b*2^s)<=x)(zM:x<4294967296){Q:gI->St->Prop}(L1:St)
  (hQ:∀(wl:List Nat) (c:Nat) (br:Nat) (L2:St),(wl.length=m+1/\bh wl/\c<4294967296/\br<=1/\val wl+4294967296^j*(x*(val b*2^s))=val ul+4294967296^(n+2+j)*(c+br)/\∀p,n+2+j<=p->wl.getD p 0=ul.getD p 0)->Q .normal (mS L2 [(1001057,⟨1,wl.map aO,true⟩),(1001105,⟨1,(eZ ((ah (val b)).length+1) (val b*2^s)).map aO,false⟩),(77,⟨1,ql.map aO,true⟩)] [(18,bP c),(17,bP br),(15,bP x),(13,iL (((j+1:Nat):Int)-1)),(12,ak (n+2)),(11,aM (val b*2^s)),(10,.ref 1001057 1 0 (m+1)),(9,ak s),(4,.ref 77 1 0 q0)])) :
  bM ae ((w8 abx [1,1,1,1,1,1,1,0,1,0,0,1,0,0,1,1,1,1,0,1]).getD .skip) Q (mS L1 [(1001057,⟨1,ul.map aO,true⟩),(1001105,⟨1,(eZ ((ah (val b)).length+1) (val b*2^s)).map aO,false⟩),(77,⟨1,ql.map aO,true⟩)] [(156,ak 0),(155,ak (n+2)),(154,aM (val b*2^s)),(18,bP 0),(17,bP 0),(15,bP x),(13,iL (((j+1:Nat):Int)-1)),(12,ak (n+2)),(11,aM (val b*2^s)),(10,.ref 1001057 1 0 (m+1)),(9,ak s),(4,.ref 77 1 0 q0)]):=by
 have ej:True:=trivial;have ek:True:=trivial;have es:True:=trivial;have eV:True:=trivial;have kT:True:=trivial;have kp:True:=trivial;have mV:True:=trivial;have nP:True:=trivial;have oD:True:=trivial;have kG:True:=trivial;have mc:True:=trivial;have g7:True:=trivial;have pL:True:=trivial;have pA:True:=trivial;have lB:True:=trivial;have nd:True:=trivial;have nI:True:=trivial;have nT:True:=trivial;have iZ:True:=trivial;have kT:((j:Int)+((n+2:Nat):Int)).toNat=n+2+j:=aa;have kp:((j:Int)+((n+2:Nat):Int)-1).toNat=n+1+j:=aa;have mV:((j:Int)+((n+2:Nat):Int)-2).toNat=n+j:=aa;have kG:(((n+2:Nat):Int)-1).toNat=n+1:=aa;have mc:(((n+2:Nat):Int)-2).toNat=n:=aa;have ek:(((j+1:Nat):Int)-1)=(j:Int):=aa;have acd:=fv ((val b*2^s)) (n+1);have u6:=fv ((val b*2^s)) n;have hu0:=fi eB (n+2+j);have zn:=fi eB (n+1+j);have tK:=fi eB (n+j);refine aa4 rfl ?_;refine aT ?_
 refine lp4 (fun(i:Nat) (wl:List Nat) (c br:Nat) L=>(mS L [(1001057,⟨1,wl.map aO,true⟩),(1001105,⟨1,(eZ ((ah (val b)).length+1) (val b*2^s)).map aO,false⟩),(77,⟨1,ql.map aO,true⟩)] [(156,ak i),(155,ak (n+2)),(154,aM (val b*2^s)),(18,bP c),(17,bP br),(15,bP x),(13,iL (((j+1:Nat):Int)-1)),(12,ak (n+2)),(11,aM (val b*2^s)),(10,.ref 1001057 1 0 (m+1)),(9,ak s),(4,.ref 77 1 0 q0)])) (fun i wl c br=>i<=n+2/\wl.length=m+1/\bh wl/\c<4294967296/\br<=1/\val wl+4294967296^j*(x*val ((ah (val b*2^s)).take i))=val ul+4294967296^(i+j)*(c+br)/\∀p,n+2+j<=p->wl.getD p 0=ul.getD p 0) (fun i wl c br=>n+2-i) 0 ul 0 0 ⟨bJ _,iN,eB,aa,aa,by simp[val],fun _ _=>rfl⟩ (h0:=⟨_,av.of_eq (b8 (b8 (b8 (b8 (b8 (b8 (b8 (b8 (b8 (b8 (b8 (b8 (nr dy) dy) dy) dy) dy) dy) dy) dy) dy) dy) dy) dy) dy)⟩) ?_;rintro i wl c br L3 ⟨hi,fO,k9,hc,iC,vj,yG⟩;have g7:((i:Int)+(j:Int)).toNat=i+j:=aa;have hvi:=fv (val b*2^s) i;have hmul:=qg zM hvi;have hwi:=fi k9 (i+j);refine aA ?_;refine au rfl ?_ ?_<;>intro aCl aBK
 ·refine anI ?_;refine ai rfl (.bin rfl rfl (aw4)) ?_;refine ai rfl (.bin rfl rfl (aa7 aa)) ?_;refine aT ?_;refine ai rfl (.bin rfl rfl (aa7 aa)) ?_;refine anI ?_;exact nx4 (i+1) (wl.set (i+j) (((18446744073709551616+(18446744073709551616+wl.getD (i+j) 0-(c+x*(ah (val b*2^s)).getD i 0)%4294967296)%18446744073709551616-br)%18446744073709551616)%4294967296)) ((c+x*(ah (val b*2^s)).getD i 0)/4294967296) (((18446744073709551616+(18446744073709551616+wl.getD (i+j) 0-(c+x*(ah (val b*2^s)).getD i 0)%4294967296)%18446744073709551616-br)%18446744073709551616)/9223372036854775808) (by
   obtain⟨g1,g2,g3⟩:=ar5 aa k9 iC vj (c1:=(c+x*(ah (val b*2^s)).getD i 0)) rfl rfl;exact⟨aa,by simp[fO],g2,aa,g1,g3,fun p hp=>by rw[Go.Lg.getD_set_ne _ _ _ _ aa];exact yG p hp⟩) (he:=av.of_eq (b8 (b8 (b8 (b8 (b8 (b8 (b8 (b8 (b8 (b8 (b8 (b8 (nr dy) dy) dy) dy) dy) dy) dy) dy) dy) dy) dy) dy) dy))
 obtain rfl:i=n+2:=aa;rw[cW aa,bq]at vj;refine ay ?_;exact vW (hQ (wl) (c) (br) _ ⟨fO,k9,hc,iC,vj,yG⟩) pJ
open yu in
theorem ayX(b ul ql:List Nat)(n s m q0 j:Nat)(gi:(ah (val b*2^s)).length=n+2)(iz:n+2<=m)(nC:m<=1099511627776)(mQ:q0=m+1-(n+2))(hk:j+1<=q0)(iN:ul.length=m+1)(hJ:ql.length=q0)(eB:bh ul)(ka:bh ql)(pB:2147483648<=(ah (val b*2^s)).getD (n+1) 0)(gQ:0<(val b*2^s))(qE:(val b*2^s)<4294967296^(n+2))(bT:val ul<(val b*2^s)*4294967296^(j+1))(x:Nat)(zi:val ul/4294967296^j/(val b*2^s)<=x)(hx2:x<=val ul/4294967296^j/(val b*2^s)+1)(zM:x<4294967296)(wl:List Nat)(c br:Nat)(fO:wl.length=m+1)(k9:bh wl)(hc:c<4294967296)(iC:br<=1)(vj:val wl+4294967296^j*(x*(val b*2^s))=val ul+4294967296^(n+2+j)*(c+br))(yG:∀p,n+2+j<=p->wl.getD p 0=ul.getD p 0){Q:gI->St->Prop}(L1:St)
  (hQ:∀(w4:List Nat) (x4:Nat) (L2:St),(x4=val ul/4294967296^j/(val b*2^s)/\w4.length=m+1/\bh w4/\val w4+4294967296^j*(x4*(val b*2^s))=val ul)->Q .normal (mS L2 [(1001057,⟨1,w4.map aO,true⟩),(1001105,⟨1,(eZ ((ah (val b)).length+1) (val b*2^s)).map aO,false⟩),(77,⟨1,ql.map aO,true⟩)] [(15,bP x4),(13,iL (((j+1:Nat):Int)-1)),(12,ak (n+2)),(11,aM (val b*2^s)),(10,.ref 1001057 1 0 (m+1)),(9,ak s),(4,.ref 77 1 0 q0)])) :
  bM ae ((w8 abx [1,1,1,1,1,1,1,0,1,0,0,1,0,0,1,1,1,1,1,1,1,0,1]).getD .skip) Q (mS L1 [(1001057,⟨1,(wl.set (n+2+j) (((18446744073709551616+(18446744073709551616+wl.getD (n+2+j) 0-c)%18446744073709551616-br)%18446744073709551616)%4294967296)).map aO,true⟩),(1001105,⟨1,(eZ ((ah (val b)).length+1) (val b*2^s)).map aO,false⟩),(77,⟨1,ql.map aO,true⟩)] [(211,.v (.bool (((((18446744073709551616+(18446744073709551616+wl.getD (n+2+j) 0-c)%18446744073709551616-br)%18446744073709551616)/9223372036854775808:Nat):Int) != 0))),(22,bP ((18446744073709551616+(18446744073709551616+wl.getD (n+2+j) 0-c)%18446744073709551616-br)%18446744073709551616)),(15,bP x),(13,iL (((j+1:Nat):Int)-1)),(12,ak (n+2)),(11,aM (val b*2^s)),(10,.ref 1001057 1 0 (m+1)),(9,ak s),(4,.ref 77 1 0 q0)]):=by
 have ej:True:=trivial;have ek:True:=trivial;have es:True:=trivial;have eV:True:=trivial;have kT:True:=trivial;have kp:True:=trivial;have mV:True:=trivial;have nP:True:=trivial;have oD:True:=trivial;have kG:True:=trivial;have mc:True:=trivial;have g7:True:=trivial;have pL:True:=trivial;have pA:True:=trivial;have lB:True:=trivial;have nd:True:=trivial;have nI:True:=trivial;have nT:True:=trivial;have iZ:True:=trivial;have kT:((j:Int)+((n+2:Nat):Int)).toNat=n+2+j:=aa;have kp:((j:Int)+((n+2:Nat):Int)-1).toNat=n+1+j:=aa;have mV:((j:Int)+((n+2:Nat):Int)-2).toNat=n+j:=aa;have kG:(((n+2:Nat):Int)-1).toNat=n+1:=aa;have mc:(((n+2:Nat):Int)-2).toNat=n:=aa;have ek:(((j+1:Nat):Int)-1)=(j:Int):=aa;have acd:=fv ((val b*2^s)) (n+1);have u6:=fv ((val b*2^s)) n;have hu0:=fi eB (n+2+j);have zn:=fi eB (n+1+j);have tK:=fi eB (n+j);have hz:=adr (n:=n+2) (j:=j) qE bT;obtain⟨acT,wN,hv6⟩:=ajs (n:=n+2) aa k9 iC hc vj rfl rfl;have iS:=fi k9 (n+2+j);refine aa4 rfl ?_;refine au rfl ?_ ?_<;>intro aB0 aBN
 ·have nu:((18446744073709551616+(18446744073709551616+wl.getD (n+2+j) 0-c)%18446744073709551616-br)%18446744073709551616)/9223372036854775808=1:=aa;have hgt:=avM (V:=(val b*2^s)) (n:=n+2) (j:=j) (x:=x) (ul:=(wl.set (n+2+j) (((18446744073709551616+(18446744073709551616+wl.getD (n+2+j) 0-c)%18446744073709551616-br)%18446744073709551616)%4294967296))) (ul0:=ul) (by rw[hv6,nu,kx]) (axY acT (fun p hp=>by rw[Go.Lg.getD_set_ne _ _ _ _ aa,yG p aa];exact hz p hp)) gQ;have yP:1<=x:=sT (bJ _) hgt;refine bw ?_;refine ai rfl (.bin rfl rfl (amL (show 1<=x by omega) aa)) ?_;refine jX ?_
  refine ow (fun(ii:Nat) (w3:List Nat) (c3:Nat) L=>(mS L [(1001057,⟨1,w3.map aO,true⟩),(1001105,⟨1,(eZ ((ah (val b)).length+1) (val b*2^s)).map aO,false⟩),(77,⟨1,ql.map aO,true⟩)] [(216,ak ii),(215,ak (n+2)),(214,aM (val b*2^s)),(18,bP c3),(15,bP (x-1)),(13,iL (((j+1:Nat):Int)-1)),(12,ak (n+2)),(11,aM (val b*2^s)),(10,.ref 1001057 1 0 (m+1)),(9,ak s),(4,.ref 77 1 0 q0)])) (fun ii w3 c3=>ii<=n+2/\w3.length=m+1/\bh w3/\c3<=1/\val w3+4294967296^(ii+j)*c3=val (wl.set (n+2+j) (((18446744073709551616+(18446744073709551616+wl.getD (n+2+j) 0-c)%18446744073709551616-br)%18446744073709551616)%4294967296))+4294967296^j*val ((ah (val b*2^s)).take ii)/\∀p,n+2+j+1<=p->w3.getD p 0=0) (fun ii w3 c3=>n+2-ii) 0 (wl.set (n+2+j) (((18446744073709551616+(18446744073709551616+wl.getD (n+2+j) 0-c)%18446744073709551616-br)%18446744073709551616)%4294967296)) 0 ⟨bJ _,by simp[fO],acT,aa,by simp[val],fun p hp=>by rw[Go.Lg.getD_set_ne _ _ _ _ aa,yG p aa];exact hz p hp⟩ (h0:=⟨_,av.of_eq (b8 (b8 (b8 (b8 (b8 (b8 (b8 (b8 (b8 (b8 (b8 (nr dy) dy) dy) dy) dy) dy) dy) dy) dy) dy) dy) dy)⟩) ?_;rintro ii w3 c3 L4 ⟨hi3,hw3,pW,hc3,hv7,hz7⟩;have pL:((ii:Int)+(j:Int)).toNat=ii+j:=aa;have aCC:=fv (val b*2^s) ii;have aCg:=fi pW (ii+j);refine aA ?_
  refine au rfl ?_ ?_<;>intro aCb aBZ
  ·refine awn ?_;exact nN (ii+1) (w3.set (ii+j) ((c3+(w3.getD (ii+j) 0+(ah (val b*2^s)).getD ii 0))%4294967296)) ((c3+(w3.getD (ii+j) 0+(ah (val b*2^s)).getD ii 0))/4294967296) (by
    obtain⟨g1,g2⟩:=arW aa pW hv7 (s:=(c3+(w3.getD (ii+j) 0+(ah (val b*2^s)).getD ii 0))) rfl;exact⟨aa,by simp[hw3],g1,aa,g2,fun p hp=>by rw[Go.Lg.getD_set_ne _ _ _ _ aa];exact hz7 p hp⟩) (he:=av.of_eq (b8 (b8 (b8 (b8 (b8 (b8 (b8 (b8 (b8 (b8 (b8 (nr dy) dy) dy) dy) dy) dy) dy) dy) dy) dy) dy) dy))
  obtain rfl:ii=n+2:=aa;rw[cW aa,bq]at hv7;have aB4:=fi pW (n+2+j);have hxe:x-1=val ul/4294967296^j/(val b*2^s):=aa;have avA:4294967296^j*((x-1)*(val b*2^s))<=val ul:=by rw[hxe];exact bW (nH _ (ak5 _ _)) (Nat.mul_div_le _ _)
  have gR:=avU (ul:=(wl.set (n+2+j) (((18446744073709551616+(18446744073709551616+wl.getD (n+2+j) 0-c)%18446744073709551616-br)%18446744073709551616)%4294967296))) (ul0:=ul) (n:=n+2) (j:=j) (x:=x) (V:=(val b*2^s)) (ul3:=w3) (c:=c3) aa avA (by rw[hv6,nu,kx]) aa pW hz7 hc3 hv7 rfl;refine dx ?_;refine ai rfl (.bin rfl rfl (ayf)) ?_;refine bw ?_;exact vW (hQ (w3.set (n+2+j) ((w3.getD (n+2+j) 0+c3)%4294967296)) (x-1) _ ⟨hxe,by simp[hw3],gR.1,gR.2⟩) pJ
 have gu:((18446744073709551616+(18446744073709551616+wl.getD (n+2+j) 0-c)%18446744073709551616-br)%18446744073709551616)/9223372036854775808=0:=aa;rw[gu,uA,jK]at hv6;have hxF:x=val ul/4294967296^j/(val b*2^s):=by have:=atq hv6 gQ;omega
 refine aT ?_;exact vW (hQ ((wl.set (n+2+j) (((18446744073709551616+(18446744073709551616+wl.getD (n+2+j) 0-c)%18446744073709551616-br)%18446744073709551616)%4294967296))) (x) _ ⟨hxF,by simp[fO],acT,hv6⟩) pJ
open yu in
theorem aA6(b ul ql:List Nat)(n s m q0 j:Nat)(gi:(ah (val b*2^s)).length=n+2)(iz:n+2<=m)(nC:m<=1099511627776)(mQ:q0=m+1-(n+2))(hk:j+1<=q0)(iN:ul.length=m+1)(hJ:ql.length=q0)(eB:bh ul)(ka:bh ql)(pB:2147483648<=(ah (val b*2^s)).getD (n+1) 0)(gQ:0<(val b*2^s))(qE:(val b*2^s)<4294967296^(n+2))(bT:val ul<(val b*2^s)*4294967296^(j+1)){Q:gI->St->Prop}(L1:St)
  (hQ:∀(w4:List Nat) (x4:Nat) (L2:St),(x4=val ul/4294967296^j/(val b*2^s)/\w4.length=m+1/\bh w4/\val w4+4294967296^j*(x4*(val b*2^s))=val ul)->Q .normal (mS L2 [(1001057,⟨1,w4.map aO,true⟩),(1001105,⟨1,(eZ ((ah (val b)).length+1) (val b*2^s)).map aO,false⟩),(77,⟨1,(ql.set j (x4%4294967296)).map aO,true⟩)] [(13,iL (((j+1:Nat):Int)-1)),(12,ak (n+2)),(11,aM (val b*2^s)),(10,.ref 1001057 1 0 (m+1)),(9,ak s),(4,.ref 77 1 0 q0)])) :
  bM ae ((w8 abx [1,1,1,1,1,1,1,0,1,0,0,1,0]).getD .skip) Q (mS L1 [(1001057,⟨1,ul.map aO,true⟩),(1001105,⟨1,(eZ ((ah (val b)).length+1) (val b*2^s)).map aO,false⟩),(77,⟨1,ql.map aO,true⟩)] [(13,iL (((j+1:Nat):Int)-1)),(12,ak (n+2)),(11,aM (val b*2^s)),(10,.ref 1001057 1 0 (m+1)),(9,ak s),(4,.ref 77 1 0 q0)]):=by
 have ej:True:=trivial;have ek:True:=trivial;have es:True:=trivial;have eV:True:=trivial;have kT:True:=trivial;have kp:True:=trivial;have mV:True:=trivial;have nP:True:=trivial;have oD:True:=trivial;have kG:True:=trivial;have mc:True:=trivial;have g7:True:=trivial;have pL:True:=trivial;have pA:True:=trivial;have lB:True:=trivial;have nd:True:=trivial;have nI:True:=trivial;have nT:True:=trivial;have iZ:True:=trivial;have kT:((j:Int)+((n+2:Nat):Int)).toNat=n+2+j:=aa;have kp:((j:Int)+((n+2:Nat):Int)-1).toNat=n+1+j:=aa;have mV:((j:Int)+((n+2:Nat):Int)-2).toNat=n+j:=aa;have kG:(((n+2:Nat):Int)-1).toNat=n+1:=aa;have mc:(((n+2:Nat):Int)-2).toNat=n:=aa;have ek:(((j+1:Nat):Int)-1)=(j:Int):=aa;have acd:=fv ((val b*2^s)) (n+1);have u6:=fv ((val b*2^s)) n;have hu0:=fi eB (n+2+j);have zn:=fi eB (n+1+j);have tK:=fi eB (n+j);have hz:=adr (n:=n+2) (j:=j) qE bT;refine aa4 rfl ?_;refine aAv ?_;refine ai rfl (.bin rfl rfl (ahs (by simp only[kG,dU];omega) aa)) ?_;refine aP ?_;refine ai rfl (.bin rfl rfl (agD (by simp only[kG,dU];omega))) ?_;refine aV ?_
 refine aba (S:=fun L=>(mS L [(1001057,⟨1,ul.map aO,true⟩),(1001105,⟨1,(eZ ((ah (val b)).length+1) (val b*2^s)).map aO,false⟩),(77,⟨1,ql.map aO,true⟩)] [(16,bP ((ul.getD (n+2+j) 0*4294967296+ul.getD (n+1+j) 0)%(ah (val b*2^s)).getD (n+1) 0)),(15,bP ((ul.getD (n+2+j) 0*4294967296+ul.getD (n+1+j) 0)/(ah (val b*2^s)).getD (n+1) 0)),(13,iL (((j+1:Nat):Int)-1)),(12,ak (n+2)),(11,aM (val b*2^s)),(10,.ref 1001057 1 0 (m+1)),(9,ak s),(4,.ref 77 1 0 q0)])) pJ ?_;refine aAZ b ul ql n s m q0 j gi iz nC mQ hk iN hJ eB ka pB gQ qE bT _ ?_;rintro x LQ ⟨zi,hx2,zM⟩;refine gA ?_;refine aba (S:=fun L=>(mS L [(1001057,⟨1,ul.map aO,true⟩),(1001105,⟨1,(eZ ((ah (val b)).length+1) (val b*2^s)).map aO,false⟩),(77,⟨1,ql.map aO,true⟩)] [(156,ak 0),(155,ak (n+2)),(154,aM (val b*2^s)),(18,bP 0),(17,bP 0),(15,bP x),(13,iL (((j+1:Nat):Int)-1)),(12,ak (n+2)),(11,aM (val b*2^s)),(10,.ref 1001057 1 0 (m+1)),(9,ak s),(4,.ref 77 1 0 q0)])) pJ ?_;refine awH b ul ql n s m q0 j gi iz nC mQ hk iN hJ eB ka pB gQ qE bT x zi zM _ ?_;rintro wl c br LQ ⟨fO,k9,hc,iC,vj,yG⟩;obtain⟨acT,wN,hv6⟩:=ajs (n:=n+2) aa k9 iC hc vj rfl rfl;have iS:=fi k9 (n+2+j);refine cg ?_;refine ai rfl (.bin rfl rfl (aa7 aa)) ?_;refine aT ?_;refine ai rfl (.bin rfl rfl (aa7 aa)) ?_
 refine ur ?_;refine aba (S:=fun L=>(mS L [(1001057,⟨1,(wl.set (n+2+j) (((18446744073709551616+(18446744073709551616+wl.getD (n+2+j) 0-c)%18446744073709551616-br)%18446744073709551616)%4294967296)).map aO,true⟩),(1001105,⟨1,(eZ ((ah (val b)).length+1) (val b*2^s)).map aO,false⟩),(77,⟨1,ql.map aO,true⟩)] [(211,.v (.bool (((((18446744073709551616+(18446744073709551616+wl.getD (n+2+j) 0-c)%18446744073709551616-br)%18446744073709551616)/9223372036854775808:Nat):Int) != 0))),(22,bP ((18446744073709551616+(18446744073709551616+wl.getD (n+2+j) 0-c)%18446744073709551616-br)%18446744073709551616)),(15,bP x),(13,iL (((j+1:Nat):Int)-1)),(12,ak (n+2)),(11,aM (val b*2^s)),(10,.ref 1001057 1 0 (m+1)),(9,ak s),(4,.ref 77 1 0 q0)])) pJ ?_;refine ayX b ul ql n s m q0 j gi iz nC mQ hk iN hJ eB ka pB gQ qE bT x zi hx2 zM wl c br fO k9 hc iC vj yG _ ?_;rintro w4 x4 LQ ⟨hx4,hw4,hl4,hv8⟩;have xk:val ul/4294967296^j<(val b*2^s)*4294967296:=by
  obtain⟨_,_,_,_,_,_,h⟩:=ag6 (j:=j) gi aa eB bT;exact h
 have hqB:val ul/4294967296^j/(val b*2^s)<4294967296:=by rw[jZ gQ,er];exact xk
 have ae3:x4<4294967296:=by rw[hx4];exact hqB
 have aos:x4%4294967296=x4:=fa ae3;refine cb ?_;exact vW (hQ (w4) (x4) _ ⟨hx4,hw4,hl4,hv8⟩) pJ
open yu in
theorem atF(b ul ql:List Nat)(s m q0 T:Nat)(oV:s<32)(nC:m<=1099511627776)(iN:ul.length=m+1)(eB:bh ul)(hTm:T<=m+1)(hTz:∀p,T<=p->ul.getD p 0=0)(vN:ul.getD 0 0%2^s=0){Q:gI->St->Prop}(L1:St)
  (hQ:∀(w:List Nat) (L2:St),(w.length=m+1/\bh w/\2^s*val (w.take T)=val (ul.take T)+4294967296^T*(ul.getD T 0%2^s))->Q .normal (mS L2 [(1001057,⟨1,w.map aO,true⟩),(1001105,⟨1,(eZ ((ah (val b)).length+1) (val b*2^s)).map aO,false⟩),(77,⟨1,ql.map aO,true⟩)] [(5,.ref 1001057 1 0 T),(4,.ref 77 1 0 q0)])) :
  bM ae ((w8 abx [1,1,1,1,1,1,1,1,1,0,1]).getD .skip) Q (mS L1 [(1001057,⟨1,ul.map aO,true⟩),(1001105,⟨1,(eZ ((ah (val b)).length+1) (val b*2^s)).map aO,false⟩),(77,⟨1,ql.map aO,true⟩)] [(262,ak 0),(261,ak T),(260,.ref 1001057 1 0 T),(9,ak s),(5,.ref 1001057 1 0 T),(4,.ref 77 1 0 q0)]):=by
 have ej:True:=trivial;have ek:True:=trivial;have es:True:=trivial;have eV:True:=trivial;have kT:True:=trivial;have kp:True:=trivial;have mV:True:=trivial;have nP:True:=trivial;have oD:True:=trivial;have kG:True:=trivial;have mc:True:=trivial;have g7:True:=trivial;have pL:True:=trivial;have pA:True:=trivial;have lB:True:=trivial;have nd:True:=trivial;have nI:True:=trivial;have nT:True:=trivial;have iZ:True:=trivial;have gi:True:=trivial;refine aa4 rfl ?_;refine aT ?_;refine iy (fun(i:Nat) (w:List Nat) L=>(mS L [(1001057,⟨1,w.map aO,true⟩),(1001105,⟨1,(eZ ((ah (val b)).length+1) (val b*2^s)).map aO,false⟩),(77,⟨1,ql.map aO,true⟩)] [(262,ak i),(261,ak T),(260,.ref 1001057 1 0 T),(9,ak s),(5,.ref 1001057 1 0 T),(4,.ref 77 1 0 q0)])) (fun i w=>i<=T/\w.length=m+1/\bh w/\(∀p,i<=p->w.getD p 0=ul.getD p 0)/\2^s*val (w.take i)=val (ul.take i)+4294967296^i*(ul.getD i 0%2^s)) (fun i w=>T-i) 0 ul ⟨bJ _,iN,eB,fun _ _=>rfl,by rw[vN];simp[val]⟩ ?_;rintro i w L5 ⟨hi,fO,k9,hz9,v8⟩;have iZ:((i:Int)+1).toNat=i+1:=aa;have hwi:=fi k9 i;have aCz:=fi eB (i+1);have lB:=hz9 i (bA _);have nd:=hz9 (i+1) aa;have hui:=fi eB i;obtain⟨hh1,hh2⟩:=ahH (z:=ul.getD (i+1) 0) (show s<=32 by omega) hui;have hh3:ul.getD i 0/2^s<4294967296:=aa;refine aA ?_;refine au rfl ?_ ?_<;>intro aB5 aB7
 ·have nI:(w.set i (ul.getD i 0/2^s)).getD i 0=ul.getD i 0/2^s:=amb _ _ _ aa;have nT:(w.set i (ul.getD i 0/2^s)).getD (i+1) 0=ul.getD (i+1) 0:=by rw[Go.Lg.getD_set_ne _ _ _ _ aa];exact nd
  refine jX ?_;refine ai rfl (.sh rfl rfl (aaT (m:=s) (by show s<=32;omega))) ?_;refine bx ?_;refine cz 274 rfl ?_ ?_<;>intro aB2 aCk
  ·refine bu ?_;refine au rfl ?_ ?_<;>intro aCe aCL
   ·refine bp ?_;refine ai rfl (.sh rfl rfl (ayG (s:=s) aa)) ?_;refine ai rfl (.bin rfl rfl (ayx (by simp only[bc,aZ,aW,aS,dU,lB,nd,nI,nT,iZ];exact hh1) (by simp only[bc,aZ,aW,aS,dU,lB,nd,nI,nT,iZ];exact hh2))) ?_;refine cb ?_;exact fC (i+1) (w.set i (ul.getD (i+1) 0%2^s*2^(32-s)+ul.getD i 0/2^s)) ⟨aa,by simp[fO],ja k9 _ _ hh2,fun p hp=>by rw[Go.Lg.getD_set_ne _ _ _ _ aa];exact hz9 p aa,ae4 aa oV lB v8 (td _ _)⟩
   refine bu ?_;exact fC (i+1) (w.set i (ul.getD i 0/2^s)) ⟨aa,by simp[fO],ja k9 _ _ hh3,fun p hp=>by rw[Go.Lg.getD_set_ne _ _ _ _ aa];exact hz9 p aa,ae4 aa oV lB v8 (by rw[hTz (i+1) aa];simp)⟩
  refine jX ?_;exact fC (i+1) (w.set i (ul.getD i 0/2^s)) ⟨aa,by simp[fO],ja k9 _ _ hh3,fun p hp=>by rw[Go.Lg.getD_set_ne _ _ _ _ aa];exact hz9 p aa,ae4 aa oV lB v8 (by rw[show s=0 by omega];simp[Nat.mod_one])⟩
 obtain rfl:i=T:=aa;refine ay ?_;exact vW (hQ (w) _ ⟨fO,k9,v8⟩) pJ
open yu in
theorem aeL(a b:List Nat)(ha:bh a)(hb:bh b)(eU:a.length<=1099511627776)(jT:b.length<=1099511627776)(fp:0<val b):ar ae 152 [dB a,dB b] (.aQ [aM (val a/val b),aM (val a%val b),iL 0]):=by
 have xf:=ya a ha eU;have acq:=ya b hb jT;have aCA:(ah (val b)).length≠0:=fun h=>by have:=oX.1 (kJ h);omega
 refine aE Tryz.func152 ?_;have ej:True:=trivial;have ek:True:=trivial;have es:True:=trivial;have eV:True:=trivial;have kT:True:=trivial;have kp:True:=trivial;have mV:True:=trivial;have nP:True:=trivial;have oD:True:=trivial;have kG:True:=trivial;have mc:True:=trivial;have g7:True:=trivial;have pL:True:=trivial;have pA:True:=trivial;have lB:True:=trivial;have nd:True:=trivial;have nI:True:=trivial;have nT:True:=trivial;have iZ:True:=trivial;have gi:True:=trivial;refine cb ?_;refine cp bK (nw _ fb oC) ?_;refine aT ?_;refine cp bK (nw _ fb oC) ?_;refine dx ?_;refine au rfl ?_ ?_<;>intro uM ua
 ·exfalso;omega
 refine ay ?_;refine cp aK (abY _ _ fb fb aa aa) ?_;refine ay ?_;refine au rfl ?_ ?_<;>intro xV tc
 ·have bT:val a<val b:=by
   apply nR;intro hh;rcases amQ (Nat.le_of_not_lt hh)with h|h
   ·rw[oE h]at tc;omega
   rw[pI h.symm]at tc;omega
  refine bw ?_;refine cp bK (aa1 _ aa) ?_;refine bu ?_;rw[we bT,fa bT];exact vZ [] rfl rfl (.nil 1) rfl (.pure (tx _)) rfl (.pure rfl)
 have jS:val b<=val a:=by
  apply nR;intro hh;rw[ov aa]at tc;omega
 refine bu ?_;refine au rfl ?_ ?_<;>intro abw yX
 ·have ahD:val b<4294967296:=pj.1 aa;have nu:ah (val b)=[val b]:=zD fp ahD;have lY:(ah (val b)).getD 0 0=val b:=by rw[nu];rfl
  have oD:=lY;have hml:=gl (val a) fp;refine aA ?_;refine cp aK (aAT _ _ (b7 _) aa (by show 0<(ah (val b)).getD 0 0;rw[lY];exact fp) (fv _ _)) ?_;refine aV ?_;refine nL nx ?_;refine aA ?_;refine n9 [55] oc (nw [val a%val b] (auI aa) az) ?_;refine bw ?_;refine nL nf2 ?_;refine ay ?_;exact ab0
 obtain⟨n,hn⟩:∃n,(ah (val b)).length=n+2:=⟨(ah (val b)).length-2,aa⟩;obtain⟨m,hm⟩:∃m,(ah (val a)).length=m:=⟨_,rfl⟩;have nP:=hm;have nC:m<=1099511627776:=aa;have iz:n+1+1<=m:=by rw[<-hm];have:=lJ jS;omega
 have ej:(((ah (val b)).length:Int)-1).toNat=n+1:=aa;obtain⟨s,hs⟩:∃s,s=32-cx ((ah (val b)).getD (n+1) 0):=⟨_,rfl⟩;have axH:cx ((ah (val b)).getD (n+1) 0)<=32:=qM.2 (fv _ _);have es:(32:Int)-((cx ((ah (val b)).getD (n+1) 0):Nat):Int)=((s:Nat):Int):=by rw[akE axH,hs]
 obtain⟨oV,gi,adC,qE⟩:=amE (n:=n+1) hn hs;have gQ:0<val b*2^s:=sv fp (lM aa);have eV:val (eZ ((ah (val b)).length+1) (val b*2^s))=val b*2^s:=ahU (by rw[hn];exact oK qE (tZ aa aa));have pB:=aoo gi adC;have acd:=fv (val b*2^s) (n+1);have u6:=fv (val b*2^s) n;obtain⟨awL,arB⟩:=arY (n:=n+1) oV hm iz adC;obtain⟨q0,mQ⟩:∃q0,q0=m+1-(n+2):=⟨_,rfl⟩;have pA:((m:Int)+1-((n+2:Nat):Int))=((q0:Nat):Int):=aa;have kG:(((n+2:Nat):Int)-1).toNat=n+1:=aa;have mc:(((n+2:Nat):Int)-2).toNat=n:=aa;have hB1:val (eZ (m+1) (val a*2^s))=val a*2^s:=ahU arB;refine cO (aBl _ (fv _ _)) ?_;refine aP ?_;refine xG [] rfl rfl (.cons (.pure (gw _)) (.cons (.pure rfl) .nil)) (anL (val a) s aa oV) (bS eu _) rfl ?_;refine aR ?_;refine xG [] rfl rfl (.cons (.pure (gw _)) (.cons (.pure rfl) .nil)) (anL (val b) s aa oV) (bS eu _) rfl ?_;refine zG [1001105] rfl rfl (.cons (eM eu rfl rfl (zF _ _).symm) .nil) (nw (eZ ((ah (val b)).length+1) (val b*2^s)) (air _ _) (by rw[zF];omega)) ?_;refine aR ?_;refine nL nf3 ?_;refine aA ?_;refine nL nf4 ?_;refine aP ?_;refine eD rfl rfl (.gC (n:=q0) (m:=q0) ml ml om om om) ?_;refine dk ?_
 refine ow (fun(k:Nat) (ul ql:List Nat) L=>(mS L [(1001057,⟨1,ul.map aO,true⟩),(1001105,⟨1,(eZ ((ah (val b)).length+1) (val b*2^s)).map aO,false⟩),(77,⟨1,ql.map aO,true⟩)] [(13,iL ((k:Int)-1)),(12,ak (n+2)),(11,aM (val b*2^s)),(10,.ref 1001057 1 0 (m+1)),(9,ak s),(4,.ref 77 1 0 q0)])) (fun k ul ql=>k<=q0/\ul.length=m+1/\ql.length=q0/\bh ul/\bh ql/\val ul+(val b*2^s)*4294967296^k*val (ql.drop k)=val a*2^s/\val ul<(val b*2^s)*4294967296^k) (fun k ul ql=>k) q0 (eZ (m+1) (val a*2^s)) (aJ q0 0) ⟨bA _,zF _ _,by simp,air _ _,qI _,by rw[iP az,hB1];simp[val],by rw[hB1,mQ];exact awL⟩ (h0:=⟨_,av.of_eq (b8 (b8 (b8 (b8 (b8 (b8 (nr ox) ox) ox) ox) ox) ox) ox)⟩) ?_;rintro k ul ql L1 ⟨hk,iN,hJ,eB,ka,hv,bT⟩;refine aP ?_;refine au rfl ?_ ?_<;>intro aBt h82
 ·obtain⟨j,rfl⟩:∃j,k=j+1:=⟨k-1,aa⟩;have ek:(((j+1:Nat):Int)-1)=(j:Int):=aa;refine bw ?_;refine aba (S:=fun L=>(mS L [(1001057,⟨1,ul.map aO,true⟩),(1001105,⟨1,(eZ ((ah (val b)).length+1) (val b*2^s)).map aO,false⟩),(77,⟨1,ql.map aO,true⟩)] [(13,iL (((j+1:Nat):Int)-1)),(12,ak (n+2)),(11,aM (val b*2^s)),(10,.ref 1001057 1 0 (m+1)),(9,ak s),(4,.ref 77 1 0 q0)])) pJ ?_;refine aA6 b ul ql n s m q0 j gi iz nC mQ hk iN hJ eB ka pB gQ qE bT _ ?_;rintro w4 x4 LQ ⟨hx4,hw4,hl4,hv8⟩;have xk:val ul/4294967296^j<(val b*2^s)*4294967296:=by
   obtain⟨_,_,_,_,_,_,h⟩:=ag6 (j:=j) gi aa eB bT;exact h
  have hqB:val ul/4294967296^j/(val b*2^s)<4294967296:=by rw[jZ gQ,er];exact xk
  have ae3:x4<4294967296:=by rw[hx4];exact hqB
  have aos:x4%4294967296=x4:=fa ae3;obtain⟨oQ,me⟩:=alz (j:=j) gQ hx4 hv8 aa hv;refine aP ?_;exact nN j w4 (ql.set j (x4%4294967296)) ⟨aa,hw4,by simp[hJ],hl4,ja ka _ _ aa,by rw[aos];exact oQ,me⟩ (he:=av.of_eq (b8 (b8 (b8 (b8 (b8 (b8 (nr ox) ox) ox) ox) ox) ox) ox))
 obtain rfl:k=0:=aa;rw[gX,adW,kx]at hv;rw[adW,kx]at bT;obtain⟨hq,hr⟩:=ami fp hv bT;obtain⟨T,hT⟩:∃T,T=fD (m+1) ul:=⟨_,rfl⟩;have hTm:T<=m+1:=by rw[hT];exact afR _ _
 have hTz:=avn (l:=ul) (n:=m+1) iN.symm;rw[<-hT]at hTz;have vN:=aky aa hr;refine bu ?_;refine tD 1001057 rfl rfl rfl (bS eu _) (.cons .ref .nil) (.ref aa) (awQ ul (m+1) iN.symm aa aa) rfl (bS eu _) ?_;refine aT ?_;refine nL nf6 ?_;refine bx ?_;refine aba (S:=fun L=>(mS L [(1001057,⟨1,ul.map aO,true⟩),(1001105,⟨1,(eZ ((ah (val b)).length+1) (val b*2^s)).map aO,false⟩),(77,⟨1,ql.map aO,true⟩)] [(262,ak 0),(261,ak T),(260,.ref 1001057 1 0 T),(9,ak s),(5,.ref 1001057 1 0 T),(4,.ref 77 1 0 q0)])) pJ ?_;refine atF b ul ql s m q0 T oV nC iN eB hTm hTz vN _ ?_;rintro w LQ ⟨fO,k9,v8⟩;rw[hTz T (bA _),amB,uA,jK]at v8;have adD:val (w.take T)=val a%val b:=by
  have e1:=(ad3 ul.length ul (bA _)).2;rw[je,iN,<-hT,hr]at e1;rw[e1,er]at v8;exact Nat.eq_of_mul_eq_mul_right (lM aa) v8
 refine ay ?_;refine n9 [77] oc (nw ql ka aa) ?_;refine aT ?_;refine n9 [1001057] oc (nw (w.take T) (sm k9 _) bm) ?_;refine aA ?_;rw[<-hq,<-adD];exact ab0
namespace amc
theorem aD{p q:Prop}(k:q)(e:p=q:=by simp only[bc,aZ,aW,aS,dU,bq];exact rfl):p:=e.mpr k
end amc
open amc in
theorem ahl(a b:List Nat)(ha:bh a)(hb:bh b)(eU:a.length<=1099511627776)(jT:b.length<=1099511627776):ar ae 151 [dB a,dB b] (aM (dK (val a) (val b))):=by
 have xf:=ya a ha eU;have acq:=ya b hb jT;refine aE Tryz.func151 ?_;refine bu ?_;refine cp bK (nw _ fb oC) ?_;refine cp bK (aa1 _ aa) ?_;refine aT ?_;refine cp bK (nw _ fb oC) ?_;refine cp bK (aa1 _ aa) ?_;refine aA ?_;refine iy (fun(x y:Nat) L=>(mS L [] [(6,aM y),(5,aM x)])) (fun x y=>dK x y=dK (val a) (val b)/\(ah x).length<=1099511627776/\(ah y).length<=1099511627776) (fun x y=>y) (val a) (val b) ⟨rfl,xf,acq⟩ ?_;rintro x y L1 ⟨hg,hx,hy⟩;refine bu ?_;refine au rfl ?_ ?_<;>intro mN mB
 ·have mq:0<y:=qa (fun h=>by rw[h,su]at mB;simp at mB);refine aP ?_;refine cp aK (aeL _ _ (b7 _) (b7 _) aa aa (by rw[bq];exact mq)) ?_;refine jX ?_;exact fC y (x%y) ⟨by rw[mE,<-aaD,mE];exact hg,hy,bW (lJ (sO (gl x mq))) hy⟩ (hm:=gl _ mq)
 refine dk ?_;refine au rfl ?_ ?_<;>intro tT uZ
 ·have mq:y=0:=oX.1 (kJ aa);refine bu ?_;subst mq;rw[<-hg,aa9];exact dA
 have mq:0<y:=qa (fun h=>by rw[h,su]at uZ;simp at uZ);refine cb ?_;refine fk (fun L=>∃(x2:Nat) (y2:Nat) (L1:St),(dK x2 y2=dK (val a) (val b)/\(ah x2).length<=2/\(ah y2).length<=2)/\L=(mS L1 [] [(6,aM y2),(5,aM x2)])) ?_ ?_
 ·refine au rfl ?_ ?_<;>intro ady h39
  ·refine ay ?_;refine cp aK (aeL _ _ (b7 _) (b7 _) aa aa (by rw[bq];exact mq)) ?_;refine nB ?_;exact⟨y,x%y,_,⟨by rw[mE,<-aaD,mE];exact hg,aa,bW (lJ (sO (gl x mq))) aa⟩,ca⟩
  refine aR ?_;exact⟨x,y,_,⟨hg,aa,aa⟩,ca⟩
 rintro _ ⟨x2,y2,aBL,⟨hg2,hx2,hy2⟩,rfl⟩;refine ay ?_;refine cp bK (alj _ (b7 _) aa) ?_;refine aT ?_;refine cp bK (alj _ (b7 _) aa) ?_;refine aA ?_;refine iy (fun(m n:Nat) L=>(mS L [] [(14,bP n),(13,bP m)])) (fun m n=>dK m n=dK (val a) (val b)/\m<18446744073709551616/\n<18446744073709551616) (fun m n=>n) x2 y2 ⟨hg2,uN.1 hx2,uN.1 hy2⟩ ?_;rintro m n L2 ⟨wS,hm,hn⟩;refine aP ?_;refine au rfl ?_ ?_<;>intro aBv h54
 ·refine dk ?_;exact fC n (m%n) ⟨by rw[mE,<-aaD,mE];exact wS,hn,by have:=gl m (show n > 0 by omega);omega⟩ (hm:=gl _ aa)
 obtain rfl:n=0:=aa;refine bu ?_;refine cp bK (aiu _ aa) ?_;refine ay ?_;rw[<-wS,aa9];exact dA
open H0 in
theorem anS:ar ae 154 [] (aM 1):=by
 refine aE Tryz.func154 ?_;refine bp ?_;rw[show aM 1=.list 1 ([1].map aO) from rfl];exact nq [1] rfl rfl (eM eu rfl rfl rfl)
namespace apE
theorem aD{p q:Prop}(k:q)(e:p=q:=by simp only[bc,aZ,aW,aS,cT al,jz];exact rfl):p:=e.mpr k
end apE
open apE in
theorem adl(q:Rat):ar ae 65 [ab q] (aM q.den):=by
 refine aE Tryz.func65 ?_;refine gA ?_;refine au rfl ?_ ?_<;>intro h6r h6
 ·have nu:=aq4 (show (ah (gB q)).length=0 by omega);refine yc0 (anS) ?_;refine aV ?_;rw[nu];exact dA
 have nu:=aiz (q:=q) aa;refine cb ?_;rw[<-nu];exact dA
open abV in
theorem ahL(a:List Nat)(h:bh a)(hl:a.length<=2):ar ae 148 [dB a] (bP (val a)):=by
 unfold dB;refine aE Tryz.func148 ?_;have ej:True:=trivial;refine iQ ?_;refine iy (fun(k n:Nat) L=>(mS L [] [(4,iL ((k:Int)-1)),(3,bP n),(0,.list 1 (a.map aO))])) (fun k n=>k<=a.length/\n=val (a.drop k)) (fun k n=>k) a.length 0 ⟨bA _,by simp[val]⟩ ?_;rintro k n L1 ⟨hk,hn⟩;refine aP ?_;refine au rfl ?_ ?_<;>intro sB h9
 ·obtain⟨j,rfl⟩:∃j,k=j+1:=⟨k-1,aa⟩;have ej:(((j+1:Nat):Int)-1).toNat=j:=aa;have ek:(((j+1:Nat):Int)-1)=j:=aa;have hj:=fi h j;have hnB:=aje h (k:=j+1) (j:=1) aa;rw[<-hn]at hnB;refine ur ?_;exact fC j (n*4294967296+a.getD j 0) ⟨aa,by rw[kY aa,hn];omega⟩
 obtain rfl:k=0:=aa;rw[gX]at hn;refine bp ?_;rw[<-hn];exact dA
open H0 in
theorem azR(a b:Nat)(ha:a<18446744073709551616)(hb:b<18446744073709551616):ar ae 149 [bP a,bP b] (bP (dK a b)):=by
 refine aE Tryz.func149 ?_;refine aP ?_;refine iy (fun(m n:Nat) L=>(mS L [] [(1,bP n),(0,bP m)])) (fun m n=>dK m n=dK a b/\m<18446744073709551616/\n<18446744073709551616) (fun m n=>n) a b ⟨rfl,ha,hb⟩ ?_;rintro m n L1 ⟨wS,hm,hn⟩;refine aP ?_;refine au rfl ?_ ?_<;>intro h6r h6
 ·refine dk ?_;exact fC n (m%n) ⟨by rw[mE,<-aaD,mE];exact wS,hn,by have:=gl m (show n > 0 by omega);omega⟩ (hm:=gl _ aa)
 obtain rfl:n=0:=aa;refine bp ?_;rw[<-wS,aa9];exact dA
namespace amR
theorem aD{p q:Prop}(k:q)(e:p=q:=by simp only[bc,aZ,aW,aS,dU,List.length_set,Nat.add_zero,eqm,eqz];exact rfl):p:=e.mpr k
end amR
open amR in
theorem aiB(l:List Nat)(off len n:Nat)(hn:n<18446744073709551616)(h1:1<=len)(h2:4294967296<=n->2<=len)(hl:off+len<=l.length):jt ae 150 ⟨1,l.map aO,true⟩ [.ref 0 1 off len,bP n] (ak (iW n)) ⟨1,(l5 l off n).map aO,true⟩:=by
 refine tr Tryz.func150 ?_;have eqm:True:=trivial;have eqz:True:=trivial;refine aip ?_;refine au rfl ?_ ?_<;>intro aaA pQ
 ·have oQ:n<4294967296:=aa;have eqz:n%4294967296=n:=fa oQ;refine aP ?_;simp only[l5,iW,if_pos oQ,eqz];exact oG rfl (.cC (.pure rfl)) rfl rfl (bS eu _)
 have oQ:¬n<4294967296:=aa;have eqm:n/4294967296%4294967296=n/4294967296:=fa aa;refine qP ?_;simp only[l5,iW,if_neg oQ];exact oG rfl (.cC (.pure rfl)) rfl rfl (bS eu _)
theorem avS:val []=0:=rfl
theorem awY(n:Nat):decide (((cx n:Nat):Int)=0)=decide (n=0):=by
 rw[decide_eq_decide,<-sc];omega
theorem wM{n:Nat}(h:(ah n).length=1):(ah n).getD 0 0=n/\0<n:=by
 have h0:0<n:=qa (fun e=>by rw[e,su]at h;cases h);rw[zD h0 (pj.1 aa)];exact⟨rfl,h0⟩
namespace akg
theorem aD{p q:Prop}(k:q)(e:p=q:=by simp only[bc,aZ,aW,aS,cT al,jz,dU,bq];exact rfl):p:=e.mpr k
end akg
open akg in
theorem wz(q:Rat):ar ae 61 [ab q] (.aQ [bP (pN q),bP (pD q),bL (sG q)]):=by
 have hdp:=q.den_pos;have azd:=rO q;refine aE Tryz.func61 ?_;refine nB ?_;refine cz 9 rfl ?_ ?_<;>intro sB h9
 ·have hs:sG q=false:=decide_eq_false (fun h=>by have:=pj.2 h.1;omega);have nb:True:=trivial;refine jX ?_;simp only[pN,pD,hs,zU,if_false];exact vZ [] rfl rfl (.pure rfl) rfl (.pure rfl) rfl (.pure rfl)
 have oQ:=pj.1 (show (ah q.num.natAbs).length<=1 by omega);refine aP ?_;refine au rfl ?_ ?_<;>intro rV nb
 ·have hs:sG q=false:=by first|exact hs|exact decide_eq_false (fun h=>by have:=awf h.2;omega)
  refine bx ?_;simp only[pN,pD,hs,zU,if_false];exact vZ [] rfl rfl (.pure rfl) rfl (.pure rfl) rfl (.pure rfl)
 have nu:q.den<4294967296:=by
  have:=pj.1 (show (ah (gB q)).length<=1 by omega);rw[azd]at this;split at this<;>omega
 have hs:sG q=true:=decide_eq_true ⟨oQ,nu⟩;refine nB ?_;refine fk (fun L=>∃(d:Nat) (L1:St),(d=q.den)/\L=(mS L1 [(1,⟨3,[ab q],true⟩)] [(3,bP d),(1,.ax 1 3 0 0)])) ?_ ?_
 ·refine au rfl ?_ ?_<;>intro abe xU
  ·have rH:=aiz (q:=q) aa;have lY:(ah (gB q)).getD 0 0=q.den:=by rw[rH,zD hdp nu];rfl
   refine bx ?_;exact⟨(ah (gB q)).getD 0 0,_,lY,ca⟩
  have rH:=aq4 (q:=q) aa;refine aR ?_;exact⟨1,_,rH.symm,ca⟩
 rintro _ ⟨d,aBG,rfl,rfl⟩;refine aV ?_;refine cp bK (ahL _ (b7 _) aa) ?_;refine bx ?_;simp only[pN,pD,hs,if_true];have fp:((q.den:Int) != 0)=true:=bm;refine vZ [] rfl rfl (.pure rfl) rfl (.pure rfl) (x'':=.v (.bool ((q.den:Int) != 0))) rfl ?_;rw[fp];exact .pure rfl
namespace ai7
theorem aD{p q:Prop}(k:q)(e:p=q:=by simp only[bc,aZ,aW,aS,dU,Nat.sub_zero,Nat.zero_add,Nat.add_sub_cancel_left,Nat.add_zero];exact rfl):p:=e.mpr k
theorem pb{p q:Prop}(k:q)(e:p=q:=by simp only[bc,aZ,aW,aS,dU,Nat.sub_zero,Nat.zero_add,Nat.add_sub_cancel_left,Nat.add_zero,<-hN,<-hD];exact rfl):p:=e.mpr k
theorem nx{p:Prop}(h:p:=by first|(refine pb ?_;exact rfl)|exact rfl):p:=h
end ai7
open ai7 in
theorem z5(s:Bool)(n d:Nat)(hn:n<18446744073709551616)(gu:0<d)(hd:d<18446744073709551616):ar ae 62 [bL s,bP n,bP d] (ab (qv s n d)):=by
 refine aE Tryz.func62 ?_;refine bp ?_;refine au rfl ?_ ?_<;>intro tL sX
 ·refine bu ?_;obtain rfl:n=0:=aa;rw[abP,iF];exact zK
 have fw:0<n:=aa;have hg:0<dK n d:=ag3 _ fw;have me:0<n/dK n d:=ada (yM fw (vX n d)) hg;have wN:0<d/dK n d:=ada (yM gu (agn n d)) hg;have yq:n/dK n d<18446744073709551616:=sT (qd _ _) hn;have hd3:d/dK n d<18446744073709551616:=sT (qd _ _) hd;have hE:=acW s fw gu;obtain⟨g,hgg⟩:∃g,g=dK n d:=⟨_,rfl⟩;obtain⟨N,hN⟩:∃N,N=n/dK n d:=⟨_,rfl⟩;obtain⟨D,hD⟩:∃D,D=d/dK n d:=⟨_,rfl⟩;rw[<-hN,<-hD]at hE;rw[<-hN]at me yq;rw[<-hD]at wN hd3;have pT:=ace me yq;have eQ:=ace wN hd3;obtain⟨fV,jq⟩:=atv me yq wN hd3;have cG:=awU me yq;have jL:(l5 [0,0,0,0] 0 N).length=4:=afm _ _ _;have qO:(l5 (l5 [0,0,0,0] 0 N) (iW N) D).length=4:=by rw[afm,afm];rfl
 refine aA ?_;refine cp aK (azR _ _ aa aa) ?_;refine aP ?_;refine ai rfl abh ?_;refine aR ?_;refine ai rfl abh ?_;refine aR ?_;refine nL nx ?_;refine bw ?_;refine eD rfl rfl (.gC (n:=4) (m:=4) ml ml om om om) ?_;refine aP ?_;refine tD 24 rfl rfl rfl (bS eu _) (.cons .ref (.cons (.cC (.pure rfl)) .nil)) (.ref an) (aiB [0,0,0,0] 0 4 N yq aa aa az) rfl (bS eu _) ?_;refine bx ?_;refine ai rfl (.abH (a:=0) (h:=iW N) (mx:=iW N) rfl m9 oy (fun y hy=>by cases hy) (fun _=>rfl) rfl rfl aa aa aa aa) ?_;refine bp ?_;refine au rfl ?_ ?_<;>intro tT uZ
 ·refine aV ?_;refine ai rfl (.vi (a:=iW N) (h:=4) rfl m9 oy (fun y hy=>by cases hy;exact⟨_,rfl⟩) (fun h=>by cases h) (fun y hy=>by cases hy) (fun _=>rfl) aa aa aa) ?_;refine aT ?_;refine tD 24 rfl rfl rfl (bS eu _) (.cons .ref (.cons (.cC (.pure rfl)) .nil)) (.ref aa) (aiB (l5 [0,0,0,0] 0 N) (0+iW N) (4-iW N) D hd3 aa aa aa) rfl (bS eu _) ?_;refine bx ?_;refine ai rfl (.abH (a:=iW N) (h:=iW N+iW D) (mx:=iW N+iW D) rfl m9 oy (fun y hy=>by cases hy;exact⟨_,rfl⟩) (fun h=>by cases h) rfl rfl aa aa aa aa) ?_;refine cg ?_;rw[hE,if_neg aa];exact iV [24] rfl rfl rfl rfl rfl bZ (.agg (.cons (.pure rfl) (.cons (agJ eu rfl rfl aa fV) (.cons (agJ eu rfl rfl aa jq) .nil))))
 refine bx ?_;rw[hE,if_pos aa];exact iV [24] rfl rfl rfl rfl rfl bZ (.agg (.cons (.pure rfl) (.cons (agJ eu rfl rfl aa cG) (.cons (.pure rfl) .nil))))
namespace aj6
theorem aD{p q:Prop}(k:q)(e:p=q:=by simp only[bc,aZ,aW,aS,dU,bq,avS,Nat.add_zero];exact rfl):p:=e.mpr k
end aj6
open aj6 in
theorem xX(s:Bool)(a b:List Nat)(ha:bh a)(hb:bh b)(eU:a.length<=1099511627776)(jT:b.length<=1099511627776):ar ae 63 [bL s,dB a,dB b] (ab (qv s (val a) (val b))):=by
 have xf:=ya a ha eU;have acq:=ya b hb jT;refine aE Tryz.func63 ?_;refine aP ?_;refine fk (fun L=>∃(t:Bool) (L1:St),(t=decide (val a=0\/val b=0))/\L=(mS L1 [(6,⟨3,[.agg [.v (.bool false),.list 1 [],.list 1 []]],true⟩)] [(15,bL t),(6,.ax 6 3 0 0),(2,dB b),(1,dB a),(0,bL s)])) ?_ ?_
 ·refine aR ?_;refine cp bK (aay _ fb aa) ?_;refine aR ?_;refine cz 11 rfl ?_ ?_<;>intro aaA pQ
  ·have hz:val a=0:=sc.1 aa;refine aA ?_;exact⟨true,_,(decide_eq_true (.inl hz)).symm,ca⟩
  have hza:val a≠0:=fun h=>by rw[sc.2 h]at pQ;exact pQ rfl
  refine aT ?_;refine cp bK (aay _ fb aa) ?_;refine ay ?_;exact⟨decide (((cx (val b):Nat):Int)=0),_,by show decide _=_;rw[awY];simp[hza],ca⟩
 rintro _ ⟨t,LR1,ht,rfl⟩;refine aT ?_;refine au rfl ?_ ?_<;>intro mA iR
 ·have hq:qv s (val a) (val b)=0:=by
   rw[ht,decide_eq_true_eq]at mA;rcases mA with h|h
   ·rw[h];exact abP _ _
   rw[h];exact agp _ _
  refine bu ?_;rw[hq,iF];exact zK
 rw[ht,decide_eq_false_iff_not,not_or]at mA;have ha0:0<val a:=qa mA.1;have fp:0<val b:=qa mA.2;have hg:0<dK (val a) (val b):=ag3 _ ha0;have hE:=acW s ha0 fp;have hgl:(ah (dK (val a) (val b))).length<=1099511627776:=bW (lJ (yM ha0 (vX _ _))) xf;have hqa:(ah (val a/dK (val a) (val b))).length<=1099511627776:=bW (lJ (qd _ _)) xf;have hqb:(ah (val b/dK (val a) (val b))).length<=1099511627776:=bW (lJ (qd _ _)) acq;refine ay ?_;refine fk (fun L=>∃(t:Bool) (L1:St),(t=decide (a.length<=2/\b.length<=2))/\L=(mS L1 [(6,⟨3,[.agg [.v (.bool false),.list 1 [],.list 1 []]],true⟩)] [(24,bL t),(6,.ax 6 3 0 0),(2,dB b),(1,dB a),(0,bL s)])) ?_ ?_
 ·refine aV ?_;refine cz 20 rfl ?_ ?_<;>intro w6 xF
  ·refine aA ?_;exact⟨decide (((b.length:Nat):Int)<=2),_,by rw[decide_eq_decide];omega,ca⟩
  refine aA ?_;exact⟨false,_,by symm;rw[decide_eq_false_iff_not];omega,ca⟩
 rintro _ ⟨t,LR3,ht2,rfl⟩;refine aT ?_;refine au rfl ?_ ?_<;>intro vk h24
 ·rw[ht2,decide_eq_true_eq]at vk;have aCE:=vk.1;have aBp:=vk.2;refine ay ?_;have hva:=pg ha (k:=2) aa;have hvb:=pg hb (k:=2) aa;refine cp bK (ahL a ha aa) ?_;refine cO (ahL b hb aa) ?_;refine cp iM (z5 _ _ _ hva fp hvb) ?_;refine aV ?_;exact ju
 refine aP ?_;refine cp aK (ahl _ _ fb fb aa aa) ?_;refine aA ?_;refine cp bK (aay _ fb aa) ?_;refine bw ?_;refine fk (fun L=>∃(x:List Nat) (y:List Nat) (L1:St),(bh x/\bh y/\x.length<=1099511627776/\y.length<=1099511627776/\val x=val a/dK (val a) (val b)/\val y=val b/dK (val a) (val b))/\L=(mS L1 [(6,⟨3,[.agg [.v (.bool false),.list 1 [],.list 1 []]],true⟩)] [(6,.ax 6 3 0 0),(2,dB y),(1,dB x),(0,bL s)])) ?_ ?_
 ·refine au rfl ?_ ?_<;>intro abK h36
  ·refine ay ?_;refine cp aK (aeL _ _ fb fb aa aa (by rw[bq];exact hg)) ?_;refine cb ?_;refine cp aK (aeL _ _ fb fb aa aa (by rw[bq];exact hg)) ?_;refine aP ?_;exact⟨ah (val a/dK (val a) (val b)),ah (val b/dK (val a) (val b)),_,⟨b7 _,b7 _,hqa,hqb,bq _,bq _⟩,ca⟩
  have pk:dK (val a) (val b)=1:=avQ.1 (by have:=sc (n:=dK (val a) (val b));omega);refine aR ?_;exact⟨a,b,_,⟨ha,hb,eU,jT,by rw[pk,abd],by rw[pk,abd]⟩,ca⟩
 rintro _ ⟨x,y,aCx,⟨hx,hy,hlx,y7,hvx,hvy⟩,rfl⟩;rw[<-hvx,<-hvy]at hE;have mq:0<val y:=by rw[hvy];exact ada (yM fp (agn _ _)) hg
 refine bC (afK x [] hx (by intro y hy;cases hy) hlx az) ?_;refine bC (afK y [] hy (by intro y hy;cases hy) y7 az) ?_;refine cg ?_;refine cz 58 rfl ?_ ?_<;>intro tj ta
 ·refine aP ?_;refine au rfl ?_ ?_<;>intro apW ee
  ·have pZ:val y=1:=by have:=(wM (n:=val y) aa).1;omega
   refine dx ?_;rw[hE,if_pos pZ];exact iV [] rfl rfl rfl rfl rfl bZ (.agg (.cons (.pure rfl) (.cons (.pure (gw _)) (.cons (.nil 1) .nil))))
  have pZ:val y≠1:=by have:=(wM (n:=val y) aa).1;omega
  refine bp ?_;rw[hE,if_neg pZ];exact aaF
 have pZ:val y≠1:=fun e=>by rw[e,aed]at ta;exact ta rfl
 refine iQ ?_;rw[hE,if_neg pZ];exact aaF
open H0 in
theorem aht(n:Int)(h1:-9223372036854775808<=n)(h2:n<=9223372036854775807):ar ae 241 [iL n] (aM n.natAbs):=by
 refine aE Tryz.func241 ?_;refine bp ?_;refine au rfl ?_ ?_<;>intro h4r h4
 ·refine cO (aiu 9223372036854775808 aa) ?_;refine aV ?_;rw[show n.natAbs=9223372036854775808 by omega];exact dA
 refine aA ?_;refine ai rfl (.neg rfl) ?_;refine aT ?_;refine ai rfl (.aem (n:=n.natAbs) adH acZ (by simp only[e1,p1,p2,aS];rw[aup aa aa]) aa) ?_;refine cp bK (aiu n.natAbs aa) ?_;refine ay ?_;exact dA
theorem ado{P:Program}{L:St}{a u:Nat}{T:TypeId}{b sz:Nat}{x y x' y':LV}{m:Bool}{n:Nat}{ag:Bool}(bs:List Nat)(h0:bs.contains 0=false)(h:L.slot a=.ax b sz 0 0)(hb:L.heap b=some ⟨sz,[x],m⟩)
  (hx:x.aj=sz) (ru:x.at 0 n ag=some x) (hT:aX P T n ag) (hi:bR (L.bo bs).heap x y) (h':L.slot u=x') (pd:bR (L.bo bs).heap x' y'):mH P [.cell a T,.tmp u] L (.aQ [y,y']) [] :=
 ⟨[x,x'],[y,y'],(L.bo bs).heap,[],.cons ⟨b,sz,0,0,_,x,n,ag,h,hb,rfl,rfl,hx,ru,hT⟩ (.cons h' .nil),r8 bs h0,.cons (.cC hi) (.cons (.cC pd) .nil),List.nodup_nil,rfl,fun k b h=>by simp at h,rfl⟩
namespace aeM
theorem aD{p q:Prop}(k:q)(e:p=q:=by simp only[bc,aZ,aW,aS,bq];exact rfl):p:=e.mpr k
end aeM
open aeM in
theorem rS(n:Int)(h1:-9223372036854775808<=n)(h2:n<=9223372036854775807):ar ae 138 [iL n] (ab (n:Rat)):=by
 refine aE Tryz.func138 ?_;refine cb ?_;refine cp bK (aht _ aa aa) ?_;refine cp am0 (anS) ?_;refine cp iM (xX (decide (n<0)) (ah n.natAbs) (ah 1) (b7 _) (b7 _) (bW (uN.2 aa) aa) (by rw[aed];decide)) ?_;refine ay ?_;rw[<-aaM n];exact ju
open aeM in
theorem afI(n d:Int)(h1:-9223372036854775808<=n)(h2:n<=9223372036854775807)(h3:-9223372036854775808<=d)(h4:d<=9223372036854775807)(hd:d≠0):ar ae 346 [iL n,iL d] (.aQ [ab ((n:Rat)/(d:Rat)),iL 0]):=by
 refine aE Tryz.func346 ?_;refine dk ?_;refine au rfl ?_ ?_<;>intro h7r h7
 ·exact absurd h7 hd
 refine cb ?_;refine cp bK (aht _ aa aa) ?_;refine aT ?_;refine cp bK (aht _ aa aa) ?_;refine cp iM (xX (decide (n<0) != decide (d<0)) (ah n.natAbs) (ah d.natAbs) (b7 _) (b7 _) (bW (uN.2 aa) aa) (bW (uN.2 aa) aa)) ?_;refine aV ?_;rw[<-agl];exact aeq
theorem wI{q:Rat}(h:sG q=true):pN q=q.num.natAbs/\pD q=q.den/\q.num.natAbs<4294967296/\q.den<4294967296:=by
 have h2:=of_decide_eq_true h;exact⟨by simp[pN,h],by simp[pD,h],h2.1,h2.2⟩
theorem gn{x y k l:Nat}(hx:(ah x).length<=k)(hy:(ah y).length<=l):(ah (x*y)).length<=k+l :=
 sq (va (pS hx) (pS hy))
theorem aqf{x y k:Nat}(hx:(ah x).length<=k)(hy:(ah y).length<=k):(ah (x+y)).length<=k+1 :=
 sq (ai2 (pS hx) (pS hy))
def aeD(x y:Nat):List Nat:=if x<y then []else ah (x-y)
def aaW(x y:Nat):Int:=if x<y then 7 else 0
theorem aop(x y:Nat)(hx:(ah x).length<=1099511627776)(hy:(ah y).length<=1099511627776):ar ae 245 [aM x,aM y] (.aQ [dB (aeD x y),iL (aaW x y)]):=by
 unfold aeD aaW;by_cases h:x<y
 ·rw[if_pos h,if_pos h];exact auU _ _ (b7 _) (b7 _) hx hy (by rw[bq,bq];exact h)
 rw[if_neg h,if_neg h];have:=awi _ _ (b7 x) (b7 y) hx hy (by rw[bq,bq];omega);rw[bq,bq]at this;exact this
theorem alc{x y:Nat}:aaW x y=0↔y<=x:=by unfold aaW;split<;>omega
theorem aq3{x y:Nat}(h:y<=x):aeD x y=ah (x-y):=by unfold aeD;rw[if_neg aa]
section
variable {a b:Rat} {s:Bool} {x y d k:Nat}
theorem add_same(hk:0<k)(hx:x*k=a.num.natAbs*b.den)(hy:y*k=b.num.natAbs*a.den)(hd:d*k=a.den*b.den)(h:decide (a<0)=s):a+sM s b=qv s (x+y) d:=by
 have:=aq0 s (n:=a.num.natAbs) (m:=b.num.natAbs) a.den_pos b.den_pos;rw[<-hx,<-hy,<-hd,<-ep,ahN s hk]at this;rw[<-this,sM];subst h;rw[ko]
theorem amU(hk:0<k)(hx:x*k=a.num.natAbs*b.den)(hy:y*k=b.num.natAbs*a.den)(hd:d*k=a.den*b.den)(h:decide (a<0)≠s)(hle:y<=x):a+sM s b=qv (decide (a<0)) (x-y) d:=by
 have:=al6 (decide (a<0)) s (n:=a.num.natAbs) (m:=b.num.natAbs) a.den_pos b.den_pos h (by rw[<-hx,<-hy];exact dT _ hle);rw[<-hx,<-hy,<-hd,<-apU,ahN _ hk]at this;rw[<-this,sM,ko]
theorem amS(hk:0<k)(hx:x*k=a.num.natAbs*b.den)(hy:y*k=b.num.natAbs*a.den)(hd:d*k=a.den*b.den)(h:decide (a<0)≠s)(hle:x<=y):a+sM s b=qv s (y-x) d:=by
 have:=ao4 (decide (a<0)) s (n:=a.num.natAbs) (m:=b.num.natAbs) a.den_pos b.den_pos h (by rw[<-hx,<-hy];exact dT _ hle);rw[<-hx,<-hy,<-hd,<-apU,ahN _ hk]at this;rw[<-this,sM,ko]
end
theorem ag0{a b:Rat}(h:ah (gB a)=ah (gB b)):a.den=b.den:=by
 have h2:gB a=gB b:=by rw[<-bq (gB a),h,bq]
 rw[rO,rO]at h2;have:=a.den_pos;have:=b.den_pos;split at h2<;>split at h2<;>omega
theorem auN{x y k:Nat}(hk:0<k):jF (x*k) (y*k)=jF x y:=by
 simp only[jF,Nat.mul_lt_mul_right hk]
theorem ah9{a b:Rat}(ha:¬a<0)(hb:¬b<0):a<b↔a.num.natAbs*b.den<b.num.natAbs*a.den:=by
 rw[acj]at ha hb;rw[ano];have h1:a.num=(a.num.natAbs:Int):=aa;have h2:b.num=(b.num.natAbs:Int):=aa;rw[h1,h2];simp only[Int.natAbs_natCast]
 exact_mod_cast Iff.rfl
theorem an5{a b:Rat}(ha:a<0)(hb:b<0):a<b↔b.num.natAbs*a.den<a.num.natAbs*b.den:=by
 have:=ah9 (a:=-b) (b:=-a) dR dR;rw[ah2,ah2,aff,aff,afk,afk]at this;rw[<-this];grind
theorem aor{a b:Rat}(h:bY a=bY b):ez a b=if a<0 then-jF (a.num.natAbs*b.den) (b.num.natAbs*a.den)else jF (a.num.natAbs*b.den) (b.num.natAbs*a.den):=by
 have hs:(a<0)↔(b<0):=by
  unfold bY at h;split at h<;>split at h<;>(try split at h)<;>(try split at h)<;>grind
 by_cases ha:a<0
 ·have hb:=hs.1 ha;rw[if_pos ha];simp only[ez,jF,an5 ha hb,an5 hb ha];split<;>split<;>omega
 have hb:=fun h=>ha (hs.2 h);rw[if_neg ha];simp only[ez,jF,ah9 ha hb,ah9 hb ha]
theorem asv{a b:Rat}(h:bY a<bY b):ez a b=-1:=by
 have:a<b:=by unfold bY at h;split at h<;>split at h<;>(try split at h)<;>(try split at h)<;>grind
 simp[ez,this]
theorem ayW{a b:Rat}(h:bY b<bY a):ez a b=1:=by
 have h1:b<a:=by unfold bY at h;split at h<;>split at h<;>(try split at h)<;>(try split at h)<;>grind
 have h2:¬a<b:=dR;simp[ez,h1,h2]
theorem aaC{q:Rat}(h:(ah q.num.natAbs).length=0):q=0:=by
 have:=oX.1 (kJ h);exact aq1.1 aa
theorem aAO{c:Int}{x y:Nat}(h:c=jF x y):IntKind.i64.wrap (0-c)=-c:=by
 have:c=-1\/c=0\/c=1:=by rw[h];unfold jF;split<;>(try split)<;>simp
 rw[IntWalk.i64_in _ aa];omega
end Go.Proofs.YtbgmjcnjbhhljaaGreat
namespace Go.Lg
open Go.Proofs.YtbgmjcnjbhhljaaGreat in
theorem ey.asK{P:Program}{L:St}{dst:Option Nat}{T:TypeId}{p x:Operand}{b:Nat}{q q0:Rat}(hp:L.ev p=.ax b 3 0 0)(hb:L.heap b=some ⟨3,[ab q0],true⟩)(hx:L.ev x=ab q)(hT:aX P T 3 true):
  ey P L dst (.store T p x) ((L.a5 b (some ⟨3,[ab q],true⟩)).put dst .any):=by
 have h0:LV.put (ab q0) 0 (L.ev x)=some (ab q):=by
  rw[hx,qV q0];have e1:∀n,(aM n).aj=1:=fun _=>rfl;simp[LV.put,al.aj,al.isAgg,bI,LV.aj,e1]
 have h:=ey.store (P:=P) (dst:=dst) (T:=T) (p:=p) (x:=x) (y:=ab q0) (y':=ab q) hp hb rfl rfl rfl (al.aj _) h0 (by rw[hx,al.aj,al.isAgg];exact hT)
  (by rw[hx];exact⟨LV.eg (al.pure q),LV.dV (al.pure q)⟩)
 exact h
end Go.Lg
namespace Go.Proofs.YtbgmjcnjbhhljaaGreat
open Go.Lg
open aeM in
theorem mM(q:Rat)(h:rl q<=1099511627776):ar ae 15 [ab q] (iL (bY q)):=by
 have h1:=oh q;have hq:=aAA q;refine aE Tryz.func15 ?_;refine bp ?_;refine cp bK (aay _ fb aa) ?_;refine ay ?_;refine au rfl ?_ ?_<;>intro h3r h3
 ·have hz:q.num.natAbs=0:=sc.1 aa;refine bu ?_;rw[hq,if_pos hz];exact dA
 have hz:q.num.natAbs≠0:=fun e=>by rw[sc.2 e]at h3;exact h3 rfl
 refine aP ?_;refine au rfl ?_ ?_<;>intro oS h8
 ·refine bu ?_;rw[hq,if_neg hz,if_pos h8];exact dA
 refine bx ?_;rw[hq,if_neg hz,if_neg h8];exact dA
open H0 in
theorem aeR(q:Rat)(h:rl q<=1099511627776):ar ae 254 [ab q] (ab q):=by
 have h1:=oh q;have h2:=qJ q;refine aE Tryz.func254 ?_;refine bp ?_;refine cp bK (aa1 _ aa) ?_;refine aR ?_;refine cp bK (aa1 _ aa) ?_;refine aV ?_;rw[qV];exact aaF
namespace aq2
theorem aD{p q:Prop}(k:q)(e:p=q:=by simp only[bc,aZ,aW,aS,bq];exact rfl):p:=e.mpr k
theorem pb{p q:Prop}(k:q)(e:p=q:=by simp only[bc,aZ,aW,aS,bq,mF,mR,nt,mY];exact rfl):p:=e.mpr k
theorem nx{p:Prop}(h:p:=by first|(refine pb ?_;exact rfl)|exact rfl):p:=h
end aq2
open aq2 in
theorem kL(a b:Rat)(h:rl a+rl b<=1099511627776):ar ae 67 [ab a,ab b] (iL (ez a b)):=by
 have a1:=oh a;have a2:=qx a;have a3:=qJ a;have c1:=oh b;have c2:=qx b;have c3:=qJ b;have a0:=a.den_pos;have c0:=b.den_pos;have m1:=gn a1 c2;have m2:=gn c1 a2;have m3:=gn a2 c2;have m4:=gn a1 c1;have m5:=gn a2 c1;have m6:=gn c2 a2;refine aE Tryz.func67 ?_;refine cg ?_;refine cp bK (mM _ aa) ?_;refine aT ?_;refine cp bK (mM _ aa) ?_;refine cg ?_;refine au rfl ?_ ?_<;>intro w6 xF
 ·refine bu ?_;refine au rfl ?_ ?_<;>intro mN mB
  ·refine bu ?_;rw[asv mB];exact dA
  refine bx ?_;rw[ayW aa];exact dA
 have l8:bY a=bY b:=aa;refine cO (wz _) ?_;refine gA ?_;refine cp aK (acV _ _ aa aa) ?_;refine aR ?_;refine fk (fun L=>∃(c:Int) (L1:St),(c=jF (a.num.natAbs*b.den) (b.num.natAbs*a.den))/\L=(mS L1 [(2,⟨3,[ab a],true⟩),(3,⟨3,[ab b],true⟩)] [(7,iL c),(2,.ax 2 3 0 0)])) ?_ ?_
 ·refine au rfl ?_ ?_<;>intro xV tc
  ·refine aV ?_;refine cp aK (abY _ _ (b7 _) (b7 _) sP sP) ?_;refine bw ?_;exact⟨jF a.num.natAbs b.num.natAbs,_,by rw[ag0 tc];exact(auN b.den_pos).symm,ca⟩
  refine cO (wz _) ?_;refine cb ?_;refine fk (fun L=>∃(t:Bool) (L1:St),(t=(sG a&&sG b))/\L=(mS L1 [(2,⟨3,[ab a],true⟩),(3,⟨3,[ab b],true⟩)] [(49,bL t),(12,bP (pD b)),(11,bP (pN b)),(9,bP (pD a)),(8,bP (pN a)),(7,iL 0),(3,.ax 3 3 0 0),(2,.ax 2 3 0 0)])) ?_ ?_
  ·refine bw ?_;refine cz 47 rfl ?_ ?_<;>intro anv h47
   ·refine ay ?_;exact⟨sG b,_,by rw[anv];rfl,ca⟩
   refine ay ?_;exact⟨false,_,by rw[anv];rfl,ca⟩
  rintro _ ⟨t,aCw,ht,rfl⟩;refine aT ?_;refine au rfl ?_ ?_<;>intro aar h49
  ·rw[ht,cY]at aar;obtain⟨mF,mR,k3,k4⟩:=wI aar.1;obtain⟨nt,mY,k7,k8⟩:=wI aar.2;have n1:=qg k3 k8;have n2:=qg k7 k4;have n3:=n1;have n4:=n2;rw[<-mF,<-mY]at n1;rw[<-nt,<-mR]at n2;refine ay ?_;refine ai rfl (.bin rfl rfl (yQ aa)) ?_;refine aR ?_;refine ai rfl (.bin rfl rfl (yQ aa)) ?_;refine aT ?_;refine nL nx ?_;refine aT ?_;refine au rfl ?_ ?_<;>intro aeV h56
   ·refine ay ?_;exact⟨-1,_,(ov aa).symm,ca⟩
   refine ay ?_;refine ai rfl (.bin rfl rfl (yQ aa)) ?_;refine aR ?_;refine ai rfl (.bin rfl rfl (yQ aa)) ?_;refine aT ?_;refine nL nx ?_;refine aT ?_;refine au rfl ?_ ?_<;>intro apW ee
   ·refine ay ?_;exact⟨1,_,(oE aa).symm,ca⟩
   refine aR ?_;exact⟨0,_,(pI aa).symm,ca⟩
  refine xO ?_;refine xO ?_;refine cp aK (abY _ _ (b7 _) (b7 _) sP sP) ?_;refine bw ?_;exact⟨jF (a.num.natAbs*b.den) (b.num.natAbs*a.den),_,rfl,ca⟩
 rintro _ ⟨c,aCD,hc,rfl⟩;refine bu ?_;refine au rfl ?_ ?_<;>intro apQ h76
 ·refine bx ?_;rw[aor l8,if_pos h76,<-hc,<-aAO hc];exact dA
 refine bx ?_;rw[aor l8,if_neg h76,<-hc];exact dA
namespace afz
theorem aD{p q:Prop}(k:q)(e:p=q:=by simp only[bc,aZ,aW,aS,bq,mF,mR,nt,mY];exact rfl):p:=e.mpr k
end afz
open afz in
theorem fo(a b:Rat)(h:rl a+rl b<=1099511627776):ar ae 19 [ab a,ab b] (ab (a*b)):=by
 have a1:=oh a;have a2:=qx a;have a3:=qJ a;have c1:=oh b;have c2:=qx b;have c3:=qJ b;have a0:=a.den_pos;have c0:=b.den_pos;have m1:=gn a1 c2;have m2:=gn c1 a2;have m3:=gn a2 c2;have m4:=gn a1 c1;have m5:=gn a2 c1;have m6:=gn c2 a2;have hE:=aiA (decide (a<0)) (decide (b<0)) a.num.natAbs a.den b.num.natAbs b.den;rw[ko,ko]at hE;refine aE Tryz.func19 ?_;have mF:True:=trivial;have mR:True:=trivial;have nt:True:=trivial;have mY:True:=trivial;refine gA ?_;refine cz 15 rfl ?_ ?_<;>intro mA iR
 ·have hz:a*b=0:=by rw[aaC (q:=a) aa,Rat.zero_mul]
  refine nB ?_;rw[hz,iF];exact zK
 refine aP ?_;refine au rfl ?_ ?_<;>intro w6 xF
 ·have hz:a*b=0:=by rw[aaC (q:=b) aa,Rat.mul_zero]
  refine bu ?_;rw[hz,iF];exact zK
 refine cO (wz _) ?_;refine dx ?_;refine fk (fun L=>∃  (L1:St),(True)/\L=(mS L1 [(2,⟨3,[ab a],true⟩),(3,⟨3,[ab b],true⟩),(4,⟨3,[.agg [.v (.bool false),.list 1 [],.list 1 []]],true⟩)] [(4,.ax 4 3 0 0),(3,.ax 3 3 0 0),(2,.ax 2 3 0 0)])) ?_ ?_
 ·refine au rfl ?_ ?_<;>intro aez h28
  ·obtain⟨mF,mR,k3,k4⟩:=wI aez;refine cO (wz _) ?_;refine dx ?_;refine au rfl ?_ ?_<;>intro tT uZ
   ·obtain⟨nt,mY,k7,k8⟩:=wI tT;have n1:=qg k3 k7;have n2:=qg k4 k8;have np:=sv a0 c0;refine bx ?_;refine ai rfl aab ?_;refine aR ?_;refine ai rfl aab ?_;refine cp iM (z5 _ _ _ wJ (by first|exact np|(simp only[mF,mR,nt,mY];exact np)) wJ) ?_;refine aA ?_;rw[hE];exact ju
   refine aR ?_;exact vB
  refine aR ?_;exact vB
 rintro _ ⟨azv,-,rfl⟩;refine bp ?_;refine cp aK (agk _ _ (b7 _) (b7 _) aa aa) ?_;refine cO (adl _) ?_;refine xO ?_;refine cp iM (xX _ _ _ (b7 _) (b7 _) sP sP) ?_;refine ay ?_;rw[hE];exact ju
open afz in
theorem ze(a b:Rat)(h:rl a+rl b<=1099511627776):ar ae 223 [ab a,ab b] (.aQ [ab (a/b),iL (if b=0 then 3 else 0)]):=by
 have a1:=oh a;have a2:=qx a;have a3:=qJ a;have c1:=oh b;have c2:=qx b;have c3:=qJ b;have a0:=a.den_pos;have c0:=b.den_pos;have m1:=gn a1 c2;have m2:=gn c1 a2;have m3:=gn a2 c2;have m4:=gn a1 c1;have m5:=gn a2 c1;have m6:=gn c2 a2;have hE:=afG (decide (a<0)) (decide (b<0)) a.num.natAbs a.den b.num.natAbs b.den;rw[ko,ko]at hE;refine aE Tryz.func223 ?_;have mF:True:=trivial;have mR:True:=trivial;have nt:True:=trivial;have mY:True:=trivial;refine bp ?_;refine cp bK (mM _ aa) ?_;refine bw ?_;refine au rfl ?_ ?_<;>intro rV nb
 ·have hz:b=0:=by
   unfold bY at nb;split at nb
   ·assumption
   split at nb<;>omega
  refine bx ?_;subst hz;rw[show a/0=0 by rw[tu];simp,iF];exact ado [] rfl rfl rfl rfl rfl bZ (.pure rfl) rfl (.pure rfl)
 have hz:b≠0:=by rintro rfl;exact nb rfl
 have hbn:0<b.num.natAbs:=qa (fun h=>hz (aq1.1 aa));refine cO (wz _) ?_;refine dx ?_;refine fk (fun L=>∃  (L1:St),(True)/\L=(mS L1 [(2,⟨3,[ab a],true⟩),(3,⟨3,[ab b],true⟩),(4,⟨3,[.agg [.v (.bool false),.list 1 [],.list 1 []]],true⟩)] [(5,iL 0),(4,.ax 4 3 0 0),(3,.ax 3 3 0 0),(2,.ax 2 3 0 0)])) ?_ ?_
 ·refine au rfl ?_ ?_<;>intro acB h22
  ·obtain⟨mF,mR,k3,k4⟩:=wI acB;refine cO (wz _) ?_;refine dx ?_;refine au rfl ?_ ?_<;>intro tw ri
   ·obtain⟨nt,mY,k7,k8⟩:=wI tw;have n1:=qg k3 k8;have n2:=qg k4 k7;have np:=sv a0 hbn;refine bx ?_;refine ai rfl aab ?_;refine aR ?_;refine ai rfl aab ?_;refine cp iM (z5 _ _ _ wJ (by first|exact np|(simp only[mF,mR,nt,mY];exact np)) wJ) ?_;refine aP ?_;rw[hE,if_neg hz];exact aeq
   refine aR ?_;exact vB
  refine aR ?_;exact vB
 rintro _ ⟨aCp,-,rfl⟩;refine xO ?_;refine cO (adl _) ?_;refine aR ?_;refine cp aK (agk _ _ (b7 _) (b7 _) aa aa) ?_;refine cp iM (xX _ _ _ (b7 _) (b7 _) sP sP) ?_;refine aV ?_;rw[hE,if_neg hz];exact aeq
theorem acL{p s:Bool}(h:(p==s)=false):p≠s:=ga
namespace ai0
theorem aD{p q:Prop}(k:q)(e:p=q:=by simp only[bc,aZ,aW,aS,bq,Nat.one_mul,Nat.mul_one,eS,eK,eSb,eSc,mF,mR,nt,mY];exact rfl):p:=e.mpr k
end ai0
open ai0 in
theorem ak2(a b:Rat)(s:Bool)(h:rl a+rl b<=549755813888):ar ae 147 [ab a,ab b,bL s] (ab (a+sM s b)):=by
 have a1:=oh a;have a2:=qx a;have a3:=qJ a;have c1:=oh b;have c2:=qx b;have c3:=qJ b;have a0:=a.den_pos;have c0:=b.den_pos;have m1:=gn a1 c2;have m2:=gn c1 a2;have m3:=gn a2 c2;have m4:=gn a1 c1;have m5:=gn a2 c1;have m6:=gn c2 a2;have mm:=aqf (k:=rl a+rl b) m1 aa;refine aE Tryz.func147 ?_;have eS:True:=trivial;have eK:True:=trivial;have eSb:True:=trivial;have eSc:True:=trivial;have mF:True:=trivial;have mR:True:=trivial;have nt:True:=trivial;have mY:True:=trivial;refine cO (wz _) ?_;refine dx ?_;refine fk (fun L=>∃  (L1:St),(True)/\L=(mS L1 [(3,⟨3,[ab a],true⟩),(4,⟨3,[ab b],true⟩),(6,⟨3,[.agg [.v (.bool false),.list 1 [],.list 1 []]],true⟩)] [(6,.ax 6 3 0 0),(4,.ax 4 3 0 0),(3,.ax 3 3 0 0),(2,bL s)])) ?_ ?_
 ·refine au rfl ?_ ?_<;>intro aez h28
  ·obtain⟨mF,mR,k3,k4⟩:=wI aez;refine cO (wz _) ?_;refine dx ?_;refine au rfl ?_ ?_<;>intro tT uZ
   ·obtain⟨nt,mY,k7,k8⟩:=wI tT;have n1:=qg k3 k8;have n2:=qg k7 k4;have n3:=qg k4 k8;have np:=sv a0 c0;refine ay ?_;refine ai rfl aab ?_;refine aR ?_;refine ai rfl aab ?_;refine aV ?_;have eS:(((a.num.natAbs*b.den:Nat):Int)+((b.num.natAbs*a.den:Nat):Int)+0)%18446744073709551616=(((a.num.natAbs*b.den+b.num.natAbs*a.den)%18446744073709551616:Nat):Int):=aa;have eK:(((a.num.natAbs*b.den:Nat):Int)+((b.num.natAbs*a.den:Nat):Int)+0)/18446744073709551616=(((a.num.natAbs*b.den+b.num.natAbs*a.den)/18446744073709551616:Nat):Int):=aa;refine bw ?_;refine ai rfl (.v9 Tryz.func244 rfl rfl rfl rfl (vs:=[.int .u64 ((a.num.natAbs*b.den:Nat):Int),.int .u64 ((b.num.natAbs*a.den:Nat):Int),.int .u64 0]) rfl (fun w=>run_add64 _ _ _ aa aa aa aa w) rfl rfl) ?_;refine gA ?_;refine cz 53 rfl ?_ ?_<;>intro tJ h53
    ·refine aA ?_;refine au rfl ?_ ?_<;>intro aqN h48
     ·refine kP (z5 s ((a.num.natAbs*b.den+b.num.natAbs*a.den)%18446744073709551616) (a.den*b.den) aa np aa) ?_;refine aP ?_;have wG:a.num.natAbs*b.den+b.num.natAbs*a.den<18446744073709551616:=aa;rw[add_same (k:=1) (x:=a.num.natAbs*b.den) (y:=b.num.natAbs*a.den) (d:=a.den*b.den) aa (kx _) (kx _) (kx _) (eq_of_beq tJ),show qv s (a.num.natAbs*b.den+b.num.natAbs*a.den) (a.den*b.den)=qv s ((a.num.natAbs*b.den+b.num.natAbs*a.den)%18446744073709551616) (a.den*b.den) by rw[fa wG]];exact ju
     refine aP ?_;refine fQ afh ?_;refine fQ afh ?_;refine fQ afh ?_;refine ai rfl (.kO rfl ((by rw[tJ];rfl))) ?_;refine dk ?_;refine rX (b:=_) rfl (by rw[tJ];rfl) ?_;refine bw ?_;exact vB
    refine dx ?_;refine ai ag1 (.move _) ?_;refine ai ag1 (.move _) ?_;refine ai ag1 (.bin rfl rfl rfl) ?_;refine ai rfl (.uf rfl ((by rw[tJ];rfl))) ?_;refine bw ?_;refine au rfl ?_ ?_<;>intro apW ee
    ·refine cb ?_;refine cp iM (z5 _ _ _ wJ (by first|exact np|(simp only[mF,mR,nt,mY];exact np)) wJ) ?_;refine aP ?_;rw[amU (k:=1) (x:=a.num.natAbs*b.den) (y:=b.num.natAbs*a.den) (d:=a.den*b.den) aa (kx _) (kx _) (kx _) (acL tJ) aa];exact ju
    refine bx ?_;refine pY (b:=_) rfl (by rw[tJ];rfl) ?_;refine bx ?_;refine cp iM (z5 _ _ _ wJ (by first|exact np|(simp only[mF,mR,nt,mY];exact np)) wJ) ?_;refine aP ?_;rw[amS (k:=1) (x:=a.num.natAbs*b.den) (y:=b.num.natAbs*a.den) (d:=a.den*b.den) aa (kx _) (kx _) (kx _) (acL tJ) aa];exact ju
   refine aR ?_;exact vB
  refine aR ?_;exact vB
 rintro _ ⟨azv,-,rfl⟩;refine cO (adl _) ?_;refine bp ?_;refine cp aK (acV _ _ aa aa) ?_;refine bw ?_;refine fk (fun L=>∃(x:Nat) (y:Nat) (d:Nat) (L1:St),(∃k,0<k/\x*k=a.num.natAbs*b.den/\y*k=b.num.natAbs*a.den/\d*k=a.den*b.den/\0<d/\(ah x).length<=rl a+rl b/\(ah y).length<=rl a+rl b/\(ah d).length<=rl a+rl b)/\L=(mS L1 [(3,⟨3,[ab a],true⟩),(4,⟨3,[ab b],true⟩),(6,⟨3,[.agg [.v (.bool false),.list 1 [],.list 1 []]],true⟩)] [(17,aM d),(16,aM y),(15,aM x),(6,.ax 6 3 0 0),(4,.ax 4 3 0 0),(3,.ax 3 3 0 0),(2,bL s)])) ?_ ?_
 ·refine au rfl ?_ ?_<;>intro ar7 yl
  ·refine xO ?_;refine xO ?_;refine xO ?_;refine aV ?_;exact⟨a.num.natAbs*b.den,b.num.natAbs*a.den,a.den*b.den,_,⟨1,aa,kx _,kx _,kx _,sv a0 c0,m1,aa,m3⟩,ca⟩
  have hde:=ag0 yl;refine aR ?_;exact⟨a.num.natAbs,b.num.natAbs,a.den,_,⟨a.den,a0,by rw[hde],rfl,by rw[hde],a0,aa,aa,aa⟩,ca⟩
 rintro _ ⟨x,y,d,aCo,⟨k,hk,hx,hy,hd,gu,lx,ly,ld⟩,rfl⟩;have lxy:=aqf lx ly;have lxs:(ah (x-y)).length<=rl a+rl b:=bW (lJ (ais _ _)) lx;have lys:(ah (y-x)).length<=rl a+rl b:=bW (lJ (ais _ _)) ly;refine cb ?_;refine au rfl ?_ ?_<;>intro agv aBD
 ·refine aV ?_;refine cp aK (afK _ _ (b7 _) (b7 _) aa aa) ?_;refine aT ?_;refine cp iM (xX _ _ _ (b7 _) (b7 _) sP sP) ?_;refine aV ?_;rw[add_same hk hx hy hd (eq_of_beq agv)];exact ju
 refine aP ?_;refine cp aK (aop _ _ aa aa) ?_;refine dk ?_;refine au rfl ?_ ?_<;>intro aB3 aCd
 ·have hle:=alc.1 (show aaW x y=0 by omega);have eSb:=aq3 hle;refine aA ?_;refine cp iM (xX _ _ _ (by rw[eSb];exact b7 _) (b7 _) (by rw[eSb];omega) aa) ?_;refine aV ?_;rw[amU hk hx hy hd (acL agv) hle];exact ju
 have hle:x<=y:=by
  rcases al1 x y with h|h
  ·exact h
  have:=alc.2 h;omega
 have eSc:=aq3 hle;refine aA ?_;refine cp aK (aop _ _ aa aa) ?_;refine bp ?_;refine cp iM (xX _ _ _ (b7 _) (b7 _) aa aa) ?_;refine ay ?_;rw[amS hk hx hy hd (acL agv) hle];exact ju
theorem aaO{a b:Rat}:ez b a<0↔b<a:=by unfold ez;split<;>(try split)<;>grind
theorem acf{a b:Rat}:ez b a > 0↔a<b:=by unfold ez;split<;>(try split)<;>grind
open H0 in
theorem gY(a b:Rat)(h:rl a+rl b<=549755813888):ar ae 59 [ab a,ab b] (ab (a+b)):=by
 refine aE Tryz.func59 ?_;refine dk ?_;refine cp iM (ak2 _ _ _ aa) ?_;refine ay ?_;exact iV [] rfl rfl rfl (al.aj _) (pC _) bZ (by rw[ayN];exact .pure (al.pure _))
open H0 in
theorem ot(a b:Rat)(h:rl a+rl b<=549755813888):ar ae 60 [ab a,ab b] (ab (a-b)):=by
 refine aE Tryz.func60 ?_;refine dx ?_;refine cp iM (ak2 _ _ _ aa) ?_;refine ay ?_;rw[Rat.sub_eq_add_neg];exact iV [] rfl rfl rfl (al.aj _) (pC _) bZ (by rw[axN];exact .pure (al.pure _))
open H0 in
theorem apY(a b:Rat)(h:rl a+rl b<=549755813888):ar ae 242 [ab a,ab b] (ab (if b<a then b else a)):=by
 refine aE Tryz.func242 ?_;refine bp ?_;refine cp aK (kL _ _ aa) ?_;refine bw ?_;refine fk (fun L=>∃(q:Rat) (L1:St),(q=(if b<a then b else a)/\rl q<=549755813888)/\L=(mS L1 [(2,⟨3,[ab q],true⟩),(3,⟨3,[ab b],true⟩),(4,⟨3,[.agg [.v (.bool false),.list 1 [],.list 1 []]],true⟩)] [(4,.ax 4 3 0 0),(2,.ax 2 3 0 0)])) ?_ ?_
 ·refine au rfl ?_ ?_<;>intro oS h8
  ·refine aV ?_;exact⟨b,_,⟨by rw[if_pos (aaO.1 h8)],aa⟩,ca⟩
  refine aR ?_;exact⟨a,_,⟨by rw[if_neg (fun h=>h8 (aaO.2 h))],aa⟩,ca⟩
 rintro _ ⟨q,LC8,⟨hq,hJ⟩,rfl⟩;refine ay ?_;refine cp bK (aeR _ aa) ?_;refine ay ?_;rw[<-hq];exact ju
open H0 in
theorem ane(a b:Rat)(h:rl a+rl b<=549755813888):ar ae 243 [ab a,ab b] (ab (if a<b then b else a)):=by
 refine aE Tryz.func243 ?_;refine bp ?_;refine cp aK (kL _ _ aa) ?_;refine bw ?_;refine fk (fun L=>∃(q:Rat) (L1:St),(q=(if a<b then b else a)/\rl q<=549755813888)/\L=(mS L1 [(2,⟨3,[ab q],true⟩),(3,⟨3,[ab b],true⟩),(4,⟨3,[.agg [.v (.bool false),.list 1 [],.list 1 []]],true⟩)] [(4,.ax 4 3 0 0),(2,.ax 2 3 0 0)])) ?_ ?_
 ·refine au rfl ?_ ?_<;>intro oS h8
  ·refine aV ?_;exact⟨b,_,⟨by rw[if_pos (acf.1 h8)],aa⟩,ca⟩
  refine aR ?_;exact⟨a,_,⟨by rw[if_neg (fun h=>h8 (acf.2 h))],aa⟩,ca⟩
 rintro _ ⟨q,LC8,⟨hq,hJ⟩,rfl⟩;refine ay ?_;refine cp bK (aeR _ aa) ?_;refine ay ?_;rw[<-hq];exact ju
theorem axy{o:List Nat}{N:Nat}(hL:bh o)(hv:val o=N)(h:o.length=0\/4294967296^(o.length-1)<=N):o=ah N:=by
 have h1:(ah N).length<=o.length:=by rw[<-hv];exact aqr hL
 have h2:o.length<=(ah N).length:=by
  rcases h with h|h
  ·omega
  rcases fH (ah N).length o.length with bT|jS
  ·have:=pS (n:=N) (k:=o.length-1) aa;omega
  exact jS
 have e1:=aeB hL rfl;have e2:=aeB (b7 N) rfl;rw[e1,e2,bq,hv];congr 1;omega
theorem awg{m:Nat}(h:(ah m).length=2):m=(ah m).getD 1 0*4294967296+(ah m).getD 0 0:=by
 have e:=bq m;generalize ah m=l at h e
 match l,h with
 | [x,y],_=>rw[val_two]at e;simp;omega
theorem orC{a b:Nat}(hb:b<4294967296)(hx:a<4294967296):cj .or .u64 (b:Nat) ((a*4294967296:Nat):Int)=some (.int .u64 ((a*4294967296+b:Nat):Int)):=orV (s:=32) hb aa
theorem tW:(0:Int).toNat=0:=rfl
theorem tz1:(1:Int).toNat=1:=rfl
theorem anb{α β:Type}(f:α->β)(o:List α):(o.map f).take o.length=o.map f:=by rw[cW az]
theorem alG{α β:Type}(f:α->β)(o:List α)(x:α):o.map f++[f x]=(o++[x]).map f:=az
theorem aah{α:Type}(o:List α)(x:α):(o++[x]).length=o.length+1:=az
theorem jW:type_of% (bG (@anb) (bG (@alG) (@aah))):=bG (@anb) (bG (@alG) (@aah))
theorem akS(o:List Nat)(x:Nat):val (o++[x])=val o+4294967296^o.length*x:=by rw[aaI];simp[val]
theorem alM{o:List Nat}(h:bh o){x:Nat}(hx:x<4294967296):bh (o++[x]):=aks h (fun y hy=>by simp at hy;omega)
section
variable {m n c s:Nat} {o:List Nat}
theorem azs{m k:Nat}(h:(ah m).length<=k):val ((ah m).take k)=m:=by rw[cW h,bq]
theorem aju{m:Nat}(h:0<(ah m).length):4294967296^((ah m).length-1)<=m:=by
 rcases fH m (4294967296^((ah m).length-1))with h1|h1
 ·have:=sq h1;omega
 exact h1
end
theorem awF{k br y2 s9 x:Nat}{a b o:List Nat}(cf:k<o.length)(bD:bh o)(iC:br<=1)(x5:a.getD k 0<4294967296)(tO:b.getD k 0<4294967296)(hv:val (o.take k)+val (b.take k)=val (a.take k)+4294967296^k*br)(hx:x=br+b.getD k 0)
  (h:(a.getD k 0<x/\y2=a.getD k 0+4294967296/\s9=1)\/(x<=a.getD k 0/\y2=a.getD k 0/\s9=0)) :
  x<=y2/\s9<=1/\bh (o.set k ((y2-x)%4294967296))/\val ((o.set k ((y2-x)%4294967296)).take (k+1))+val (b.take (k+1))=val (a.take (k+1))+4294967296^(k+1)*s9:=by
 rcases h with⟨h1,rfl,rfl⟩|⟨h1,rfl,rfl⟩
 ·refine⟨aa,aa,ja bD _ _ aa,?_⟩;rw[show (a.getD k 0+4294967296-x)%4294967296=4294967296+a.getD k 0-x by omega];exact ans cf hv hx h1 aa
 refine⟨aa,aa,ja bD _ _ aa,?_⟩;rw[fa (by omega:a.getD k 0-x<4294967296)];exact al4 cf hv hx h1
namespace ajY
theorem aD{p q:Prop}(k:q)(e:p=q:=by simp only[bc,aZ,aW,aS,ej,ek,dU,List.take_zero,gE,eF,cT eu,LV.kill];exact rfl):p:=e.mpr k
end ajY
open ajY in
theorem qn(l:List Nat)(h:bh l)(hl:l.length<=4398046511104):ar ae 289 [dB l] (aM (val l)):=by
 unfold dB aM;rw[<-qw h];unfold sF;refine aE Tryz.func289 ?_;have ej:True:=trivial;have ek:True:=trivial;refine dx ?_;refine da (fun(k:Nat) L=>(mS L [] [(3,ak k),(0,.list 1 (l.map aO))])) (fun k=>k<=l.length/\fD l.length l=fD k l) (fun k=>k) l.length ⟨bA _,rfl⟩ ?_;rintro k L1 ⟨hk,kN⟩;refine aA ?_;refine cz 8 rfl ?_ ?_<;>intro oS h8
 ·obtain⟨j,rfl⟩:∃j,k=j+1:=⟨k-1,aa⟩;have ej:(((j+1:Nat):Int)-1).toNat=j:=aa;have ek:(((j+1:Nat):Int)-1)=j:=aa;refine bx ?_;refine au rfl ?_ ?_<;>intro mA iR
  ·refine cb ?_;exact fj j ⟨aa,kN.trans (by simp only[fD];rw[if_pos (by simpa using iR)])⟩
  refine cb ?_;refine ai rfl aas ?_;refine dH rfl akA ?_;refine ay ?_;rw[kN,fD,if_neg (show ¬l.getD j 0=0 by omega)];exact nq [22] rfl rfl (eM eu rfl rfl rfl)
 have kF:k=0:=aa;subst kF;refine iQ ?_;refine ai rfl aas ?_;refine dH rfl akA ?_;refine ay ?_;rw[kN,show fD 0 l=0 from rfl];exact nq [22] rfl rfl (eM eu rfl rfl rfl)
open H0 in
theorem wU(n:Nat)(hn:n<18446744073709551616):ar ae 224 [bP n] (aM n):=by
 have hL:bh [n%4294967296,n/4294967296%4294967296]:=by
  intro x hx;simp at hx;omega
 have hV:val [n%4294967296,n/4294967296%4294967296]=n:=by rw[val_two];omega
 refine aE Tryz.func224 ?_;refine dk ?_;refine n9 [8] oc (qn _ fb oC) ?_;refine ay ?_;exact cm rfl (by rw[hV];exact .pure (gw _))
namespace ajk
theorem aD{p q:Prop}(k:q)(e:p=q:=by simp only[bc,aZ,aW,aS,dU,tW,tz1];exact rfl):p:=e.mpr k
end ajk
open ajk in
theorem acz(m:Nat)(hl:(ah m).length<=1099511627776):ar ae 316 [aM m] (.aQ [bP (if m<18446744073709551616 then m else 0),bL (decide (m<18446744073709551616))]):=by
 have gu:=fv m 0;have nu:=fv m 1;refine aE Tryz.func316 ?_;refine iQ ?_;refine au rfl ?_ ?_<;>intro h6r h6
 ·have hm:m=0:=oX.1 (kJ aa);refine bx ?_;subst hm;exact pt rfl (.pure rfl) rfl (.pure rfl)
 refine aA ?_;refine au rfl ?_ ?_<;>intro oS h8
 ·have hm:=wM (n:=m) aa;have fh:=pj.1 (show (ah m).length<=1 by omega);refine dk ?_;rw[if_pos aa,decide_eq_true aa];refine pt (x:=bP ((ah m).getD 0 0)) rfl ?_ rfl (.pure rfl);rw[hm.1];exact .pure rfl
 refine aA ?_;refine au rfl ?_ ?_<;>intro rV nb
 ·have h2v:m=(ah m).getD 1 0*4294967296+(ah m).getD 0 0:=awg aa;have fh:=uN.1 (show (ah m).length<=2 by omega);refine cb ?_;refine ai rfl (.sh rfl rfl (aa3 (by simp only[dU,tW,tz1];omega))) ?_;refine ai rfl (.bin rfl rfl (orC (by simp only[dU,tW,tz1];omega) (by simp only[dU,tW,tz1];omega))) ?_;refine aP ?_;rw[if_pos fh,decide_eq_true fh];refine pt (x:=bP ((ah m).getD 1 0*4294967296+(ah m).getD 0 0)) rfl ?_ rfl (.pure rfl);rw[<-h2v];exact .pure rfl
 have fh:¬m<18446744073709551616:=fun h=>by have:=uN.2 h;omega
 refine cb ?_;rw[if_neg fh,decide_eq_false fh];exact pt rfl (.pure rfl) rfl (.pure rfl)
open aai in
theorem apg(m n:Nat)(eU:(ah m).length<=1099511627776)(jT:(ah n).length<=1099511627776):ar ae 121 [aM m,aM n] (iL (jF m n)):=by
 refine aE Tryz.func121 ?_;have ej:True:=trivial;have ek:True:=trivial;refine gA ?_;refine au rfl ?_ ?_<;>intro qL vb
 ·refine cb ?_;refine au rfl ?_ ?_<;>intro mA iR
  ·have hE:=acE (m:=m) (n:=n) aa;refine bu ?_
   first|(rw[ov hE];exact cm rfl (.pure rfl))|(rw[oE hE];exact cm rfl (.pure rfl))|(rw[pI hE];exact cm rfl (.pure rfl))
  have hE:=acE (m:=n) (n:=m) aa;refine bx ?_
  first|(rw[ov hE];exact cm rfl (.pure rfl))|(rw[oE hE];exact cm rfl (.pure rfl))|(rw[pI hE];exact cm rfl (.pure rfl))
 have hlen:(ah m).length=(ah n).length:=aa;clear vb qL;refine bp ?_;refine da (fun(k:Nat) L=>(mS L [] [(5,iL ((k:Int)-1)),(1,aM n),(0,aM m)])) (fun k=>k<=(ah m).length/\(ah m).drop k=(ah n).drop k) (fun k=>k) ((ah m).length) ⟨bA _,by rw[aiI,iP aa]⟩ ?_;rintro k L1 ⟨hk,hd⟩;refine aP ?_;refine au rfl ?_ ?_<;>intro w6 xF
 ·obtain⟨j,rfl⟩:∃j,k=j+1:=⟨k-1,aa⟩;have ej:(((j+1:Nat):Int)-1).toNat=j:=aa;have ek:(((j+1:Nat):Int)-1)=j:=aa;refine qP ?_;refine au rfl ?_ ?_<;>intro an3 h31
  ·have hE:=aeh (b7 m) (k:=j) aa aa hd aa;rw[bq,bq]at hE;refine bp ?_
   first|(rw[ov hE];exact cm rfl (.pure rfl))|(rw[oE hE];exact cm rfl (.pure rfl))|(rw[pI hE];exact cm rfl (.pure rfl))
  refine gA ?_;refine au rfl ?_ ?_<;>intro abr h40
  ·have hE:=aeh (b7 n) (k:=j) aa aa hd.symm aa;rw[bq,bq]at hE;refine cg ?_
   first|(rw[ov hE];exact cm rfl (.pure rfl))|(rw[oE hE];exact cm rfl (.pure rfl))|(rw[pI hE];exact cm rfl (.pure rfl))
  refine bx ?_;exact fj j ⟨aa,ak7 aa aa hd aa⟩
 obtain rfl:k=0:=aa;rw[gX,gX]at hd;have hE:m=n:=by have:=congrArg val hd;rwa[bq,bq]at this
 refine cg ?_
 first|(rw[ov hE];exact cm rfl (.pure rfl))|(rw[oE hE];exact cm rfl (.pure rfl))|(rw[pI hE];exact cm rfl (.pure rfl))
open yR in
theorem akY(m n:Nat)(eU:(ah m).length<=1099511627776)(jT:(ah n).length<=1099511627776)(hle:n<=m):ar ae 291 [aM m,aM n] (aM (m-n)):=by
 have uW:=lJ hle;refine aE Tryz.func291 ?_;refine bx ?_;refine eD rfl rfl (.gC (n:=(ah m).length) (m:=(ah m).length) ml ml om om om) ?_;refine gA ?_;refine ow (fun(k:Nat) (o:List Nat) (br:Nat) L=>(mS L [(12,⟨1,o.map aO,true⟩)] [(7,ak k),(6,bP br),(5,.ref 12 1 0 (ah m).length),(1,aM n),(0,aM m)])) (fun k o br=>k<=(ah m).length/\o.length=(ah m).length/\br<=1/\bh o/\val (o.take k)+val ((ah n).take k)=val ((ah m).take k)+4294967296^k*br) (fun k o br=>(ah m).length-k) 0 (aJ (ah m).length 0) 0 ⟨bJ _,by simp,aa,qI _,by simp[val]⟩ ?_;rintro k o br L1 ⟨hk,cf,iC,bD,hv⟩;have qp:=fv m k;have hyk:=fv n k;refine bx ?_;refine au rfl ?_ ?_<;>intro nn jJ
 ·refine nk ?_;refine fk (fun L=>∃(x:Nat) (L1:St),(x=br+(ah n).getD k 0)/\L=(mS L1 [(12,⟨1,o.map aO,true⟩)] [(8,bP x),(7,ak k),(6,bP br),(5,.ref 12 1 0 (ah m).length),(1,aM n),(0,aM m)])) ?_ ?_
  ·refine au rfl ?_ ?_<;>intro mN mB
   ·refine cg ?_;exact⟨br+(ah n).getD k 0,_,rfl,ca⟩
   refine aR ?_;exact⟨br,_,by rw[uR _ k aa];rfl,ca⟩
  rintro _ ⟨x,aBV,hx,rfl⟩;refine wX ?_;refine fk (fun L=>∃(y2:Nat) (s9:Nat) (L1:St),(((ah m).getD k 0<x/\y2=(ah m).getD k 0+4294967296/\s9=1)\/(x<=(ah m).getD k 0/\y2=(ah m).getD k 0/\s9=0))/\L=(mS L1 [(12,⟨1,o.map aO,true⟩)] [(9,bP y2),(8,bP x),(7,ak k),(6,bP s9),(5,.ref 12 1 0 (ah m).length),(1,aM n),(0,aM m)])) ?_ ?_
  ·refine au rfl ?_ ?_<;>intro avo h38
   ·refine cg ?_;exact⟨(ah m).getD k 0+4294967296,1,_,.inl ⟨aa,rfl,rfl⟩,ca⟩
   refine aR ?_;exact⟨(ah m).getD k 0,0,_,.inr ⟨aa,rfl,rfl⟩,ca⟩
  rintro _ ⟨y2,s9,aCH,hf,rfl⟩;obtain⟨zI,lr,pV,hf4⟩:=awF aa bD iC qp hyk hv hx hf;refine nk ?_;exact nN (k+1) (o.set k ((y2-x)%4294967296)) s9 ⟨aa,by simp[cf],lr,pV,hf4⟩
 obtain rfl:k=(ah m).length:=aa;refine bu ?_;refine n9 [12] oc (qn _ fb oC) ?_;refine ay ?_;have e:=amm (b7 m) bD cf uW (by rw[bq,bq];exact hle) hv;rw[qw bD,bq,bq]at e;have e2:=congrArg val e;rw[bq,bq]at e2;rw[<-e2];exact dA
theorem axs{x:Nat}(h:0<x):cx x=cx (x/2^1)+1:=by
 have:=aen (n:=x) (k:=1);rcases fH x 2 with h1|h1
 ·obtain rfl:x=1:=aa;rfl
 rw[this aa];omega
open ahy in
theorem ayi(m n:Nat)(eU:(ah m).length<=1099511627776)(jT:(ah n).length<=1099511627776):ar ae 210 [aM m,aM n] (aM (m*n)):=by
 refine aE Tryz.func210 ?_;have g7:True:=trivial;refine bp ?_;refine eD rfl rfl (.gC (n:=(ah m).length+(ah n).length) (m:=(ah m).length+(ah n).length) ml ml om om om) ?_;refine cb ?_;refine iy (fun(i:Nat) (o:List Nat) L=>(mS L [(14,⟨1,o.map aO,true⟩)] [(6,ak i),(5,.ref 14 1 0 ((ah m).length+(ah n).length)),(1,aM n),(0,aM m)])) (fun i o=>i<=(ah m).length/\o.length=(ah m).length+(ah n).length/\bh o/\val o=val ((ah m).take i)*val (ah n)/\∀p,i+(ah n).length<=p->o.getD p 0=0) (fun i o=>(ah m).length-i) 0 (aJ ((ah m).length+(ah n).length) 0) ⟨bJ _,by simp,qI _,by simp[val,aeA],fun p _=>ajA _ _⟩ ?_;rintro i o L1 ⟨hi,cf,bD,hv,hz⟩;have uG:=fv m i;refine bx ?_;refine au rfl ?_ ?_<;>intro abe xU
 ·refine nB ?_;refine ow (fun(j:Nat) (o:List Nat) (c:Nat) L=>(mS L [(14,⟨1,o.map aO,true⟩)] [(8,ak j),(7,bP c),(6,ak i),(5,.ref 14 1 0 ((ah m).length+(ah n).length)),(1,aM n),(0,aM m)])) (fun j o c=>j<=(ah n).length/\o.length=(ah m).length+(ah n).length/\bh o/\c<4294967296/\val o+4294967296^(i+j)*c=val ((ah m).take i)*val (ah n)+4294967296^i*((ah m).getD i 0*val ((ah n).take j))/\∀p,i+(ah n).length<=p->o.getD p 0=0) (fun j o c=>(ah n).length-j) 0 o 0 ⟨bJ _,cf,bD,aa,by rw[hv];simp[val],hz⟩ ?_;rintro j o c L2 ⟨hj,cf,bD,hc,hv,hz⟩;have hyj:=fv n j;have hzj:=fi bD (i+j);have hs:=ari hc uG hyj hzj;have g7:((i:Int)+(j:Int)).toNat=i+j:=aa;refine bx ?_;refine au rfl ?_ ?_<;>intro vk h24
  ·refine axR ?_;exact nN (j+1) (o.set (i+j) ((c+((ah m).getD i 0*(ah n).getD j 0+o.getD (i+j) 0))%4294967296)) ((c+((ah m).getD i 0*(ah n).getD j 0+o.getD (i+j) 0))/4294967296) ⟨aa,by simp[cf],ja bD _ _ (gl _ aa),aa,apu aa hv rfl,aiG aa hz⟩
  obtain rfl:j=(ah n).length:=aa;have auV:((i:Int)+((ah n).length:Int)).toNat=i+(ah n).length:=aa;refine wX ?_;exact fC (i+1) (o.set (i+(ah n).length) (c%4294967296)) ⟨aa,by simp[cf],ja bD _ _ (gl _ aa),by rw[fa hc];exact akL aa aa (hz _ (bA _)) rfl rfl hv,al5 hz⟩
 obtain rfl:i=(ah m).length:=aa;refine bu ?_;refine n9 [14] oc (qn _ fb oC) ?_;refine ay ?_;rw[je,bq,bq]at hv;rw[<-hv];exact dA
open H0 in
theorem awN(m d:Nat)(eU:(ah m).length<=549755813888)(hd:d<4294967296):ar ae 325 [aM m,mj d] (aM (m*d)):=by
 have hld:(ah d).length<=1:=pj.2 hd;refine aE Tryz.func325 ?_;refine cb ?_;refine cp bK (wU _ aa) ?_;refine cp aK (ayi _ _ aa aa) ?_;refine ay ?_;exact dA
open aai in
theorem asn(m d:Nat)(eU:(ah m).length<=1099511627776)(gu:0<d)(hd:d<4294967296):ar ae 321 [aM m,mj d] (.aQ [aM (m/d),mj (m%d)]):=by
 refine aE Tryz.func321 ?_;have ej:True:=trivial;have ek:True:=trivial;refine cb ?_;refine eD rfl rfl (.gC (n:=(ah m).length) (m:=(ah m).length) ml ml om om om) ?_;refine qP ?_;refine ow (fun(k:Nat) (q:List Nat) (r:Nat) L=>(mS L [(11,⟨1,q.map aO,true⟩)] [(8,iL ((k:Int)-1)),(7,bP r),(6,.ref 11 1 0 (ah m).length),(1,mj d),(0,aM m)])) (fun k q r=>k<=(ah m).length/\q.length=(ah m).length/\bh q/\r<d/\val (q.drop k)*d+r=val ((ah m).drop k)) (fun k q r=>k) ((ah m).length) (aJ (ah m).length 0) 0 ⟨bA _,by simp,qI _,gu,by simp[val]⟩ ?_;rintro k q r L1 ⟨hk,hJ,ka,hr,hv⟩;refine aP ?_;refine au rfl ?_ ?_<;>intro nn jJ
 ·obtain⟨j,rfl⟩:∃j,k=j+1:=⟨k-1,aa⟩;have ej:(((j+1:Nat):Int)-1).toNat=j:=aa;have ek:(((j+1:Nat):Int)-1)=j:=aa;have hxj:=fv m j;refine wX ?_;refine ai rfl abh ?_;refine iQ ?_;exact nN j (q.set j ((r*4294967296+(ah m).getD j 0)/d%4294967296)) ((r*4294967296+(ah m).getD j 0)%d) ⟨aa,by simp[hJ],ja ka _ _ (gl _ aa),gl _ gu,by rw[fa (aja hr hxj)];exact aj0 aa hJ hv rfl⟩
 obtain rfl:k=0:=aa;refine bu ?_;refine n9 [11] oc (qn _ fb oC) ?_;refine aP ?_;obtain⟨E1,E2⟩:=aln gu hr ka hv;rw[qw ka]at E1;have E3:=congrArg val E1;rw[bq,bq,bq]at E3;rw[bq]at E2;rw[<-E3,<-E2];have E4:r%4294967296=r:=fa aa;refine pt rfl (.pure (gw _)) rfl ?_;show bR _ (mj (r%4294967296)) (mj r);rw[E4];exact .pure rfl
open abV in
theorem aBn(m:Nat)(eU:(ah m).length<=1099511627776):ar ae 322 [aM m] (iL (cx m)):=by
 refine aE Tryz.func322 ?_;have ej:True:=trivial;refine dk ?_;refine au rfl ?_ ?_<;>intro h7r h7
 ·have hz:m=0:=oX.1 (kJ aa);subst hz;refine aP ?_;exact dA
 have lW:0<(ah m).length:=aa;have ej:(((ah m).length:Int)-1).toNat=(ah m).length-1:=aa;have hz:=ai9 lW;have xR:=fv m ((ah m).length-1);have ahD:cx ((ah m).getD ((ah m).length-1) 0)<=32:=qM.2 xR;refine wX ?_;refine iy (fun(x q:Nat) L=>(mS L [] [(4,mj x),(3,ak q)])) (fun x q=>q+cx x=cx m/\x<4294967296/\cx m<=35184372088832) (fun x q=>x) ((ah m).getD ((ah m).length-1) 0) (32*((ah m).length-1)) ⟨hz,xR,aa⟩ ?_;rintro x q L1 ⟨hq,hx,hbm⟩;refine aP ?_;refine au rfl ?_ ?_<;>intro yN uv
 ·have yP:0<x:=aa;refine dk ?_;refine ai rfl (.sh rfl rfl (aaT (m:=1) an)) ?_;refine bw ?_;exact fC (x/2^1) (q+1) ⟨by have:=axs yP;omega,aa,hbm⟩
 obtain rfl:x=0:=aa;have fp:cx 0=0:=rfl;obtain rfl:q=cx m:=aa;refine bp ?_;exact dA
end Go.Proofs.YtbgmjcnjbhhljaaGreat
namespace Go.Lg
open Go.Proofs.YtbgmjcnjbhhljaaGreat in
theorem av.mv{L:St}{t b sz off len:Nat}{blk:aL}(d:Nat)(fp:b≠0)(gu:d≠0)(eI:b≠d)(h:L.slot t=.ref b sz off len)(hb:L.heap b=some blk)(hd:L.heap d=none):
  av L (((L.kill b).a5 d (some ⟨blk.sz,a9 b blk.vals,blk.mt⟩)).put (some t) (.ref d sz off len)):=by
 rintro n W X Z0 a w ⟨cZ,a6,μ,Z,hc,hr⟩;have yc:=rP hc hd;have hk:=hc.kill b fp;have sC:=acu b hr
 let aF:Nat->Option Nat:=fun c=>if c=d then μ b else jV μ b c
 have hm:∀c id,jV μ b c=some id->aF c=some id:=fun c id hh=>by
  have:c≠d:=by
   rintro rfl;unfold jV at hh;split at hh
   ·cases hh
   rw[yc]at hh;cases hh
  simp only[aF,if_neg this];exact hh
 have hinv:∀c id,aF c=some id->(c=d/\μ b=some id)\/(c≠d/\jV μ b c=some id):=fun c id hh=>by
  simp only[aF]at hh;split at hh
  ·rename_i e;exact .inl ⟨e,hh⟩
  rename_i e;exact .inr ⟨e,hh⟩
 have ec:∀c id,jV μ b c=some id->c≠b/\μ c=some id:=fun c id h=>by
  unfold jV at h;split at h
  ·cases h
  exact⟨by assumption,h⟩
 have hbb:∀id,jV μ b b=some id->False:=fun id hh=>(ec b id hh).1 rfl;have aia:∀{bk:aL} {id:Nat},pK Z (jV μ b) w bk id->pK Z aF w bk id:=fun hh=>pK.mono (fun _ h=>h) hm (Frame.refl _ _ _) rfl hh;refine⟨cZ,a6,aF,Z,?_,fun s=>?_⟩
 ·rw[gD];refine⟨hc.bB,hc.iD,hc.fZ,hc.g9,?_,?_,?_,hc.kQ,?_,?_,?_,?_⟩
  ·intro c c' id h1 h2;rcases hinv c id h1 with⟨e1,g1⟩|⟨e1,g1⟩<;>rcases hinv c' id h2 with⟨e2,g2⟩|⟨e2,g2⟩
   ·rw[e1,e2]
   ·have:=ec c' id g2;exact absurd (hc.inj _ _ id this.2 g1) this.1
   ·have:=ec c id g1;exact absurd (hc.inj _ _ id this.2 g2) this.1
   exact hc.inj c c' id (ec c id g1).2 (ec c' id g2).2
  ·intro c id h1;rcases hinv c id h1 with⟨e1,g1⟩|⟨e1,g1⟩
   ·exact hc.own b id g1
   exact hc.own c id (ec c id g1).2
  ·intro c id h1 hx;rcases hinv c id h1 with⟨e1,g1⟩|⟨e1,g1⟩
   ·exact absurd (hc.x0 b id g1 hx) fp
   exact hc.x0 c id (ec c id g1).2 hx
  ·intro id hx;have h0:=hk.x1 id hx;exact hm 0 id h0
  ·intro c id bk h1 gR dW;rcases hinv c id h1 with⟨e1,g1⟩|⟨e1,g1⟩
   ·subst e1;simp only[St.a5,if_true,dN]at gR;subst gR;exact hc.gL b id blk g1 hb dW
   simp only[St.a5,if_neg e1]at gR;exact hk.gL c id bk g1 gR dW
  ·intro c id bk h1 gR dW;rcases hinv c id h1 with⟨e1,g1⟩|⟨e1,g1⟩
   ·subst e1;simp only[St.a5,if_true,dN]at gR;subst gR;exact hc.bo b id blk g1 hb dW
   simp only[St.a5,if_neg e1]at gR;exact hk.bo c id bk g1 gR dW
  intro c id h1;rcases hinv c id h1 with⟨e1,g1⟩|⟨e1,g1⟩
  ·subst e1;obtain⟨bk,q1,cc,T,part,rest,q2,q3,q4⟩:=hc.heap b id g1;rw[hb]at q1;cases q1;refine⟨⟨blk.sz,a9 b blk.vals,blk.mt⟩,by simp[St.a5],aia ⟨cc,T,part,rest,q2,q3,?_⟩⟩;exact aw.kill (fun _ h=>h) (fun k id hk h=>by simp[jV,hk,h]) (Frame.refl _ _ _) _ _ q4
  obtain⟨bk,q1,q2⟩:=hk.heap c id g1;exact⟨bk,by simp only[St.a5,if_neg e1];exact q1,aia q2⟩
 rw[fu];split
 ·rename_i dL;subst dL;have e:=hr s;rw[h]at e;refine⟨by simp[LV.isAgg],fun hh=>?_⟩;have e2:=e.2 rfl;simp only[ao]at e2 ⊢;rcases e2 with e2|⟨id,cap,c,T,fz,q1,q2,q3⟩
  ·exact .inl e2
  exact .inr ⟨id,cap,c,T,fz,q1,by simp only[aF,if_true];exact q2,q3⟩
 exact aC.mono (fun _ h=>h) hm (Frame.refl _ _ _) (sC s)
end Go.Lg
namespace Go.Proofs.YtbgmjcnjbhhljaaGreat
open Go.Lg
theorem afL{s:Nat}(h:s<32):cj .quo .i64 (s:Nat) 32=some (.int .i64 0):=by
 have:((s:Int)).tdiv 32=0:=by rw[Int.tdiv_eq_ediv_of_nonneg aa];omega
 simp[cj,this,IntWalk.i64_in]
theorem aqy{s:Nat}(h:s<32):cj .rem .i64 (s:Nat) 32=some (.int .i64 (s:Nat)):=by
 have:((s:Int)).tmod 32=s:=by rw[Int.tmod_eq_emod_of_nonneg aa];omega
 simp[cj,this]
theorem avc{m s c x:Nat}{o:List Nat}(hv:val o+4294967296^o.length*c=val ((ah m).take o.length)*2^s)(hx:x=(ah m).getD o.length 0*2^s+c):
  val (o++[x%4294967296])+4294967296^(o.length+1)*(x/4294967296)=val ((ah m).take (o.length+1))*2^s:=by
 rw[akS,m7,gx,ep,dZ (4294967296^o.length) ((ah m).getD o.length 0)];have h1:=zZ (4294967296^o.length) x;have h2:4294967296^o.length*x=4294967296^o.length*((ah m).getD o.length 0*2^s)+4294967296^o.length*c:=by rw[hx,di]
 omega
theorem ayl{m s c:Nat}{o:List Nat}(hv:val o+4294967296^o.length*c=val ((ah m).take o.length)*2^s)(ho:o.length=(ah m).length)(hc:c<4294967296):val (o++[c%4294967296])=m*2^s:=by
 rw[akS,fa hc,hv,azs aa]
theorem aw8{s x y:Nat}(hs:s<32)(hx:x<4294967296):(y*4294967296+x)/2^s%4294967296=x/2^s+y%2^s*2^(32-s):=by
 have hd:4294967296=2^(32-s)*2^s:=by rw[<-jl,show 32-s+s=32 by omega]
 have hp:0<2^s:=lM aa;obtain⟨_,h2⟩:=ahH (z:=y) (show s<=32 by omega) hx;have e1:(y*4294967296+x)/2^s=y*2^(32-s)+x/2^s:=by
  rw[show y*4294967296+x=x+(y*2^(32-s))*2^s by rw[dZ,<-hd];omega,Nat.add_mul_div_right _ _ hp];omega
 have e2:y*2^(32-s)=y%2^s*2^(32-s)+4294967296*(y/2^s):=by
  have e3:y*2^(32-s)=(2^s*(y/2^s)+y%2^s)*2^(32-s):=by rw[yT]
  rw[e3,ep,hd,Nat.mul_right_comm,er (2^s) (2^(32-s))];omega
 rw[e1,e2,show y%2^s*2^(32-s)+4294967296*(y/2^s)+x/2^s=(y%2^s*2^(32-s)+x/2^s)+4294967296*(y/2^s) by omega,Nat.add_mul_mod_self_left,fa h2];omega
theorem awb{i s:Nat}{w o:List Nat}(hi:i<w.length)(hs:s<32)(hv:2^s*val (w.take i)=val (o.take i)+4294967296^i*(o.getD i 0%2^s)):
  2^s*val ((w.set i (o.getD i 0/2^s+o.getD (i+1) 0%2^s*2^(32-s))).take (i+1))=val (o.take (i+1))+4294967296^(i+1)*(o.getD (i+1) 0%2^s):=by
 have hd:4294967296=2^s*2^(32-s):=by rw[<-jl,show s+(32-s)=32 by omega]
 rw[wx _ _ _ hi,di,hv,m7,gx];have h1:=yT (o.getD i 0) (2^s);generalize o.getD i 0/2^s=q at *
 generalize o.getD i 0%2^s=t at *
 generalize o.getD (i+1) 0%2^s=u at *
 generalize 4294967296^i=p at *
 rw[<-h1];have e1:2^s*(p*(q+u*2^(32-s)))=p*(2^s*q)+p*4294967296*u:=by
  rw[hd,di,di];simp only[dZ,Nat.mul_left_comm,er]
 rw[e1,di];omega
theorem asr{r s:Nat}{o:List Nat}(cf:o.length=(ah (r*2^s)).length)(hv:2^s*val (o.take (ah (r*2^s)).length)=val ((ah (r*2^s)).take (ah (r*2^s)).length)+4294967296^(ah (r*2^s)).length*((ah (r*2^s)).getD (ah (r*2^s)).length 0%2^s)):val o=r:=by
 rw[uR _ _ (bA _),amB,uA,jK,je,<-cf,je,bq,er r]at hv;exact Nat.eq_of_mul_eq_mul_left (lM aa) hv
theorem aBd(k:Nat):((aJ k 0).map aO).take k=(aJ k 0).map aO:=by rw[cW az]
theorem aAJ{m:Nat}(k:Nat)(h:0<(ah m).length):ah (m*4294967296^k)=aJ k 0++ah m:=by
 have hv:val (aJ k 0++ah m)=m*4294967296^k:=by rw[aaI,aeA,bq];simp[er]
 refine(axy (aks (qI k) (b7 m)) hv (.inr ?_)).symm;have:=aju h;simp only[kH,List.length_replicate];rw[show k+(ah m).length-1=(ah m).length-1+k by omega,jl];exact dT _ this
namespace anX
theorem aD{p q:Prop}(k:q)(e:p=q:=by simp only[bc,aZ,aW,aS,dU,List.take_zero,gE,eF,cT eu,LV.kill,jW,dO,ff];exact rfl):p:=e.mpr k
end anX
open anX in
theorem ajO(m s:Nat)(eU:(ah m).length<=549755813888)(hs:s<32):ar ae 323 [aM m,ak s] (aM (m*2^s)):=by
 obtain⟨ir,hp2⟩:=ab6 hs;refine aE Tryz.func323 ?_;refine bu ?_;refine ai rfl (.bin rfl rfl (afL hs)) ?_;refine eD rfl rfl (.gC (n:=0) (m:=0) ml ml om om om) ?_;refine gA ?_;refine kD (av.mv (t:=5) (b:=10) 31 an an an rfl rfl rfl) ?_;refine iy (fun(o:List Nat) (c:Nat) L=>(mS L [(31,⟨1,o.map aO,true⟩)] [(7,ak o.length),(6,bP c),(5,.ref 31 1 0 o.length),(1,ak s),(0,aM m)])) (fun o c=>o.length<=(ah m).length/\c<2^s/\bh o/\val o+4294967296^o.length*c=val ((ah m).take o.length)*2^s) (fun o c=>(ah m).length-o.length) ([]) 0 ⟨bJ _,hp2,(by intro x hx;cases hx),by simp[val]⟩ ?_;rintro o c L1 ⟨cf,hc,bD,hv⟩;have qp:=fv m o.length;have hsx:=aiF qp ir;refine bx ?_;refine au rfl ?_ ?_<;>intro rV nb
 ·refine dk ?_;refine ai rfl (.bin rfl rfl (aqy hs)) ?_;refine ai rfl (.sh rfl rfl (aoV aa (by(try simp only[t1,dU]);omega))) ?_;refine ai rfl (.bin rfl rfl (orV hc (by(try simp only[t1,dU]);omega))) ?_;refine bx ?_;refine dH rfl (.app (news:=[aO (((ah m).getD o.length 0*2^s+c)%4294967296)]) rfl rfl rfl rfl rfl az (.inl rfl) an m9 m9 aau oy rfl aac (.inl ⟨30,0,_,rfl,by decide,rfl,rfl,by simp,rfl,rfl⟩) bm bm an) ?_;refine bw ?_;refine bX (av.kill _ 30) ?_;refine bp ?_;exact fC (o++[((ah m).getD o.length 0*2^s+c)%4294967296]) (((ah m).getD o.length 0*2^s+c)/4294967296) ⟨by rw[aah];omega,anV qp hc,alM bD aa,by rw[aah];exact avc hv rfl⟩ (hm:=by rw[aah];omega)
 have hoe:o.length=(ah m).length:=aa;have hV:=ayl hv hoe (show c<4294967296 by omega);refine cg ?_;refine dH rfl (.app (news:=[aO (c%4294967296)]) rfl rfl rfl rfl rfl az (.inr rfl) an m9 m9 aau oy rfl aac (.inl ⟨37,0,_,rfl,by decide,rfl,rfl,by simp,rfl,rfl⟩) bm bm an) ?_;simp only[cT eu,jW,dO,ff];refine n9 [38] oc (qn (o++[c%4294967296]) (alM bD aa) (by rw[aah];omega)) ?_;refine ay ?_;rw[<-hV];exact dA
namespace aqp
theorem aD{p q:Prop}(k:q)(e:p=q:=by simp only[bc,aZ,aW,aS,dU,List.drop_zero,iZ,eyy];exact rfl):p:=e.mpr k
end aqp
open aqp in
theorem aBe(r s:Nat)(eU:(ah (r*2^s)).length<=549755813888)(hs:s<32):ar ae 326 [aM (r*2^s),ak s] (aM r):=by
 obtain⟨ir,hp2⟩:=ab6 hs;have vN:=aky (l:=ah (r*2^s)) (r:=r) (show s<=32 by omega) (bq _);refine aE Tryz.func326 ?_;have iZ:True:=trivial;have eyy:True:=trivial;refine bx ?_;refine ai rfl (.bin rfl rfl (afL hs)) ?_;refine aV ?_;refine au rfl ?_ ?_<;>intro abv wT
 ·have hm:r*2^s=0:=oX.1 (kJ aa);have hr0:r=0:=by rcases Nat.mul_eq_zero.1 hm with h|h<;>omega
  subst hr0;refine aP ?_;exact cm rfl (.nil 1)
 refine aA ?_;refine ai rfl (.bin rfl rfl (afL hs)) ?_;refine ai rfl (.agH (a:=0) eu rfl m9 oy rfl om) ?_;refine aP ?_;refine eD rfl rfl (.gC (n:=(ah (r*2^s)).length) (m:=(ah (r*2^s)).length) ml ml om om om) ?_;refine cb ?_;refine iy (fun(i:Nat) (o:List Nat) L=>(mS L [(19,⟨1,o.map aO,true⟩)] [(6,ak i),(5,.ref 19 1 0 (ah (r*2^s)).length),(1,ak s),(0,aM (r*2^s))])) (fun i o=>i<=(ah (r*2^s)).length/\o.length=(ah (r*2^s)).length/\bh o/\2^s*val (o.take i)=val ((ah (r*2^s)).take i)+4294967296^i*((ah (r*2^s)).getD i 0%2^s)) (fun i o=>(ah (r*2^s)).length-i) 0 (aJ (ah (r*2^s)).length 0) ⟨bJ _,by simp,qI _,by rw[vN];simp[val]⟩ ?_;rintro i o L1 ⟨hi,cf,bD,hv⟩;have iZ:((i:Int)+1).toNat=i+1:=aa;have uG:=fv (r*2^s) i;have hyi:=fv (r*2^s) (i+1);obtain⟨hh1,hh2⟩:=ahH (z:=(ah (r*2^s)).getD (i+1) 0) (show s<=32 by omega) uG;refine bx ?_;refine au rfl ?_ ?_<;>intro mN mB
 ·refine wX ?_;refine fk (fun L=>∃(y:Nat) (L1:St),(y=(ah (r*2^s)).getD (i+1) 0*4294967296+(ah (r*2^s)).getD i 0)/\L=(mS L1 [(19,⟨1,o.map aO,true⟩)] [(7,bP y),(6,ak i),(5,.ref 19 1 0 (ah (r*2^s)).length),(1,ak s),(0,aM (r*2^s))])) ?_ ?_
  ·refine au rfl ?_ ?_<;>intro tT uZ
   ·refine bu ?_;refine ai rfl (.sh rfl rfl (aa3 (by(try simp only[t1,dU,iZ]);omega))) ?_;refine ai rfl (.bin rfl rfl (orC (by(try simp only[t1,dU]);omega) (by(try simp only[t1,dU,iZ]);omega))) ?_;refine bw ?_;exact⟨(ah (r*2^s)).getD (i+1) 0*4294967296+(ah (r*2^s)).getD i 0,_,rfl,ca⟩
   refine aR ?_;exact⟨(ah (r*2^s)).getD i 0,_,by rw[uR _ (i+1) aa,aaj,fW],ca⟩
  rintro _ ⟨y,aCm,hy,rfl⟩;have eyy:y/2^s%4294967296=((ah (r*2^s)).getD i 0/2^s+(ah (r*2^s)).getD (i+1) 0%2^s*2^(32-s)):=by rw[hy];exact aw8 hs uG
  refine aA ?_;refine ai rfl (.bin rfl rfl (aqy hs)) ?_;refine ai rfl (.sh rfl rfl (aaT (m:=s) (by show s<=64;omega))) ?_;refine bp ?_;exact fC (i+1) (o.set i ((ah (r*2^s)).getD i 0/2^s+(ah (r*2^s)).getD (i+1) 0%2^s*2^(32-s))) ⟨aa,by simp[cf],ja bD _ _ aa,awb aa hs hv⟩
 obtain rfl:i=(ah (r*2^s)).length:=aa;refine bu ?_;refine n9 [19] oc (qn _ fb oC) ?_;refine ay ?_;have hV:=asr cf hv;rw[<-hV];exact dA
namespace aqa
theorem aD{p q:Prop}(k:q)(e:p=q:=by simp only[bc,aZ,aW,aS,List.take_zero,gE,eF,cT eu,LV.kill,jW,dO,ff,aBd,<-List.map_append];exact rfl):p:=e.mpr k
end aqa
open aqa in
theorem ap4(m k:Nat)(eU:(ah m).length<=1099511627776)(hk:k<=1099511627776):ar ae 324 [aM m,ak k] (aM (m*4294967296^k)):=by
 refine aE Tryz.func324 ?_;refine dk ?_;refine au rfl ?_ ?_<;>intro h7r h7
 ·have hm:m=0:=oX.1 (kJ aa);subst hm;refine aP ?_;rw[aaj];exact cm rfl (.nil 1)
 have hE:=aAJ k (show 0<(ah m).length by omega);refine aV ?_;refine eD rfl rfl (.gC (n:=k) (m:=k) ml ml om om om) ?_;refine aT ?_;refine dH rfl (.app (news:=(ah m).map aO) rfl rfl rfl rfl rfl az (.inr rfl) an m9 m9 aau oy rfl aac (.inr (.inl rfl)) bm bm an) ?_;refine ay ?_;rw[show aM (m*4294967296^k)=.list 1 ((aJ k 0++ah m).map aO) by rw[<-hE];rfl];exact nq [11] rfl rfl (eM eu rfl rfl az)
theorem aug(l:List Nat)(k:Nat):val l=val (l.take k)+4294967296^k*val (l.drop k):=by
 rcases al1 k l.length with h|h
 ·exact oZ l k h
 rw[cW h,iP h];simp[val]
theorem ak4(l:List Nat)(k:Nat):val (l.drop k)=l.getD k 0+4294967296*val (l.drop (k+1)):=by
 rcases fH k l.length with h|h
 ·exact kY h
 rw[iP h,iP aa,uR _ _ h];rfl
theorem ahh{a:Nat}(h:1<=a)(h2:a<=9223372036854775807):cj .sub .i64 (a:Nat) 1=some (.int .i64 ((a-1:Nat):Int)):=by
 rw[o5 aa aa];congr 2;omega
theorem aw6{n:Nat}(h:0<(ah n).length):(ah n).drop ((ah n).length-1)=ah ((ah n).getD ((ah n).length-1) 0):=by
 have h1:=abz (abp n) h;have h2:=fv n ((ah n).length-1);rw[zD aa h2];rw[List.drop_eq_getElem_cons aa,iP aa,bf,bO aa];rfl
theorem as8{R V n j:Nat}(hn:(ah V).length=n+1)(bT:R<V*4294967296^(j+1))(hv:0<(ah V).getD n 0):
  R/4294967296^j/V<=min (((ah R).getD (j+(n+1)) 0*4294967296+(ah R).getD (j+n) 0)/(ah V).getD n 0) 4294967295:=by
 have gQ:0<V:=qa (fun h=>by rw[h,su]at hn;cases hn);have hVn:V<4294967296^(n+1):=pS aa;have hz:=adr (ul:=ah R) (n:=n+1) (j:=j) hVn (by rw[bq];exact bT);have hq2:R/4294967296^j/V<4294967296:=by
  rw[jZ gQ,jZ (pP j),er 4294967296,dZ,<-Nat.pow_succ'];exact bT
 refine Nat.le_min.2 ⟨?_,aa⟩;rw[th hv];have hVs:=oZ (ah V) n aa;have hVd:val ((ah V).drop n)=(ah V).getD n 0:=by
  rw[kY aa,iP aa];simp[val]
 rw[hVd,bq]at hVs;have hR:R/4294967296^(j+n)=(ah R).getD (j+(n+1)) 0*4294967296+(ah R).getD (j+n) 0:=by
  have e:=aug (ah R) (j+n);rw[bq]at e;have hl:val ((ah R).take (j+n))<4294967296^(j+n):=pg (sm (b7 R) _) bm;have hd:val ((ah R).drop (j+n))=(ah R).getD (j+(n+1)) 0*4294967296+(ah R).getD (j+n) 0:=by
   have z:val ((ah R).drop (j+n+2))=0:=ab1 (fun p=>by rw[abC];exact hz _ aa);rw[ak4,ak4,z,show j+n+1=j+(n+1) by omega];omega
  rw[<-hd]
  conv=>lhs;rw[e]
  rw[Nat.add_mul_div_left _ _ (pP _),we hl,fW]
 rw[<-hR,jl,<-Nat.div_div_eq_div_mul,th (pP n),dZ];refine bW (nH _ ?_) (ak5 (R/4294967296^j) V);rw[er];omega
theorem ato{R V j d:Nat}(hV:0<V)(h:R<V*d*4294967296^j):R/4294967296^j/V<d:=by
 rw[jZ hV,jZ (pP j),er d V];exact h
theorem asY{R V j d:Nat}(hV:0<V)(h:V*d*4294967296^j<=R):d<=R/4294967296^j/V:=by
 rw[th hV,th (pP j),er d V];exact h
theorem axb{R V j d A:Nat}{ql:List Nat}(hV:0<V)(hd:d=R/4294967296^j/V)(hp:V*d*4294967296^j<=R)(hj:j<ql.length)(hv:R+V*4294967296^(j+1)*val (ql.drop (j+1))=A):
  R-V*d*4294967296^j+V*4294967296^j*val ((ql.set j d).drop j)=A/\R-V*d*4294967296^j<V*4294967296^j:=by
 have:=alz (ul:=ah (R-V*d*4294967296^j)) (ul0:=ah R) (ql:=ql) (x:=d) (j:=j) (U0:=A) hV (by rw[bq];exact hd) (by rw[bq,bq,er d V,er (4294967296^j)];omega) hj (by rw[bq];exact hv);rw[bq]at this;exact this
theorem arJ{m n L K s:Nat}(hL:(ah (n*2^s)).length=L)(h0:0<L)(hK:K+L=(ah (m*2^s)).length+1):m*2^s<n*2^s*4294967296^K:=by
 have h1:m*2^s<4294967296^(ah (m*2^s)).length:=pS (bA _);have h2:=aju (m:=n*2^s) aa;refine oK h1 ?_;rw[show (ah (m*2^s)).length=(L-1)+K by omega,jl,<-hL];exact dT _ h2
theorem ar4{m s k:Nat}(h:(ah m).length<=k)(hs:s<32):(ah (m*2^s)).length<=k+1 :=
 gn h (pj.2 (by have:=ab6 hs;omega))
theorem aqD(k:Nat):(ah (4294967296^k)).length<=k+1:=sq (Nat.pow_lt_pow_right aa aa)
theorem avJ{V j d:Nat}(h:1<=d):V*d*4294967296^j-V*4294967296^j=V*(d-1)*4294967296^j:=by
 obtain⟨e,rfl⟩:∃e,d=e+1:=⟨d-1,aa⟩;rw[Nat.add_sub_cancel,di,kx,ep];omega
theorem awI{V j d:Nat}(h:1<=d):V*4294967296^j<=V*d*4294967296^j:=by
 refine dT _ ?_;have:=nH V h;omega
namespace an7
theorem aD{p q:Prop}(k:q)(e:p=q:=by simp only[bc,aZ,aW,aS,dU,bq,eln,edz,esm,esn,eLn,edm,ek,kT,kp,eL1,ed,tW,edd,es];exact rfl):p:=e.mpr k
end an7
open an7 in
theorem ahW(m n:Nat)(eU:(ah m).length<=68719476736)(jT:(ah n).length<=68719476736)(fw:0<n):ar ae 290 [aM m,aM n] (.aQ [aM (m/n),aM (m%n),iL 0]):=by
 refine aE Tryz.func290 ?_;have eln:True:=trivial;have edz:True:=trivial;have esm:True:=trivial;have esn:True:=trivial;have eLn:True:=trivial;have edm:True:=trivial;have ek:True:=trivial;have kT:True:=trivial;have kp:True:=trivial;have eL1:True:=trivial;have ed:True:=trivial;have edd:True:=trivial;have es:True:=trivial;refine gA ?_;refine au rfl ?_ ?_<;>intro afY h21
 ·have km:=oX.1 (kJ (show (ah n).length=0 by omega));omega
 refine aP ?_;refine cp aK (apg _ _ aa aa) ?_;refine bw ?_;refine au rfl ?_ ?_<;>intro ad1 o6
 ·have bT:m<n:=by unfold jF at o6;split at o6;assumption;split at o6<;>omega
  refine bw ?_;refine cp bK (qn _ fb aa) ?_;refine aP ?_;rw[we bT,fa bT];exact vZ [] rfl rfl (.nil 1) rfl (.pure (gw _)) rfl (.pure rfl)
 have jS:n<=m:=by
  rcases fH m n with h|h
  ·rw[ov h]at o6;omega
  exact h
 have aia:=lJ jS;refine aA ?_;refine cp bK (acz _ aa) ?_;refine bp ?_;refine au rfl ?_ ?_<;>intro yJ h33
 ·have asW:m<18446744073709551616:=by simpa using yJ
  have esm:(if m<18446744073709551616 then m else 0)=m:=if_pos asW;have esn:(if n<18446744073709551616 then n else 0)=n:=if_pos aa;have aBX:m/n<=m:=qd _ _;have aBB:=gl m fw;refine bw ?_;refine cp bK (acz _ aa) ?_;refine cg ?_;refine ai rfl abh ?_;refine cp bK (wU _ aa) ?_;refine aR ?_;refine ai rfl (.bin rfl rfl (agD aa)) ?_;refine cp bK (wU _ aa) ?_;refine aP ?_;exact ab0
 refine cb ?_;refine au rfl ?_ ?_<;>intro aar h49
 ·have oQ:=wM (n:=n) aa;have eLn:=oQ.1;have me:=pj.1 (show (ah n).length<=1 by omega);have tI:=gl m fw;refine aA ?_;simp only[tW,dU,eLn];refine cp aK (asn m n aa fw me) ?_;refine bp ?_;refine cp bK (wU _ aa) ?_;refine aP ?_;exact ab0
 obtain⟨ln,hL⟩:∃ln,(ah n).length=ln+1:=⟨(ah n).length-1,aa⟩;have eL1:(ah n).length-1=ln:=aa;have ye:=aw6 (n:=n) aa;rw[eL1]at ye;have ahp:=abz (abp n) (show 0<(ah n).length by omega);rw[eL1]at ahp;have xd:=fv n ln;have htb:cx ((ah n).getD ln 0)<=32:=qM.2 xd;have aBI:(ah ((ah n).getD ln 0)).length<=1:=pj.2 xd;obtain⟨s,hs⟩:∃s,s=32-cx ((ah n).getD ln 0):=⟨_,rfl⟩;have es:(32:Int)-((cx ((ah n).getD ln 0):Nat):Int)=((s:Nat):Int):=by rw[akE htb,hs]
 obtain⟨oV,gi,adC,qE⟩:=amE (n:=ln) hL hs;have gQ:0<n*2^s:=sv fw (lM aa);have pB:0<(ah (n*2^s)).getD ln 0:=by have:=aoo gi adC;omega
 have hUl:=ar4 eU oV;have hUV:(ah (n*2^s)).length<=(ah (m*2^s)).length:=lJ (dT _ jS);obtain⟨K,hK⟩:∃K,K+ln=(ah (m*2^s)).length:=⟨(ah (m*2^s)).length-ln,aa⟩;have dL:=arJ (m:=m) (n:=n) (s:=s) (K:=K) gi aa aa;refine aP ?_;refine kz ?_;refine ai rfl (.agH (a:=(ah n).length-1) eu rfl m9 oy rfl om) ?_;rw[eL1,ye];refine cp bK (aBn _ aa) ?_;refine bu ?_;refine cp aK (ajO _ _ aa oV) ?_;refine aR ?_;refine cp aK (ajO _ _ aa oV) ?_;refine qP ?_;refine eD rfl rfl (.gC (n:=K) (m:=K) ml ml om om om) ?_;refine dx ?_;refine ow (fun(k R:Nat) (ql:List Nat) L=>(mS L [(82,⟨1,ql.map aO,true⟩)] [(15,iL ((k:Int)-1)),(5,aM R),(14,ak (ln+1)),(13,ak s),(4,.ref 82 1 0 K),(1,aM (n*2^s))])) (fun k R ql=>k<=K/\ql.length=K/\bh ql/\R<=m*2^s/\R+(n*2^s)*4294967296^k*val (ql.drop k)=m*2^s/\R<(n*2^s)*4294967296^k) (fun k R ql=>k) K (m*2^s) (aJ K 0) ⟨bA _,by simp,qI _,bA _,by rw[iP az];simp[val],dL⟩ ?_;rintro k R ql L1 ⟨hk,hJ,ka,hRU,hv,bT⟩;refine aP ?_;refine au rfl ?_ ?_<;>intro aCs h88
 ·obtain⟨j,rfl⟩:∃j,k=j+1:=⟨k-1,aa⟩;have ek:(((j+1:Nat):Int)-1)=(j:Int):=aa;have kT:((j:Int)+((ln+1:Nat):Int)).toNat=j+(ln+1):=aa;have kp:((j:Int)+((ln+1:Nat):Int)-1).toNat=j+ln:=aa;have hRl:=lJ hRU;have eln:(((ln+1:Nat):Int)-1).toNat=ln:=aa;have tI:=fv R (j+(ln+1));have xh:=fv R (j+ln);have anN:=as8 (R:=R) (n:=ln) (j:=j) gi bT pB;have rD:=fv (n*2^s) ln;refine iQ ?_;refine fk (fun L=>∃(hi:Nat) (L1:St),(hi=(ah R).getD (j+(ln+1)) 0)/\L=(mS L1 [(82,⟨1,ql.map aO,true⟩)] [(16,bP hi),(15,iL (((j+1:Nat):Int)-1)),(5,aM R),(14,ak (ln+1)),(13,ak s),(4,.ref 82 1 0 K),(1,aM (n*2^s))])) ?_ ?_
  ·refine au rfl ?_ ?_<;>intro aBw h96
   ·refine cg ?_;exact⟨(ah R).getD (j+(ln+1)) 0,_,rfl,ca⟩
   refine aR ?_;exact⟨0,_,(uR _ _ aa).symm,ca⟩
  rintro _ ⟨hi,aBo,fg,rfl⟩;refine dk ?_;refine fk (fun L=>∃(top:Nat) (L1:St),(top=((ah R).getD (j+(ln+1)) 0*4294967296+(ah R).getD (j+ln) 0))/\L=(mS L1 [(82,⟨1,ql.map aO,true⟩)] [(16,bP top),(15,iL (((j+1:Nat):Int)-1)),(5,aM R),(14,ak (ln+1)),(13,ak s),(4,.ref 82 1 0 K),(1,aM (n*2^s))])) ?_ ?_
  ·refine au rfl ?_ ?_<;>intro aBS aBs
   ·refine aR ?_;refine ai rfl (.sh rfl rfl (aa3 aa)) ?_;refine bu ?_;refine ai rfl (.bin rfl rfl (orU (by simp only[t1,dU,kp];omega) aa)) ?_;refine bw ?_;exact⟨hi*4294967296+(ah R).getD (j+ln) 0,_,by rw[fg],ca⟩
   refine aR ?_;refine ai rfl (.sh rfl rfl (aa3 aa)) ?_;refine bw ?_;exact⟨hi*4294967296,_,by rw[fg,uR (ah R) (j+ln) aa];exact(jK _).symm,ca⟩
  rintro _ ⟨top,aCc,htp,rfl⟩;have aCn:top/(ah (n*2^s)).getD ln 0<=top:=qd _ _;have edm:(if (4294967295:Int)<((top/(ah (n*2^s)).getD ln 0:Nat):Int)then(4294967295:Int)else((top/(ah (n*2^s)).getD ln 0:Nat):Int))=((min (top/(ah (n*2^s)).getD ln 0) 4294967295:Nat):Int):=by split<;>omega
  subst htp;obtain⟨d0,gu⟩:∃d0,d0=min (((ah R).getD (j+(ln+1)) 0*4294967296+(ah R).getD (j+ln) 0)/(ah (n*2^s)).getD ln 0) 4294967295:=⟨_,rfl⟩;rw[<-gu]at anN edm;have hdz:d0<4294967296:=by rw[gu];exact sT (aiV _ _) an
  clear gu;have edz:d0%4294967296=d0:=fa hdz;have hlz:=gn (aad gi) (pj.2 hdz);refine cb ?_;refine ai rfl (.bin rfl rfl (ahs (by simp only[t1,dU,eln];omega) aa)) ?_;refine bx ?_;refine cp aK (awN _ _ aa aa) ?_;refine aT ?_;refine cp aK (ap4 _ _ (by rw[edz];omega) aa) ?_;refine aV ?_;refine da (fun(d:Nat) L=>(mS L [(82,⟨1,ql.map aO,true⟩)] [(18,aM ((n*2^s)*d*4294967296^j)),(17,bP d),(15,iL (((j+1:Nat):Int)-1)),(5,aM R),(14,ak (ln+1)),(13,ak s),(4,.ref 82 1 0 K),(1,aM (n*2^s))])) (fun d=>R/4294967296^j/(n*2^s)<=d/\d<4294967296) (fun d=>d) d0 ⟨anN,hdz⟩ ?_;rintro d L2 ⟨hdq,hdB⟩;have jL:=gn (aad gi) (pj.2 hdB);have qO:=gn jL (aqD j);have pW:=gn (aad gi) (aqD j);refine aV ?_;refine cp aK (apg _ _ aa aa) ?_;refine bw ?_;refine au rfl ?_ ?_<;>intro aBJ adB
  ·have hgt:R<n*2^s*d*4294967296^j:=by unfold jF at adB;split at adB;omega;split at adB;assumption;omega
   have hdq:=ato gQ hgt;have gu:1<=d:=sT (bJ _) hdq;have afX:=awI (V:=n*2^s) (j:=j) gu;have edd:=avJ (V:=n*2^s) (j:=j) gu;refine dx ?_;refine cp aK (ap4 _ _ aa aa) ?_;refine cp aK (akY _ _ aa aa afX) ?_;refine ay ?_;exact fj (d-1) ⟨aa,aa⟩
  have ix:n*2^s*d*4294967296^j<=R:=by
   rcases fH R (n*2^s*d*4294967296^j)with h|h
   ·rw[oE h]at adB;omega
   exact h
  have hdE:=ap1 (asY gQ ix) hdq;obtain⟨oQ,me⟩:=axb gQ hdE ix (show j<ql.length by omega) hv;have ed:d%4294967296=d:=fa hdB;refine qP ?_;refine cp aK (akY _ _ aa aa ix) ?_;refine cb ?_;exact nN j (R-(n*2^s)*d*4294967296^j) (ql.set j d) ⟨aa,by simp[hJ],ja ka _ _ hdB,bW (ais _ _) hRU,oQ,me⟩
 obtain rfl:k=0:=aa;rw[gX,adW,kx]at hv;rw[adW,kx]at bT;have hRl:=lJ hRU;obtain⟨hqf,hRf⟩:=ami (ul:=ah R) (ql:=ql) (A:=m) (s:=s) fw (by rw[bq];exact hv) (by rw[bq];exact bT);rw[bq]at hRf;refine bu ?_;refine n9 [82] oc (qn _ fb aa) ?_;refine aR ?_;rw[hRf];refine cp aK (aBe (m%n) s (by rw[<-hRf];omega) oV) ?_;refine aA ?_;rw[<-hqf];exact ab0
namespace akx
theorem aD{p q:Prop}(k:q)(e:p=q:=by simp only[bc,aZ,aW,aS,dU,bq,esm,esn];exact rfl):p:=e.mpr k
end akx
open akx in
theorem ayc(m n:Nat)(eU:(ah m).length<=68719476736)(jT:(ah n).length<=68719476736):ar ae 281 [aM m,aM n] (aM (dK m n)):=by
 refine aE Tryz.func281 ?_;have esm:True:=trivial;have esn:True:=trivial;refine bu ?_;refine cp bK (qn _ (b7 _) aa) ?_;refine aT ?_;refine cp bK (qn _ (b7 _) aa) ?_;refine aA ?_;refine iy (fun(x y:Nat) L=>(mS L [] [(1,aM y),(0,aM x)])) (fun x y=>dK x y=dK m n/\(ah x).length<=68719476736/\(ah y).length<=68719476736) (fun x y=>y) m n ⟨rfl,eU,jT⟩ ?_;rintro x y L1 ⟨hg,hx,hy⟩;refine bu ?_;refine au rfl ?_ ?_<;>intro abe xU
 ·have mq:0<y:=qa (fun h=>by rw[h,su]at xU;simp at xU);refine aA ?_;refine cp bK (acz _ aa) ?_;refine cb ?_;refine cp bK (acz _ aa) ?_;refine bx ?_;refine fk (fun L=>∃(t:Bool) (L1:St),(t=decide (x<18446744073709551616/\y<18446744073709551616))/\L=(mS L1 [] [(32,bL t),(7,bP (if y<18446744073709551616 then y else 0)),(5,bP (if x<18446744073709551616 then x else 0)),(1,aM y),(0,aM x)])) ?_ ?_
  ·refine bw ?_;refine cz 30 rfl ?_ ?_<;>intro uM ua
   ·refine ay ?_;exact⟨decide (y<18446744073709551616),_,by rw[decide_eq_decide];omega,ca⟩
   refine ay ?_;exact⟨false,_,by symm;rw[decide_eq_false_iff_not];omega,ca⟩
  rintro _ ⟨t,LR5,ht,rfl⟩;refine aT ?_;refine au rfl ?_ ?_<;>intro yZ zH
  ·rw[ht,decide_eq_true_iff]at yZ;obtain⟨aqw,ald⟩:=yZ;have esm:(if x<18446744073709551616 then x else 0)=x:=if_pos aqw;have esn:(if y<18446744073709551616 then y else 0)=y:=if_pos ald;refine aR ?_;refine iy (fun(p q:Nat) L=>(mS L [] [(7,bP q),(5,bP p)])) (fun p q=>dK p q=dK m n/\p<18446744073709551616/\q<18446744073709551616) (fun p q=>q) x y ⟨hg,aqw,ald⟩ ?_;rintro p q L2 ⟨wS,hm,hn⟩;refine aP ?_;refine au rfl ?_ ?_<;>intro xV tc
   ·refine dk ?_;exact fC q (p%q) ⟨by rw[mE,<-aaD,mE];exact wS,hn,by have:=gl p (show q > 0 by omega);omega⟩ (hm:=gl _ aa)
   obtain rfl:q=0:=aa;refine bu ?_;refine cp bK (wU _ aa) ?_;refine bx ?_;rw[<-wS,aa9];exact dA
  refine aA ?_;refine cp aK (ahW _ _ aa aa (by first|assumption|omega)) ?_;refine jX ?_;exact fC y (x%y) ⟨by rw[mE,<-aaD,mE];exact hg,hy,bW (lJ (sO (gl x mq))) hy⟩ (hm:=gl _ mq)
 have mq:y=0:=oX.1 (kJ aa);refine bp ?_;subst mq;rw[<-hg,aa9];exact dA
section
variable {q a b:Rat}
theorem asX:(-q<0)↔0<q:=dR
theorem aoz{n:Nat}:0<(ah n).length↔0<n:=by
 constructor
 ·intro h;exact qa (fun e=>by rw[e,su]at h;cases h)
 intro h;exact List.length_pos_iff.2 (fun e=>by have:=oX.1 e;omega)
theorem auq:0<q↔0<q.num:=by rw[ano];simp
theorem alh(h:(!decide (q<0))=true):decide (((ah q.num.natAbs).length:Int) > 0)=decide (-q<0):=by
 rw[decide_eq_decide,asX,auq];have h1:¬q<0:=ga;rw[acj]at h1;have:=aoz (n:=q.num.natAbs);omega
theorem anO(h:(!decide (q<0))=false):false=decide (-q<0):=by
 have h1:q<0:=ga;symm;rw[decide_eq_false_iff_not];grind
theorem aAq(s:Bool)(h:s=decide (-q<0)):ab (-q)=.agg [.v (.bool s),aM q.num.natAbs,aM (gB q)]:=by
 rw[qV,h,rO,rO,ah2,aff,afk]
theorem aoy:a=b↔decide (a<0)=decide (b<0)/\a.num.natAbs=b.num.natAbs/\gB a=gB b:=by
 constructor
 ·rintro rfl;exact⟨rfl,rfl,rfl⟩
 rintro⟨h1,h2,h3⟩;have hd:a.den=b.den:=ag0 (by rw[h3]);rw[<-ko a,<-ko b,h1,h2,hd]
theorem az4(h:(decide (a<0)==decide (b<0))=false):false=decide (a=b):=by
 symm;rw[decide_eq_false_iff_not,aoy];intro h2;rw[h2.1]at h;simp at h
end
end Go.Proofs.YtbgmjcnjbhhljaaGreat
namespace Go.Lg
open Go.Proofs.YtbgmjcnjbhhljaaGreat in
theorem ey.aoI{P:Program}{L:St}{dst:Option Nat}{T:TypeId}{p x:Operand}{b:Nat}{q:Rat}{s:Bool}(hp:L.ev p=.ax b 3 0 0)(hb:L.heap b=some ⟨3,[ab q],true⟩)(hx:L.ev x=.v (.bool s))(hT:aX P T 1 false)
  (hs:s=decide (-q<0)):ey P L dst (.store T p x) ((L.a5 b (some ⟨3,[ab (-q)],true⟩)).put dst .any):=by
 have h0:LV.put (ab q) 0 (L.ev x)=some (ab (-q)):=by
  rw[hx,aAq s hs,qV q];have e1:∀n,(aM n).aj=1:=fun _=>rfl;simp[LV.put,uK,bI,LV.aj,LV.isAgg]
 exact ey.store (P:=P) (dst:=dst) (T:=T) (p:=p) (x:=x) (y:=ab q) (y':=ab (-q)) hp hb rfl rfl rfl (al.aj _) h0 (by rw[hx];exact hT) (by rw[hx];exact⟨(fun h=>by cases h),(fun _ h=>by cases h)⟩)
end Go.Lg
namespace Go.Proofs.YtbgmjcnjbhhljaaGreat
open Go.Lg
theorem ayp{n:Int}(h1:-9223372036854775808<=n)(h2:n<0):IntKind.i64.wrap (0-(n+1))=(((-(n+1)).toNat:Nat):Int):=by
 rw[IntWalk.i64_in _ aa];omega
namespace am5
theorem aD{p q:Prop}(k:q)(e:p=q:=by simp only[bc,aZ,aW,aS,dU,bq,tW];exact rfl):p:=e.mpr k
end am5
open am5 in
theorem axv(s:Bool)(m n:Nat)(eU:(ah m).length<=68719476736)(jT:(ah n).length<=68719476736)(fw:0<n):ar ae 212 [bL s,aM m,aM n] (ab (qv s m n)):=by
 refine aE Tryz.func212 ?_;refine bu ?_;refine cp bK (qn _ (b7 _) aa) ?_;refine aT ?_;refine cp bK (qn _ (b7 _) aa) ?_;refine bp ?_;refine au rfl ?_ ?_<;>intro rV nb
 ·have hm:m=0:=oX.1 (kJ aa);refine bu ?_;rw[hm,abP,iF];exact zK
 have dE:0<m:=aoz.1 aa;have hg:0<dK m n:=ag3 _ dE;have hE:=acW s dE fw;have hgl:(ah (dK m n)).length<=68719476736:=bW (lJ (yM dE (vX _ _))) eU;have hqa:(ah (m/dK m n)).length<=68719476736:=bW (lJ (qd _ _)) eU;have hqb:(ah (n/dK m n)).length<=68719476736:=bW (lJ (qd _ _)) jT;have auC:=wM (n:=dK m n);refine aA ?_;refine cp aK (ayc _ _ aa aa) ?_;refine aV ?_;refine fk (fun L=>∃(t:Bool) (L1:St),(t=decide (dK m n≠1))/\L=(mS L1 [(6,⟨3,[.agg [.v (.bool false),.list 1 [],.list 1 []]],true⟩)] [(27,bL t),(7,aM (dK m n)),(6,.ax 6 3 0 0),(2,aM n),(1,aM m),(0,bL s)])) ?_ ?_
 ·refine aV ?_;refine cz 22 rfl ?_ ?_<;>intro acB h22
  ·refine aP ?_;exact⟨true,_,by symm;rw[decide_eq_true_iff];intro e;rw[e,aed]at h22;exact h22 rfl,ca⟩
  refine aP ?_;exact⟨(((ah (dK m n)).getD 0 0:Int) != 1),_,by have:=(auC aa).1;rw[aeP,bne_iff_ne,decide_eq_true_iff];omega,ca⟩
 rintro _ ⟨t,LR5,ht,rfl⟩;refine aT ?_;refine fk (fun L=>∃(x:Nat) (y:Nat) (L1:St),(x=m/dK m n/\y=n/dK m n)/\L=(mS L1 [(6,⟨3,[.agg [.v (.bool false),.list 1 [],.list 1 []]],true⟩)] [(6,.ax 6 3 0 0),(2,aM y),(1,aM x),(0,bL s)])) ?_ ?_
 ·refine au rfl ?_ ?_<;>intro sf zu
  ·refine ay ?_;refine cp aK (ahW _ _ aa aa hg) ?_;refine cb ?_;refine cp aK (ahW _ _ aa aa hg) ?_;refine aP ?_;exact⟨m/dK m n,n/dK m n,_,⟨rfl,rfl⟩,ca⟩
  have pk:dK m n=1:=by rw[ht,decide_eq_false_iff_not]at sf;omega
  refine aR ?_;exact⟨m,n,_,⟨by rw[pk,abd],by rw[pk,abd]⟩,ca⟩
 rintro _ ⟨x,y,aBO,⟨hx,hy⟩,rfl⟩;rw[<-hx,<-hy]at hE;have mq:0<y:=by rw[hy];exact ada (yM fw (agn _ _)) hg
 refine bu ?_;refine cz 45 rfl ?_ ?_<;>intro aCG h45
 ·refine aP ?_;refine au rfl ?_ ?_<;>intro acY h50
  ·have pZ:y=1:=by have:=(wM (n:=y) aa).1;omega
   refine dx ?_;rw[hE,if_pos pZ];exact iV [] rfl rfl rfl rfl rfl bZ (.agg (.cons (.pure rfl) (.cons (.pure (gw _)) (.cons (.nil 1) .nil))))
  have pZ:y≠1:=by have:=(wM (n:=y) aa).1;omega
  refine bp ?_;rw[hE,if_neg pZ];exact aaF
 have pZ:y≠1:=fun e=>by rw[e,aed]at h45;exact h45 rfl
 refine iQ ?_;rw[hE,if_neg pZ];exact aaF
open H0 in
theorem aeW(n:Int)(h1:-9223372036854775808<=n)(h2:n<=9223372036854775807):ar ae 131 [iL n] (.aQ [aM n.natAbs,bL (decide (n<0))]):=by
 refine aE Tryz.func131 ?_;refine dk ?_;refine au rfl ?_ ?_<;>intro h5r h5
 ·refine ay ?_;refine ai rfl (.neg rfl) ?_;refine ai rfl (.aem (n:=(-(n+1)).toNat) adH acZ (by simp only[e1,p1,p2,aS];rw[ayp h1 h5]) aa) ?_;refine ai rfl (.bin rfl rfl (amg (show (-(n+1)).toNat+1<18446744073709551616 by omega))) ?_;refine cp bK (wU ((-(n+1)).toNat+1) aa) ?_;refine aA ?_;rw[decide_eq_true h5,show n.natAbs=(-(n+1)).toNat+1 by omega];exact pt rfl (.pure (gw _)) rfl (.pure rfl)
 refine aV ?_;refine ai rfl (.aem (n:=n.natAbs) adH acZ (by simp only[e1,p1,p2,aS];rw[show ((n.natAbs:Nat):Int)=n by omega];rfl) aa) ?_;refine cp bK (wU n.natAbs aa) ?_;refine aV ?_;rw[decide_eq_false h5];exact pt rfl (.pure (gw _)) rfl (.pure rfl)
open H0 in
theorem axm(n d:Int)(h1:-9223372036854775808<=n)(h2:n<=9223372036854775807)(h3:-9223372036854775808<=d)(h4:d<=9223372036854775807)(hd:d≠0):ar ae 130 [iL n,iL d] (.aQ [ab ((n:Rat)/(d:Rat)),iL 0]):=by
 refine aE Tryz.func130 ?_;refine dk ?_;refine au rfl ?_ ?_<;>intro aaA pQ
 ·exact absurd pQ hd
 refine aV ?_;refine cp bK (aeW _ aa aa) ?_;refine cb ?_;refine cp bK (aeW _ aa aa) ?_;refine kP (axv (decide (n<0) != decide (d<0)) n.natAbs d.natAbs (bW (uN.2 aa) aa) (bW (uN.2 aa) aa) aa) ?_;refine aV ?_;rw[<-agl];exact aeq
open H0 in
theorem ahS(n d:Int)(h1:-9223372036854775808<=n)(h2:n<=9223372036854775807)(h3:-9223372036854775808<=d)(h4:d<=9223372036854775807)(hd:d≠0):ar ae 46 [iL n,iL d] (ab ((n:Rat)/(d:Rat))):=by
 refine aE Tryz.func46 ?_;refine bx ?_;refine cp aK (axm _ _ aa aa aa aa aa) ?_;refine gA ?_;exact ju
open H0 in
theorem aav(n:Int)(h1:-9223372036854775808<=n)(h2:n<=9223372036854775807):ar ae 47 [iL n] (ab (n:Rat)):=by
 refine aE Tryz.func47 ?_;refine bu ?_;refine cp bK (aeW _ aa aa) ?_;refine nB ?_;rw[<-aaM n];have hz:n.natAbs=0\/0<n.natAbs:=aa;rcases hz with hz|hz
 ·obtain rfl:n=0:=aa;rw[show qv (decide ((0:Int)<0)) (0:Int).natAbs 1=0 from abP _ _,iF];exact zK
 rw[acW _ hz aa,Nat.gcd_one_right,abd,if_pos aa];exact iV [] rfl rfl rfl rfl rfl bZ (.agg (.cons (.pure rfl) (.cons (.pure (gw _)) (.cons (.pure rfl) .nil))))
end Go.Proofs.YtbgmjcnjbhhljaaGreat
namespace Go.Lg
open Go.Proofs.YtbgmjcnjbhhljaaGreat in
theorem aq.aaq{P:Program}{H:bn}{ρ:Operand->LV}{T:TypeId}(hT:jn P T [(1,false),(1,false),(1,false)])(hz:ck P T (.agg [.v (.bool false),.list 1 [],.list 1 []])):aq P H ρ (.build T #[]) (ab 0):=by
 rw[iF];exact aq.build (zs:=[.v (.bool false),.list 1 [],.list 1 []]) (ps:=#[]) hT hz (by intro p hp;cases hp)
end Go.Lg
namespace Go.Proofs.YtbgmjcnjbhhljaaGreat
open Go.Lg
theorem dc:(default:Rat)=0:=rfl
def p6(t:Rat):List Rat->List Rat
 |x::y::r=>((1-t)*x+t*y)::p6 t (y::r)
 |_=>[]
theorem ade(t:Rat):∀p:List Rat,(p6 t p).length=p.length-1
 | []=>rfl
 | [_]=>rfl
 |x::y::r=>by simp[p6,ade t (y::r)]
theorem akr(t:Rat):∀(p:List Rat) (i:Nat),i+1<p.length->(p6 t p).getD i 0=(1-t)*p.getD i 0+t*p.getD (i+1) 0
 | [],i,h=>by simp at h
 | [_],i,h=>by simp at h
 |x::y::r,0,_=>by simp[p6]
 |x::y::r,i+1,h=>by
   have:=akr t (y::r) i ga;simpa[p6]using this
theorem df{p:List Rat}{i:Nat}(h:i<p.length):p.getD i 0∈p:=by
 rw[bf,bO h];exact List.getElem_mem h
theorem abD{p:List Rat}{x:Rat}(h:x∈p):∃i,i<p.length/\p.getD i 0=x:=by
 obtain⟨i,hi,rfl⟩:=List.getElem_of_mem h;exact⟨i,hi,by rw[bf,bO hi];rfl⟩
def loF(t:Rat):Nat->List Rat->List Rat
 |0,_=>[]
 |k+1,p=>p.getD 0 0::loF t k (p6 t p)
def hiF(t:Rat):Nat->List Rat->List Rat->List Rat
 |0,q,tl=>q++tl
 |k+1,q,tl=>hiF t k (p6 t q) (q.getD k 0::tl)
def loP(p:List Rat)(t:Rat):List Rat:=loF t p.length p
def hiP(p:List Rat)(t:Rat):List Rat:=hiF t p.length p []
theorem at5{α:Type}(A B:List α)(x v:α){n:Nat}(h:n=A.length):(A++x::B).set n v=A++v::B:=by subst h;simp
theorem adP{α:Type}(A B:List α)(d:α){i:Nat}(h:i<A.length):(A++B).getD i d=A.getD i d:=by simp[bf,List.getElem?_append_left h]
theorem af0{α:Type}(A B:List α)(d:α){i:Nat}(h:A.length<=i):(A++B).getD i d=B.getD (i-A.length) d:=by simp[bf,List.getElem?_append_right h]
theorem amJ(l:List Rat)(k p:Nat):(l.drop k).getD p 0=l.getD (k+p) 0:=by
 rw[bf,bf,List.getElem?_drop]
theorem ajz{t:Rat}{q:List Rat}{C M k:Nat}(hC:rl (1-t)+rl t+1<=C)(h:∀x∈q,(rl x+C)*2^(k+1)<=M):∀x∈p6 t q,(rl x+C)*2^k<=M:=by
 intro x hx;obtain⟨i,hi,rfl⟩:=abD hx;rw[ade]at hi;rw[akr t q i aa];have h1:=h _ (df (p:=q) (i:=i) aa);have h2:=h _ (df (p:=q) (i:=i+1) aa);have e1:=ks ((1-t)*q.getD i 0) (t*q.getD (i+1) 0);have e2:=du (1-t) (q.getD i 0);have e3:=du t (q.getD (i+1) 0);rw[gx]at h1 h2;have hle:rl ((1-t)*q.getD i 0+t*q.getD (i+1) 0)+C<=(rl (q.getD i 0)+C)+(rl (q.getD (i+1) 0)+C):=aa;have:=dT (2^k) hle;have e6:=ep (rl (q.getD i 0)+C) (rl (q.getD (i+1) 0)+C) (2^k);have e4:(rl (q.getD i 0)+C)*(2^k*2)=(rl (q.getD i 0)+C)*2^k*2:=by rw[dZ]
 have e5:(rl (q.getD (i+1) 0)+C)*(2^k*2)=(rl (q.getD (i+1) 0)+C)*2^k*2:=by rw[dZ]
 omega
theorem alU{o p:List Rat}{k:Nat}(hk:k<p.length)(cf:o.length=p.length)(ht:o.take k=p.take k):(o.set k (p.getD k 0)).take (k+1)=p.take (k+1):=by
 rw[tQ (by simpa[cf]using hk),tQ hk,List.take_set_of_le (bA _),ht];congr 1;simp[bf,bO hk]
theorem yx{x:Rat}{C M k:Nat}(h:(rl x+C)*2^k<=M):rl x+C<=M:=by
 have:1<=2^k:=lM aa;exact bW (alP _ this) h
theorem ar3{p:List Rat}{C:Nat}(hC:1<=C)(h:∀x∈p,(rl x+C)*2^p.length<=1073741824):p.length<=30:=by
 cases p with
 |nil=>simp
 |cons x r =>
  have h1:=h x az;have h2:1*2^(x::r).length<=(rl x+C)*2^(x::r).length:=dT _ aa;rcases fH 30 (x::r).length with h3|h3
  ·have h4:2^31<=2^(x::r).length:=tZ aa h3;omega
  exact h3
namespace ak1
theorem aD{p q:Prop}(k:q)(e:p=q:=by simp only[bc,aZ,aW,aS,dc,Rat.add_zero,cT al,jz,LV.kill,a9];exact rfl):p:=e.mpr k
end ak1
open ak1 in
theorem arq(p:List Rat)(hl:p.length<=1048576)(pe:∀x∈p,rl x<=274877906944):ke ae 330 [.list 3 (p.map ab)] (.ref 1 3 0 p.length) [⟨3,p.map ab,true⟩]:=by
 refine xe Tryz.func330 ?_;refine bx ?_;refine eD rfl rfl (.gC (n:=p.length) (m:=p.length) ml ml om om om) ?_;refine bp ?_;refine iy (fun(k:Nat) (o:List Rat) L=>(mS L [(8,⟨3,o.map ab,true⟩)] [(11,ak k),(10,ak p.length),(9,.list 3 (p.map ab)),(3,.ref 8 3 0 p.length)])) (fun k o=>k<=p.length/\o.length=p.length/\o.take k=p.take k) (fun k o=>p.length-k) 0 (aJ p.length 0) ⟨bJ _,by simp,rfl⟩ ?_;rintro k o L1 ⟨hk,cf,ht⟩;refine aA ?_;refine au rfl ?_ ?_<;>intro abv wT
 ·have eQ:k<p.length:=aa;have hrk:=pe _ (df eQ);refine qP ?_;refine ai rfl (.aaq xI jB) ?_;refine cp aK (gY (p.getD k 0) 0 (by rw[show rl 0=1 from rfl];omega)) ?_;refine aV ?_;refine bX (av.kill _ 5) ?_;refine ay ?_;exact fC (k+1) (o.set k (p.getD k 0)) ⟨aa,by simp[cf],alU eQ cf ht⟩
 obtain rfl:k=p.length:=aa;rw[je,<-cf,je]at ht;refine bp ?_;subst ht;exact aaw rfl rfl (bS al _)
def jD(l:List Int)(k:Nat):LV:=.agg [.list 1 (l.map jx),.v (.int .i64 (k:Nat))]
theorem dX(l:List Int)(k:Nat):aN [jD l k]=true:=by simp[aN,jD,LV.pure,bS m8]
theorem ara{a b:Int}(h:b≠0):cj .rem .i64 a b=some (.int .i64 (a.tmod b)):=by simp[cj,h]
theorem dfi:(default:Int)=0:=rfl
def iO(l:List Int)(k:Nat)(n:Int):Int:=if k<l.length then l.getD k 0%n else 0
def cE(l:List Int)(k:Nat):Nat:=if k<l.length then k+1 else k
theorem qG{l:List Int}{k:Nat}{n:Int}(h:0<n):0<=iO l k n/\iO l k n<n:=by
 unfold iO;split
 ·exact⟨aaf _ aa,zN _ h⟩
 omega
theorem ar0{a m:Int}(hm:0<m):a%m=if a.tmod m<0 then a.tmod m+m else a.tmod m:=by
 have h1:=aaf a (show m≠0 by omega);have h2:=zN a hm;rw[Int.tmod_eq_emod];split<;>split<;>omega
theorem afc{P:Program}{L:St}{a:Nat}{T:TypeId}{b sz:Nat}{x y:LV}{m:Bool}{n:Nat}{ag:Bool}{blk:aL}(h:L.slot a=.ax b sz 0 0)(hb:L.heap b=some ⟨sz,[x],m⟩)
  (hx:x.aj=sz) (ru:x.at 0 n ag=some x) (hT:aX P T n ag) (hi:bR L.heap x y) (h0:L.heap 0=some blk) (hm:blk.mt=true) (hp:aN blk.vals=true):qX P [.cell a T] L y blk :=
 ⟨[x],[y],L.heap,.cons ⟨b,sz,0,0,_,x,n,ag,h,hb,rfl,rfl,hx,ru,hT⟩ .nil,bn.le_refl _,.cons (.cC hi) .nil,h0,hm,hp,rfl⟩
theorem ai4{P:Program}{L:St}{t:Nat}{x y:LV}{blk:aL}(bs:List Nat)(h0:bs.contains 0=false)(h:L.slot t=x)(hi:bR (L.bo bs).heap x y)(hb:(L.bo bs).heap 0=some blk)(hm:blk.mt=true)(hp:aN blk.vals=true):qX P [.tmp t] L y blk :=
 ⟨[x],[y],(L.bo bs).heap,.cons h .nil,r8 bs h0,.cons (.cC hi) .nil,hb,hm,hp,rfl⟩
def oq(l:List Int)(k:Nat):Rat×Nat :=
 if iO l (cE l k) 4=3 then(((iO l k 13-6:Int):Rat)/((1+iO l (cE l (cE l k)) 4:Int):Rat),cE l (cE l (cE l k)))else(((iO l k 13-6:Int):Rat),cE l (cE l k))
theorem zY{n d:Int}(h1:n.natAbs<4294967296)(h2:d.natAbs<4294967296):rl ((n:Rat)/(d:Rat))<=1:=by
 rw[<-agl];have:=abu (k:=1) (decide (n<0) != decide (d<0)) (by simpa using h1) (by simpa using h2);omega
theorem aal{n:Int}(h1:n.natAbs<4294967296):rl (n:Rat)<=1:=by
 have:=zY (n:=n) (d:=1) h1 an;rwa[show ((1:Int):Rat)=1 from rfl,tu,show (1:Rat)⁻¹=1 by grind,Rat.mul_one]at this
theorem apc(l:List Int)(k:Nat):rl (oq l k).1<=1:=by
 have h1:=qG (l:=l) (k:=k) (n:=13) an;have h2:=qG (l:=l) (k:=cE l (cE l k)) (n:=4) an;unfold oq;split
 ·exact zY aa aa
 exact aal aa
theorem auv{P:Program}{L:St}{t b sz:Nat}{blk:aL}(h:L.slot t=.ax b sz 0 0)(hb:L.heap b=some blk)(hp:aN blk.vals=true):mH P [.tmp t] L (.ax 1 sz 0 0) [blk] :=
 ⟨[.ax b sz 0 0],[.ax 1 sz 0 0],L.heap,[b],.cons h .nil,bn.le_refl _,.cons (.ptr (k:=0) rfl) .nil,by simp,rfl,fun k c hk=>by
  cases k with
  |zero=>simp at hk;subst hk;exact⟨blk,hb,rfl,hp⟩
  |succ k=>simp at hk,rfl⟩
theorem lU{l:List Int}{k:Nat}(hl:l.length<=500)(hk:k<=500):cE l k<=500:=by unfold cE;split<;>omega
theorem ae5{l:List Int}{k:Nat}(hl:l.length<=500)(hk:k<=500):(oq l k).2<=500:=by
 have h1:=lU (l:=l) hl hk;have h2:=lU (l:=l) hl h1;unfold oq;split
 ·exact lU hl h2
 exact h2
theorem aAk(l:List Int)(k b:Nat):(jD l k).kill b=jD l k:=LV.kM b _ (by simp[jD,LV.pure,aN,bS m8])
open H0 in
theorem afw(n m:Int)(hm:0<m)(fh:m<=4611686018427387904):ar ae 25 [iL n,iL m] (iL (n%m)):=by
 have hE:=ar0 (a:=n) hm;have hb:=Int.tmod_lt_of_pos n hm;have qT:=Int.lt_tmod_of_pos n hm;refine aE Tryz.func25 ?_;refine bx ?_;refine ai rfl (.bin rfl rfl (ara aa)) ?_;refine cb ?_;refine fk (fun L=>∃(r:Int) (L1:St),(r=n%m)/\L=(mS L1 [] [(0,iL r)])) ?_ ?_
 ·refine au rfl ?_ ?_<;>intro sB h9
  ·refine bw ?_;refine ai rfl pn ?_;refine bw ?_;exact⟨n.tmod m+m,_,by rw[hE,if_pos h9],ca⟩
  refine aR ?_;exact⟨n.tmod m,_,by rw[hE,if_neg h9],ca⟩
 rintro _ ⟨r,LC9,hr,rfl⟩;refine bu ?_;rw[<-hr];exact dA
open H0 in
theorem aAB(l:List Int)(h:l.length<=9223372036854775807):ar ae 8 [.list 1 (l.map jx)] (bL (decide (l.length<=500))):=by
 refine aE Tryz.func8 ?_;refine dx ?_;refine cm (x:=.v (.bool (decide (((l.length:Nat):Int)<=500)))) rfl ?_;rw[show decide (((l.length:Nat):Int)<=500)=decide (l.length<=500) by rw[decide_eq_decide];omega];exact .pure rfl
open H0 in
theorem atS(l:List Int):ke ae 9 [.list 1 (l.map jx)] (.ax 1 2 0 0) [⟨2,[jD l 0],true⟩]:=by
 refine xe Tryz.func9 ?_;refine bu ?_;refine ai rfl (.build (zs:=[.v (.slice none 0 0),.v (.int .i64 0)]) aqY awe (by simp only[List.forall_mem_cons];exact⟨⟨_,rfl,rfl,ic⟩,fun _ h=>by cases h⟩)) ?_;refine eD rfl rfl (.box ic) ?_;refine ay ?_;exact auv rfl rfl (dX l 0)
namespace aob
theorem aD{p q:Prop}(k:q)(e:p=q:=by simp only[bc,aZ,aW,aS,l1,wK,dfi];exact rfl):p:=e.mpr k
end aob
open aob in
theorem sW(l:List Int)(k:Nat)(n:Int)(hl:l.length<=500)(hk:k<=500)(hn:0<n)(me:n<=1000):jt ae 30 ⟨2,[jD l k],true⟩ [.ax 0 2 0 0,iL n] (iL (iO l k n)) ⟨2,[jD l (cE l k)],true⟩:=by
 refine tr Tryz.func30 ?_;have wK:True:=trivial;refine iQ ?_;refine au rfl ?_ ?_<;>intro rV nb
 ·have pT:¬k<l.length:=aa;refine aP ?_;rw[iO,if_neg pT,cE,if_neg pT];exact oG rfl (.cC (.pure rfl)) rfl rfl (dX l _)
 have pT:k<l.length:=aa;have wK:(((k+1:Nat):Int)-1).toNat=k:=aa;refine cg ?_;refine dH rfl (.store (y:=jD l k) (y':=jD l (k+1)) rfl rfl rfl rfl rfl rfl rfl T3 ic) ?_;refine bp ?_;refine ai rfl (.bin rfl rfl (o5 (by first|omega|(simp;omega)) (by first|omega|(simp;omega)))) ?_;refine bw ?_;refine cp aK (afw _ _ aa aa) ?_;refine ay ?_;rw[iO,if_pos pT,cE,if_pos pT];exact oG rfl (.cC (.pure rfl)) rfl rfl (dX l _)
namespace aoQ
theorem aD{p q:Prop}(k:q)(e:p=q:=by simp only[bc,aZ,aW,aS,l1];exact rfl):p:=e.mpr k
end aoQ
open aoQ in
theorem akD(l:List Int)(k:Nat)(hl:l.length<=500)(hk:k<=500):jt ae 51 ⟨2,[jD l k],true⟩ [.ax 0 2 0 0] (ab (oq l k).1) ⟨2,[jD l (oq l k).2],true⟩:=by
 have k1:=lU (l:=l) hl hk;have k2:=lU (l:=l) hl k1;have rb:=qG (l:=l) (k:=k) (n:=13) an;have qT:=qG (l:=l) (k:=cE l (cE l k)) (n:=4) an;refine tr Tryz.func51 ?_;refine bu ?_;refine tD 0 rfl rfl rfl (dX l _) (.cons .ptr (.cons (.cC (.pure rfl)) .nil)) .ptr (sW l k 13 aa aa an an) rfl (dX l _) ?_;refine aP ?_;refine tD 0 rfl rfl rfl (dX l _) (.cons .ptr (.cons (.cC (.pure rfl)) .nil)) .ptr (sW l (cE l k) 4 aa aa an an) rfl (dX l _) ?_;refine bw ?_;refine au rfl ?_ ?_<;>intro oS h8
 ·refine bw ?_;refine ai rfl nv ?_;refine aT ?_;refine tD 0 rfl rfl rfl (dX l _) (.cons .ptr (.cons (.cC (.pure rfl)) .nil)) .ptr (sW l (cE l (cE l k)) 4 aa aa an an) rfl (dX l _) ?_;refine ai rfl pn ?_;refine cp aK (ahS (iO l k 13-6) (1+iO l (cE l (cE l k)) 4) aa aa aa aa aa) ?_;refine aV ?_;rw[oq,if_pos h8];exact afc rfl rfl (al.aj _) (pC _) bZ (.pure (al.pure _)) rfl rfl (dX l _)
 refine aV ?_;refine ai rfl nv ?_;refine cp bK (aav (iO l k 13-6) aa aa) ?_;refine ay ?_;rw[oq,if_neg h8];exact afc rfl rfl (al.aj _) (pC _) bZ (.pure (al.pure _)) rfl rfl (dX l _)
theorem ayM(q:Rat):gB q≠1:=by rw[rO];split<;>omega
theorem alX(n:Nat)(h:(ah n).length<=4611686018427387904):ar ae 159 [aM n] (bL true):=by
 have:=arD (ah n) h;rwa[decide_eq_true]at this;by_cases h0:(ah n).length=0
 ·exact .inl h0
 exact .inr (abz (abp n) aa)
theorem amy{q:Rat}(h:0<(ah (gB q)).length):dK q.num.natAbs (gB q)=1:=by
 rw[aiz h];exact q.reduced
end Go.Proofs.YtbgmjcnjbhhljaaGreat
namespace Go.Lg
end Go.Lg
namespace Go.Proofs.YtbgmjcnjbhhljaaGreat
open Go.Lg
theorem m10{m:Nat}(h:m<10):(48+m%10)%4294967296=48+m:=by
 rw[fa h,fa (oK (Nat.add_lt_add_left h 48) an)]
namespace ajj
theorem aD{p q:Prop}(k:q)(e:p=q:=by simp only[bc,aZ,aW,aS,bq,dU,tW];exact rfl):p:=e.mpr k
end ajj
open ajj in
theorem auh(q:Rat)(h:rl q<=1099511627776):ar ae 71 [ab q] (bL true):=by
 have a1:=oh q;have a2:=qx q;have a3:=qJ q;have aG:=ayM q;refine aE Tryz.func71 ?_;refine cg ?_;refine cp bK (alX _ aa) ?_;refine ay ?_;refine cp bK (alX _ aa) ?_;refine bu ?_;refine cz 18 rfl ?_ ?_<;>intro abe xU
 ·refine bx ?_;refine au rfl ?_ ?_<;>intro ad1 o6
  ·exfalso;have:=(wM (n:=gB q) aa).1;omega
  refine cg ?_;refine au rfl ?_ ?_<;>intro tw ri
  ·refine aA ?_;refine cz 33 rfl ?_ ?_<;>intro yJ h33
   ·have hz:=aaC (q:=q) aa;subst hz;refine cb ?_;exact dA
   exfalso;have hz:=aaC (q:=q) aa;subst hz;revert yJ;decide
  refine bx ?_;refine cz 43 rfl ?_ ?_<;>intro av7 h43
  ·refine aV ?_
   first|simp only[bq,pk]|skip
   refine aP ?_;exact dA
  have pk:=amy (q:=q) aa;refine ay ?_;refine cp aK (ahl _ _ (b7 _) (b7 _) aa aa) ?_
  first|simp only[bq,pk]|skip
  refine cp bK (aay (ah 1) (b7 _) an) ?_;refine aA ?_;exact dA
 refine w9 ?_;refine au rfl ?_ ?_<;>intro tw ri
 ·refine aA ?_;refine cz 33 rfl ?_ ?_<;>intro yJ h33
  ·have hz:=aaC (q:=q) aa;subst hz;refine cb ?_;exact dA
  exfalso;have hz:=aaC (q:=q) aa;subst hz;revert yJ;decide
 refine bx ?_;refine cz 43 rfl ?_ ?_<;>intro av7 h43
 ·refine aV ?_
  first|simp only[bq,pk]|skip
  refine aP ?_;exact dA
 have pk:=amy (q:=q) aa;refine ay ?_;refine cp aK (ahl _ _ (b7 _) (b7 _) aa aa) ?_
 first|simp only[bq,pk]|skip
 refine cp bK (aay (ah 1) (b7 _) an) ?_;refine aA ?_;exact dA
def HS(p:List Rat)(t:Rat):Prop:=∃cc,rl (1-t)+rl t+1<=cc/\cc<=1073741824/\∀x∈p,(rl x+cc)*2^p.length<=1073741824
theorem HS.len{p:List Rat}{t:Rat}(h:HS p t):p.length<=30:=by
 obtain⟨cc,h1,h2,h3⟩:=h;exact ar3 (bW (Nat.le_add_left 1 _) h1) h3
theorem HS.rl{p:List Rat}{t:Rat}(h:HS p t):rl t<=1073741824/\∀x∈p,Go.Lg.rl x<=1073741824:=by
 obtain⟨cc,h1,h2,h3⟩:=h;exact⟨aa,fun x hx=>by have:=yx (h3 x hx);omega⟩
def evP(p:List Rat)(t:Rat):Rat:=(loP p t).getD (p.length-1) 0
theorem aaV(o:List Rat)(i x:Nat)(v:Rat)(hi:i<o.length):(o.set i v).getD x 0=if x=i then v else o.getD x 0:=by
 rw[bf,bf,akz];by_cases h:i=x
 ·subst h;simp[hi]
 rw[if_neg h,if_neg (fun e=>h e.symm)]
def yh(p:List Rat)(g:Rat->Bool):Int:=if p.any g then((p.findIdx g:Nat):Int)else -1
theorem avW(p:List Rat)(g:Rat->Bool):decide (yh p g>=0)=p.any g:=by
 unfold yh;cases h:p.any g<;>simp
theorem axq{p:List Rat}{g:Rat->Bool}{k:Nat}(hk:k<p.length)(h:∀x,x<k->g (p.getD x 0)=false)(hg:g (p.getD k 0)=true):yh p g=(k:Int):=by
 have e:p.findIdx g=k:=by
  have mL:p.getD k 0=p[k]:=by rw[bf,bO hk];rfl
  apply ap1
  ·rcases fH k (p.findIdx g)with h1|h1
   ·have:=List.not_of_lt_findIdx h1;rw[<-mL,hg]at this;cases this
   exact h1
  rcases fH (p.findIdx g) k with h1|h1
  ·have h2:=List.findIdx_getElem (p:=g) (xs:=p) (w:=by omega);have h3:=h _ h1;rw[bf,bO aa]at h3;simp at h3;rw[h3]at h2;cases h2
  exact h1
 have ha:p.any g=true:=List.any_eq_true.2 ⟨p.getD k 0,df hk,hg⟩;rw[yh,if_pos ha,e]
theorem awT{p:List Rat}{g:Rat->Bool}(h:∀x,x<p.length->g (p.getD x 0)=false):yh p g=-1:=by
 have ha:p.any g=false:=by
  rw[List.any_eq_false];intro x hx;obtain⟨i,hi,rfl⟩:=abD hx;rw[h i hi];decide
 rw[yh,ha];rfl
namespace ant
theorem aD{p q:Prop}(k:q)(e:p=q:=by simp only[bc,aZ,aW,aS,dc];exact rfl):p:=e.mpr k
end ant
open ant in
theorem ay0(p:List Rat)(f:Nat)(g:Rat->Bool)(hl:p.length<=1048576)(hf:∀x∈p,ar ae f [ab x] (bL (g x))):ar ae 299 [.list 3 (p.map ab),.bQ f []] (iL (yh p g)):=by
 refine aE Tryz.func299 ?_;refine dx ?_;refine da (fun(k:Nat) L=>(mS L [] [(8,ak k),(7,ak p.length),(1,.bQ f []),(0,.list 3 (p.map ab))])) (fun k=>k<=p.length/\∀x,x<k->g (p.getD x 0)=false) (fun k=>p.length-k) 0 ⟨bJ _,fun x hx=>by omega⟩ ?_;rintro k L1 ⟨hk,hg⟩;refine aA ?_;refine au rfl ?_ ?_<;>intro sB h9
 ·have eQ:k<p.length:=aa;have oR:=hf _ (df eQ);refine jX ?_;simp only[t1,dc];refine jA [] rfl rfl (.bQ (f:=f) (cap:=[]) (args:=[ab (p.getD k 0)]) rfl (.cons dv .nil) ⟨rfl,fun _ h=>by cases h⟩ oR.1 an (fun _ h=>by cases h)) (oR.2 _) ?_;refine aR ?_;refine au rfl ?_ ?_<;>intro nn jJ
  ·refine bp ?_;rw[axq eQ hg nn];exact dA
  refine bu ?_;exact fj (k+1) ⟨aa,fun x hx=>by
   rcases fH x k with h|h
   ·exact hg x h
   rw[show x=k by omega];exact nn⟩
 obtain rfl:k=p.length:=aa;refine cg ?_;rw[awT hg];exact dA
open H0 in
theorem at8(p:List Rat)(f:Nat)(g:Rat->Bool)(hl:p.length<=1048576)(hf:∀x∈p,ar ae f [ab x] (bL (g x))):ar ae 229 [.list 3 (p.map ab),.bQ f []] (bL (p.any g)):=by
 refine aE Tryz.func229 ?_;refine bC (ay0 p f g hl hf) ?_;refine aV ?_;rw[<-avW];exact dA
def jP:Nat->Nat->Nat
 |_,0=>1
 |0,_+1=>0
 |n+1,k+1=>jP n k+jP n (k+1)
theorem aic:∀{n k:Nat},n<k->jP n k=0
 |0,k+1,_=>rfl
 |n+1,k+1,h=>by rw[jP,aic aa,aic aa]
theorem amA:∀n,jP n n=1
 |0=>rfl
 |n+1=>by rw[jP,amA n,aic aa]
theorem aiv(n:Nat):jP n 0=1:=by cases n<;>rfl
theorem agF:∀n k,jP n k<=2^n
 |n,0=>by rw[aiv];exact lM aa
 |0,k+1=>by simp[jP]
 |n+1,k+1=>by
   have h1:=agF n k;have h2:=agF n (k+1);rw[jP,gx];omega
theorem acn{n:Nat}(k:Nat)(h:n<=40):jP n k<=1099511627776:=bW (agF n k) (tZ (n:=2) aa h)
def so(n:Nat):List Int:=(eH (n+1)).map fun x=>(jP n x:Int)
def iX(n:Nat):List Rat:=(eH (n+1)).map fun x=>((jP n x:Int):Rat)
theorem tG(n:Nat):(so n).length=n+1:=by simp[so]
theorem xr(n:Nat):(iX n).length=n+1:=by simp[iX]
theorem ahx{n x:Nat}(h:x<=n):(so n).getD x 0=(jP n x:Int):=by
 rw[bf,bO (by rw[tG];omega)];simp[so]
theorem aub{n x:Nat}(h:x<=n):(iX n).getD x 0=((jP n x:Int):Rat):=by
 rw[bf,bO (by rw[xr];omega)];simp[iX]
theorem awa{p q:List Int}(hl:p.length=q.length)(h:∀i,i<p.length->p.getD i 0=q.getD i 0):p=q:=by
 apply List.ext_getElem hl;intro i h1 h2;have:=h i h1;rw[bf,bf,bO h1,bO h2]at this;exact this
theorem aBh(o:List Int)(i x:Nat)(v:Int)(hi:i<o.length):(o.set i v).getD x 0=if x=i then v else o.getD x 0:=by
 rw[bf,bf,akz];by_cases h:i=x
 ·subst h;simp[hi]
 rw[if_neg h,if_neg (fun e=>h e.symm)]
def zO(k i:Nat)(o:List Int):Prop:=o.length=k+2/\∀x,x<k+2->o.getD x 0=if i<x/\x<=k then(jP (k+1) x:Int)else if x<=k then(jP k x:Int)else 1
theorem axn(k:Nat):zO k k (so k++[1]):=by
 refine⟨by simp[tG],fun x hx=>?_⟩;rw[if_neg aa];by_cases h:x<=k
 ·rw[if_pos h,adP _ _ _ (by rw[tG];omega),ahx h]
 rw[if_neg h,af0 _ _ _ (by rw[tG];omega),tG,show x-(k+1)=0 by omega];rfl
theorem azV{k i:Nat}{o:List Int}(h:zO k (i+1) o)(hi:i+1<=k):zO k i (o.set (i+1) (o.getD (i+1) 0+o.getD i 0)):=by
 obtain⟨h1,h2⟩:=h;refine⟨by simp[h1],fun x hx=>?_⟩;rw[aBh _ _ _ _ aa];by_cases uG:x=i+1
 ·subst uG;rw[if_pos rfl,if_pos ⟨aa,hi⟩,h2 _ aa,h2 _ aa,if_neg aa,if_pos aa,if_neg aa,if_pos aa,jP];simp;omega
 rw[if_neg uG,h2 x hx];by_cases h3:i+1<x/\x<=k
 ·rw[if_pos h3,if_pos ⟨aa,h3.2⟩]
 rw[if_neg h3,if_neg (show ¬(i<x/\x<=k) by omega)]
theorem arz{k:Nat}{o:List Int}(h:zO k 0 o):o=so (k+1):=by
 obtain⟨h1,h2⟩:=h;refine awa (by rw[tG,h1]) (fun x hx=>?_);rw[h2 x aa,ahx aa];by_cases h3:0<x/\x<=k
 ·rw[if_pos h3]
 rw[if_neg h3];by_cases h4:x<=k
 ·obtain rfl:x=0:=aa;rw[if_pos h4,aiv,aiv]
 obtain rfl:x=k+1:=aa;rw[if_neg h4,amA];rfl
theorem al7{k i:Nat}{o:List Int}(h:zO k i o)(hk:k<=39){x:Nat}(hx:x<k+2):0<=o.getD x 0/\o.getD x 0<=1099511627776:=by
 rw[h.2 x hx];have h1:=acn (n:=k+1) x aa;have h2:=acn (n:=k) x aa;split
 ·omega
 split<;>omega
theorem abN{n:Nat}(hn:n<=40):∀x∈iX n,rl x<=2:=by
 intro x hx;simp only[iX,List.mem_map]at hx;obtain⟨k,_,rfl⟩:=hx;have h:=acn k hn;rw[<-aaM];have:=abu (k:=2) (decide ((jP n k:Int)<0)) (n:=(jP n k:Int).natAbs) (d:=1) aa an;omega
theorem wW{o p:List Rat}{k:Nat}{v:Rat}(hk:k<p.length)(cf:o.length=p.length)(ht:o.take k=p.take k)(hv:v=p.getD k 0):(o.set k v).take (k+1)=p.take (k+1):=by subst hv;exact alU hk cf ht
theorem av4(n:Nat)(f:Int->LV):((so n).map f).take (n+1)=(so n).map f:=by rw[cW (by simp[tG])]
theorem kg{o:List Rat}{S:Nat}(h1:1<=S)(h:∀x∈o,rl x<=S)(k:Nat):rl (o.getD k 0)<=S:=by
 rcases fH k o.length with hk|hk
 ·exact h _ (df hk)
 rw[bf,List.getElem?_eq_none hk];show rl 0<=S;rw[show rl 0=1 from rfl];exact h1
theorem atY{o:List Rat}{S:Nat}{i:Nat}{v:Rat}(h:∀x∈o,rl x<=S)(hv:rl v<=S):∀x∈o.set i v,rl x<=S:=fun x hx=>by
 rcases List.mem_or_eq_of_mem_set hx with h1|h1
 ·exact h x h1
 rw[h1];exact hv
namespace alo
theorem aD{p q:Prop}(k:q)(e:p=q:=by simp only[bc,aZ,aW,aS,dfi,dc,av4,eX,tG,wK,ek2,egr,jW,dO,ff,cT m8,cT al,LV.kill,a9];exact rfl):p:=e.mpr k
end alo
open alo in
theorem ays(n:Nat)(hn:n<=40):ar ae 331 [ak n] (.list 3 ((iX n).map ab)):=by
 refine aE Tryz.func331 ?_;have wK:True:=trivial;have ek2:True:=trivial;have egr:True:=trivial;refine nk ?_;refine kD (av.mv (t:=3) (b:=8) 14 an an an rfl rfl rfl) ?_;refine da (fun(k:Nat) L=>(mS L [(14,⟨1,(so k).map jx,true⟩)] [(10,ak k),(9,ak n),(3,.ref 14 1 0 (k+1))])) (fun k=>k<=n) (fun k=>n-k) 0 (bJ _) ?_;rintro k L1 hk;refine aA ?_;refine au rfl ?_ ?_<;>intro aaA pQ
 ·have hkn:k<n:=aa;have ek2:((((k+1+1:Nat)):Int)-2)=(k:Int):=aa;refine bu ?_;refine dH rfl (.app (news:=[jx 1]) rfl rfl rfl rfl rfl (by simp[tG]) (.inl rfl) an ahB ahB Z2 T2 rfl B2 (.inl ⟨13,0,_,rfl,by decide,rfl,rfl,by simp,rfl,rfl⟩) bm bm an) ?_;refine ay ?_;refine bX (av.kill _ 13) ?_;refine aP ?_;refine iy (fun(i:Nat) (o:List Int) L=>(mS L [(14,⟨1,o.map jx,true⟩)] [(10,ak k),(9,ak n),(4,ak i),(3,.ref 14 1 0 (k+1+1))])) (fun i o=>i<=k/\zO k i o) (fun i o=>i) k (so k++[1]) ⟨bA _,axn k⟩ ?_;rintro i o L2 ⟨hi,hP⟩;refine aP ?_;refine au rfl ?_ ?_<;>intro yN uv
  ·obtain⟨j,rfl⟩:∃j,i=j+1:=⟨i-1,aa⟩;have wK:(((j+1:Nat):Int)-1)=(j:Int):=aa;have cf:=hP.1;have rb:=al7 hP aa (x:=j+1) aa;have qT:=al7 hP aa (x:=j) aa;refine arV ?_;exact fC j (o.set (j+1) (o.getD (j+1) 0+o.getD j 0)) ⟨aa,azV hP hi⟩
  obtain rfl:i=0:=aa;have hE:=arz hP;subst hE;refine cg ?_;exact fj (k+1) aa
 obtain rfl:n=k:=aa;refine bx ?_;refine eD rfl rfl (.gC (n:=n+1) (m:=n+1) ml ml om om om) ?_;refine bp ?_;refine iy (fun(i:Nat) (w:List Rat) L=>(mS L [(14,⟨1,(so n).map jx,true⟩),(36,⟨3,w.map ab,true⟩)] [(39,ak i),(38,ak (n+1)),(37,.ref 14 1 0 (n+1)),(5,.ref 36 3 0 (n+1))])) (fun i w=>i<=n+1/\w.length=n+1/\w.take i=(iX n).take i) (fun i w=>n+1-i) 0 (aJ (n+1) 0) ⟨bJ _,by simp,rfl⟩ ?_;rintro i w L3 ⟨hi,fO,iS⟩;refine aA ?_;refine au rfl ?_ ?_<;>intro abr h40
 ·have hin:i<=n:=aa;have egr:=ahx hin;have il:=acn i hn;refine cO (rS (jP n i:Int) aa aa) ?_;refine cb ?_;exact fC (i+1) (w.set i ((jP n i:Int):Rat)) ⟨aa,by simp[fO],wW (by rw[xr];omega) (by rw[xr,fO]) iS (aub aa).symm⟩
 obtain rfl:i=n+1:=aa;have hE:w=iX n:=by
  rw[cW aa,cW (by rw[xr];omega)]at iS;exact iS
 subst hE;refine bp ?_;exact nq [36] rfl rfl (eM al rfl rfl (by rw[xr]))
theorem abg{a b:Nat}(h:a+b<=9223372036854775807):cj .add .i64 (a:Nat) (b:Nat)=some (.int .i64 ((a+b:Nat):Int)):=by
 rw[qD aa aa];congr 2
theorem aif{a:Nat}(h:a+1<=9223372036854775807):cj .add .i64 (a:Nat) 1=some (.int .i64 ((a+1:Nat):Int)):=by
 rw[qD aa aa];congr 2
theorem azD{o:List Rat}{i:Nat}{v:Rat}(h:i<o.length):(o.set i v).getD i 0=v:=by rw[aaV _ _ _ _ h,if_pos rfl]
def abk(x:Rat)(i:Nat)(y:List Rat)(q:List Rat)(o:List Rat):Nat->List Rat
 |0=>o
 |j+1=>(abk x i y q o j).set (i+j) ((abk x i y q o j).getD (i+j) 0+x*(y.getD j 0*q.getD j 0))
def allM(p q:List Rat):Nat->List Rat
 |0=>aJ (p.length-1+(q.length-1)+1) 0
 |i+1=>abk ((iX (p.length-1)).getD i 0*p.getD i 0) i (iX (q.length-1)) q (allM p q i) q.length
def oa(p q:List Rat):List Rat:=(eH (p.length-1+(q.length-1)+1)).map fun k=>(allM p q p.length).getD k 0/(iX (p.length-1+(q.length-1))).getD k 0
theorem adz(p q:List Rat):(oa p q).length=p.length-1+(q.length-1)+1:=by simp[oa]
theorem aoD{x:Rat}{i R S:Nat}{y q o:List Rat}(hS:1<=S)(ho:∀v∈o,rl v<=S)(hx:rl x<=R+2)(hy:∀v∈y,rl v<=2)(hq:∀v∈q,rl v<=R)(hR:1<=R):∀j,∀v∈abk x i y q o j,rl v<=S+j*(2*R+5)
 |0,v,hv=>by have:=ho v hv;omega
 |j+1,v,hv=>by
   have ih:=aoD (i:=i) hS ho hx hy hq hR j;refine atY (S:=S+(j+1)*(2*R+5)) (fun w hw=>?_) ?_ v hv
   ·have:=ih w hw;rw[sZ];omega
   have h1:=kg aa ih (i+j);have h2:=kg aa hy j;have h3:=kg aa hq j;have e1:=du (y.getD j 0) (q.getD j 0);have e2:=du x (y.getD j 0*q.getD j 0);have e3:=ks ((abk x i y q o j).getD (i+j) 0) (x*(y.getD j 0*q.getD j 0));rw[sZ];omega
theorem agb{p q:List Rat}{R:Nat}(ix:p.length<=41)(hJ:q.length<=41)(hR:1<=R)(fy:∀v∈p,rl v<=R)(hq':∀v∈q,rl v<=R):∀i,∀v∈allM p q i,rl v<=1+i*(q.length*(2*R+5))
 |0,v,hv=>by
   simp only[allM,List.mem_replicate]at hv;rw[hv.2];show rl 0<=_;rw[show rl 0=1 from rfl];omega
 |i+1,v,hv=>by
   have ih:=agb ix hJ hR fy hq' i;have hx:rl ((iX (p.length-1)).getD i 0*p.getD i 0)<=R+2:=by
    have h1:=kg aa (abN (n:=p.length-1) aa) i;have h2:=kg hR fy i;have:=du ((iX (p.length-1)).getD i 0) (p.getD i 0);omega
   have:=aoD aa ih hx (abN (n:=q.length-1) aa) hq' hR q.length v hv;rw[sZ];omega
def iE(p:List Rat):List Rat:=if p.length<2 then [0]else(eH (p.length-1)).map fun i=>(((p.length-1:Nat):Int):Rat)*(p.getD (i+1) 0-p.getD i 0)
theorem aaX{p:List Rat}:(iE p).length=if p.length<2 then 1 else p.length-1:=by unfold iE;split<;>simp
theorem aAt{p:List Rat}{i:Nat}(h:i+1<p.length):(iE p).getD i 0=(((p.length-1:Nat):Int):Rat)*(p.getD (i+1) 0-p.getD i 0):=by
 unfold iE;rw[if_neg aa,bf,bO bm];simp
theorem adh{p:List Rat}{R:Nat}(hR:1<=R)(hl:p.length<=1000)(h:∀x∈p,rl x<=R):∀x∈iE p,rl x<=2*R+4:=by
 intro x hx;obtain⟨k,hk,rfl⟩:=abD hx;rw[aaX]at hk;by_cases h2:p.length<2
 ·rw[if_pos h2]at hk;have:iE p=[0]:=by unfold iE;rw[if_pos h2]
  rw[this];obtain rfl:k=0:=aa;show rl 0<=_;rw[show rl 0=1 from rfl];omega
 rw[if_neg h2]at hk;rw[aAt aa];have h3:=aal (n:=((p.length-1:Nat):Int)) aa;have h4:=h _ (df (i:=k) aa);have h5:=h _ (df (i:=k+1) aa);have h6:=kW (p.getD (k+1) 0) (p.getD k 0);have h7:=du (((p.length-1:Nat):Int):Rat) (p.getD (k+1) 0-p.getD k 0);omega
theorem av5{a:Rat}(h:0<a):bY a=1:=by unfold bY;rw[if_neg dR,if_neg dR]
theorem aun{a:Rat}(h:a<0):bY a=-1:=by unfold bY;rw[if_neg dR,if_pos h]
theorem ayd(a:Rat):(a=0/\bY a=0)\/(0<a/\bY a=1)\/(a<0/\bY a=-1):=by
 by_cases h:a=0
 ·exact .inl ⟨h,by rw[h];rfl⟩
 by_cases h1:a<0
 ·exact .inr (.inr ⟨h1,aun h1⟩)
 have:0<a:=dR;exact .inr (.inl ⟨this,av5 this⟩)
theorem aei(a:Rat):bY a=0\/bY a=1\/bY a=-1:=by
 rcases ayd a with⟨_,h⟩|⟨_,h⟩|⟨_,h⟩<;>omega
def fF(n d:Int):Rat:=((n%41-20:Int):Rat)/((d%8+1:Int):Rat)
theorem ajP(n d:Int):rl (fF n d)<=1:=by
 unfold fF;have h1:=aaf n (show (41:Int)≠0 by decide);have h2:=zN n (show (0:Int)<41 by decide);have h3:=aaf d (show (8:Int)≠0 by decide);have h4:=zN d (show (0:Int)<8 by decide);exact zY aa aa
theorem akc{t:Rat}{C M:Nat}(hC:rl (1-t)+rl t+1<=C):∀(k:Nat) (q:List Rat),q.length=k->(∀x∈q,(rl x+C)*2^k<=M)->∀x∈loF t k q,rl x+C<=M
 |0,q,_,_,x,hx=>by cases hx
 |k+1,q,hq,h,x,hx=>by
  rw[loF,fJ]at hx;rcases hx with rfl|hx
  ·exact yx (h _ (df aa))
  exact akc hC k (p6 t q) (by rw[ade];omega) (ajz hC h) x hx
theorem ajh{t:Rat}{C M:Nat}(hC:rl (1-t)+rl t+1<=C):∀(k:Nat) (q tl:List Rat),q.length=k->(∀x∈q,(rl x+C)*2^k<=M)->(∀x∈tl,rl x+C<=M)->∀x∈hiF t k q tl,rl x+C<=M
 |0,q,tl,hq,_,h2,x,hx=>by
  obtain rfl:q=[]:=kJ hq;exact h2 x hx
 |k+1,q,tl,hq,h,h2,x,hx=>by
  refine ajh hC k (p6 t q) _ (by rw[ade];omega) (ajz hC h) (fun y hy=>?_) x hx;rcases fJ.1 hy with rfl|hy
  ·exact yx (h _ (df aa))
  exact h2 y hy
theorem HS.lo{p:List Rat}{t:Rat}(h:HS p t):∀x∈loP p t,Go.Lg.rl x<=1073741824:=fun x hx=>by
 obtain⟨cc,h1,h2,h3⟩:=h;have:=akc h1 p.length p rfl h3 x hx;omega
theorem HS.hi{p:List Rat}{t:Rat}(h:HS p t):∀x∈hiP p t,Go.Lg.rl x<=1073741824:=fun x hx=>by
 obtain⟨cc,h1,h2,h3⟩:=h;have:=ajh h1 p.length p [] rfl h3 (fun y hy=>by cases hy) x hx;omega
theorem HS.ev{p:List Rat}{t:Rat}(h:HS p t):Go.Lg.rl (evP p t)<=1073741824:=kg an h.lo _
def bU(a b:Rat):Rat:=if b<a then b else a
def bV(a b:Rat):Rat:=if a<b then b else a
def afB(s:Rat×Rat)(t:Rat×Rat):Rat×Rat:=(bU s.1 t.1,bV s.2 t.2)
def sJ(p:List Rat):Nat->Rat×Rat
 |0=>(0,0)
 |k+1=>afB (if k=0 then(p.getD k 0,p.getD k 0)else sJ p k) (p.getD k 0,p.getD k 0)
def axk(p:List Rat):Rat×Rat:=sJ p p.length
theorem aBf(a:Rat):bU a a=a:=by unfold bU;split<;>rfl
theorem arG(a:Rat):bV a a=a:=by unfold bV;split<;>rfl
theorem aBa(a b:Rat):bU a b<=a/\bU a b<=b/\(bU a b=a\/bU a b=b):=by unfold bU;split<;>grind
theorem axt(a b:Rat):a<=bV a b/\b<=bV a b/\(bV a b=a\/bV a b=b):=by unfold bV;split<;>grind
theorem ajb(p:List Rat):∀k,(∀i,i<k->(sJ p k).1<=p.getD i 0/\p.getD i 0<=(sJ p k).2)/\(0<k->(∃i,i<k/\(sJ p k).1=p.getD i 0)/\∃i,i<k/\(sJ p k).2=p.getD i 0)
 |0=>⟨fun i h=>by omega,fun h=>by omega⟩
 |k+1=>by
  obtain⟨h1,h2⟩:=ajb p k;rw[sJ];by_cases hk:k=0
  ·subst hk;rw[if_pos rfl];simp only[afB,aBf,arG];refine⟨fun i hi=>?_,fun _=>⟨⟨0,aa,rfl⟩,⟨0,aa,rfl⟩⟩⟩;obtain rfl:i=0:=aa;exact⟨aa8,aa8⟩
  rw[if_neg hk];obtain⟨⟨i,hi,ei⟩,⟨j,hj,ej⟩⟩:=h2 aa;have a:=aBa (sJ p k).1 (p.getD k 0);have b:=axt (sJ p k).2 (p.getD k 0);simp only[afB];refine⟨fun x hx=>?_,fun _=>⟨?_,?_⟩⟩
  ·by_cases qp:x=k
   ·subst qp;exact⟨a.2.1,b.2.1⟩
   have:=h1 x aa;exact⟨aj5 a.1 this.1,aj5 this.2 b.1⟩
  ·rcases a.2.2 with e|e
   ·exact⟨i,aa,by rw[e,ei]⟩
   exact⟨k,aa,e⟩
  rcases b.2.2 with e|e
  ·exact⟨j,aa,by rw[e,ej]⟩
  exact⟨k,aa,e⟩
theorem adt{a b:Rat}:ez a b<=0↔a<=b:=by
 unfold ez;split
 ·rename_i h;exact⟨fun _=>Rat.le_of_lt h,fun _=>by decide⟩
 split
 ·rename_i h;exact⟨fun e=>absurd e an,fun e=>absurd h (alQ.2 e)⟩
 rename_i h;exact⟨fun _=>alQ.1 h,fun _=>by decide⟩
def vP(s:Rat×Rat)(x:Rat):Bool:=decide (s.1<=x)&&decide (x<=s.2)
theorem akn{s:Rat×Rat}{x:Rat}(h:decide (ez s.1 x<=0)=true):decide (ez x s.2<=0)=vP s x:=by
 unfold vP;rw[decide_eq_true (adt.1 (of_decide_eq_true h)),Bool.true_and,decide_eq_decide,adt]
theorem aqt{s:Rat×Rat}{x:Rat}(h:decide (ez s.1 x<=0)=false):false=vP s x:=by
 unfold vP;rw[decide_eq_false (fun e=>of_decide_eq_false h (adt.2 e)),Bool.false_and]
open H0 in
theorem agA(a b:Rat)(h:rl a+rl b<=549755813888):ar ae 141 [ab a,ab b] (cP (bU a b,bV a b)):=by
 refine aE Tryz.func141 ?_;refine cg ?_;refine cp aK (apY _ _ aa) ?_;refine aR ?_;refine cp aK (ane _ _ aa) ?_;refine aV ?_;exact iV [] rfl rfl rfl (cB.aj _) (acN _) zx (.pure (cB.pure _))
open H0 in
theorem alb(n d:Int)(hn:-9223372036854775808<=n/\n<=9223372036854775807)(hd:-9223372036854775808<=d/\d<=9223372036854775807):ar ae 13 [iL n,iL d] (ab (fF n d)):=by
 have h1:=aaf n (show (41:Int)≠0 by decide);have h2:=zN n (show (0:Int)<41 by decide);have h3:=aaf d (show (8:Int)≠0 by decide);have h4:=zN d (show (0:Int)<8 by decide);refine aE Tryz.func13 ?_;refine bC (afw n 41 an an) ?_;refine ai rfl nv ?_;refine bC (afw d 8 an an) ?_;refine ai rfl pn ?_;refine cp aK (ahS (n%41-20) (d%8+1) aa aa aa aa aa) ?_;refine ay ?_;exact ju
def v3a(p q:V3):V3:=⟨p.x+q.x,p.y+q.y,p.z+q.z⟩
def fU(p q:V3):V3:=⟨p.x-q.x,p.y-q.y,p.z-q.z⟩
def nO(p q:V3):Rat:=0+p.x*q.x+p.y*q.y+p.z*q.z
def bE(R:Nat)(p:V3):Prop:=rl p.x<=R/\rl p.y<=R/\rl p.z<=R
theorem bE.le{R S:Nat}{p:V3}(h:bE R p)(hRS:R<=S):bE S p:=⟨bW h.1 hRS,bW h.2.1 hRS,bW h.2.2 hRS⟩
theorem acU{R:Nat}{p q:V3}(hp:bE R p)(hq:bE R q):bE (2*R+1) (fU p q):=by
 have h1:=kW p.x q.x;have h2:=kW p.y q.y;have h3:=kW p.z q.z;obtain⟨a1,a2,a3⟩:=hp;obtain⟨b1,b2,b3⟩:=hq;exact⟨by show rl (p.x-q.x)<=_;omega,by show rl (p.y-q.y)<=_;omega,by show rl (p.z-q.z)<=_;omega⟩
theorem aca{R S:Nat}{p q:V3}(hp:bE R p)(hq:bE S q):rl (nO p q)<=3*(R+S)+4:=by
 obtain⟨a1,a2,a3⟩:=hp;obtain⟨b1,b2,b3⟩:=hq;have h1:=du p.x q.x;have h2:=du p.y q.y;have h3:=du p.z q.z;have h4:=ks 0 (p.x*q.x);have h5:=ks (0+p.x*q.x) (p.y*q.y);have h6:=ks (0+p.x*q.x+p.y*q.y) (p.z*q.z);have h0:rl 0=1:=rfl;unfold nO;omega
def gZ(t:Rat):Rat:=if 0<(if t<1 then t else 1)then(if t<1 then t else 1)else 0
def okP(R:Nat)(q:dG):Prop:=bE R q.p/\rl q.w<=R/\0<q.w
theorem oW(q:V3)(b:Nat):(aB q).kill b=aB q:=LV.kM b _ (a7.pure q)
theorem ap3(q:dG)(b:Nat):(dj q).kill b=dj q:=LV.kM b _ (iA.pure q)
theorem cS:type_of% (bG (@oW) (bG (@ap3) (bG (cT a7) (bG (cT iA) (bG (cT al) (bG (@jz) (@acO))))))):=bG (@oW) (bG (@ap3) (bG (cT a7) (bG (cT iA) (bG (cT al) (bG (@jz) (@acO))))))
namespace alD
theorem aD{p q:Prop}(k:q)(e:p=q:=by simp only[bc,aZ,aW,aS,abf];exact rfl):p:=e.mpr k
end alD
open alD in
theorem amu(f:Nat)(g:Rat->Rat->Rat)(p q:V3)(h1:ar ae f [ab p.x,ab q.x] (ab (g p.x q.x)))(h2:ar ae f [ab p.y,ab q.y] (ab (g p.y q.y)))(h3:ar ae f [ab p.z,ab q.z] (ab (g p.z q.z))):ar ae 146 [aB p,aB q,.bQ f []] (aB ⟨g p.x q.x,g p.y q.y,g p.z q.z⟩):=by
 refine aE Tryz.func146 (ht:=(fun r=>LV.dF r _ (a7.pure _))) ?_;refine nk ?_;refine eW ?_;refine nk ?_;refine jA [] rfl rfl (.bQ (f:=f) (cap:=[]) (args:=[ab p.x,ab q.x]) rfl (.cons dv (.cons dv .nil)) ⟨rfl,fun _ h=>by cases h⟩ h1.1 an (fun _ h=>by cases h)) (h1.2 _) ?_;refine cb ?_;refine eW ?_;refine nk ?_;refine jA [] rfl rfl (.bQ (f:=f) (cap:=[]) (args:=[ab p.y,ab q.y]) rfl (.cons dv (.cons dv .nil)) ⟨rfl,fun _ h=>by cases h⟩ h2.1 an (fun _ h=>by cases h)) (h2.2 _) ?_;refine cb ?_;refine eW ?_;refine nk ?_;refine jA [] rfl rfl (.bQ (f:=f) (cap:=[]) (args:=[ab p.z,ab q.z]) rfl (.cons dv (.cons dv .nil)) ⟨rfl,fun _ h=>by cases h⟩ h3.1 an (fun _ h=>by cases h)) (h3.2 _) ?_;refine cb ?_;refine oP ?_;refine bp ?_;exact yp
open H0 in
theorem acD(p q:V3)(R:Nat)(hR:R<=100000000000)(hp:bE R p)(hq:bE R q):ar ae 157 [aB p,aB q] (aB (fU p q)):=by
 obtain⟨a1,a2,a3⟩:=hp;obtain⟨b1,b2,b3⟩:=hq;refine aE Tryz.func157 (ht:=(fun r=>LV.dF r _ (a7.pure _))) ?_;refine cg ?_;refine cp iM (amu 60 (·-·) p q (ot _ _ aa) (ot _ _ aa) (ot _ _ aa)) ?_;refine ay ?_;exact yp
open H0 in
theorem apj(p q:V3)(R:Nat)(hR:R<=100000000000)(hp:bE R p)(hq:bE R q):ar ae 55 [aB p,aB q] (aB (v3a p q)):=by
 obtain⟨a1,a2,a3⟩:=hp;obtain⟨b1,b2,b3⟩:=hq;refine aE Tryz.func55 (ht:=(fun r=>LV.dF r _ (a7.pure _))) ?_;refine cg ?_;refine cp iM (amu 59 (·+·) p q (gY _ _ aa) (gY _ _ aa) (gY _ _ aa)) ?_;refine ay ?_;exact yp
open H0 in
theorem abi(p q:V3)(R:Nat)(hR:R<=1000000000)(hp:bE R p)(hq:bE R q):ar ae 142 [aB p,aB q] (ab (nO p q)):=by
 obtain⟨a1,a2,a3⟩:=hp;obtain⟨b1,b2,b3⟩:=hq;have m1:=du p.x q.x;have m2:=du p.y q.y;have m3:=du p.z q.z;have s1:=ks 0 (p.x*q.x);have s2:=ks (0+p.x*q.x) (p.y*q.y);have hz0:rl 0=1:=rfl;refine aE Tryz.func142 ?_;refine nk ?_;refine eW ?_;refine bC (fo p.x q.x aa) ?_;refine cp aK (gY 0 (p.x*q.x) aa) ?_;refine bx ?_;refine eW ?_;refine bC (fo p.y q.y aa) ?_;refine cp aK (gY (0+p.x*q.x) (p.y*q.y) aa) ?_;refine bx ?_;refine eW ?_;refine bC (fo p.z q.z aa) ?_;refine cp aK (gY (0+p.x*q.x+p.y*q.y) (p.z*q.z) aa) ?_;refine bx ?_;refine oP ?_;refine bp ?_;exact ju
theorem ym{a b:Rat}:0<=ez a b↔b<=a:=by
 unfold ez;constructor
 ·intro h;split at h
  ·exact absurd h an
  grind
 intro h;split
 ·exfalso;grind
 split<;>decide
end Go.Proofs.YtbgmjcnjbhhljaaGreat
end
