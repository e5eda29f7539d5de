/- Texts LgTy, N1, N2, N3, N4, N5, N6, N7, N8, N9, N10, N11, R1, R2, R3, R4, R5, B1, M1, R6, B2, C1, C2, D1 of this proof, joined. -/
import Derived.Test.YtlipjipfpkbppaaGreatQV3
import Derived.Test.YtlipjipfpkbppaaGreatChecked
set_option linter.unusedVariables false
set_option linter.unusedSimpArgs false
open And renaming intro->aF
open Bool renaming and_eq_true->dG,eq_iff_iff->um,false_eq_true->tC
open Classical renaming byContradiction->im
open Go.Proofs.Tryz renaming f216->wx,func213->ab2,func249->ad2,prog->aa,t119->acT,t146->acA,t155->ad7,t179->aew,t191->acG,t29->ad9,t32->abQ,t46->adC,t48->acJ,t54->ac0,t61->acR,t96->abd,underlying119->abj,underlying146->aed,underlying153->qE,underlying155->abL,underlying171->abv,underlying179->adW,underlying191->adP,underlying2->xM,underlying212->xT,underlying22->vP,underlying225->adg,underlying23->abJ,underlying239->abm,underlying240->acp,underlying242->adt,underlying249->oh,underlying26->aV,underlying27->jG,underlying29->acE,underlying3->acf,underlying30->gS,underlying32->abS,underlying33->ade,underlying36->oB,underlying4->abX,underlying41->ac7,underlying44->eT,underlying46->adm,underlying48->acS,underlying49->acF,underlying5->abb,underlying54->adk,underlying59->eI,underlying61->acN,underlying77->aet,underlying79->aee,underlying91->adF,underlying95->tP,underlying96->abR
open Int renaming emod_lt_of_pos->nB,emod_nonneg->nL,natAbs_neg->y7
open List renaming append_nil->aS,drop_length->uk,drop_of_length_le->ep,drop_zero->dY,eq_nil_of_length_eq_zero->jB,ext_getElem->lX,getD_eq_getElem?_getD->ao,getElem?_eq_getElem->aB,getElem?_eq_none->px,getElem?_replicate->acZ,getElem?_set->zB,length_append->cZ,length_cons->aQ,length_map->aA,length_nil->bc,map_nil->bh,nil_append->aR,range->b9,replicate->ai,set_cons_succ->aK,set_cons_zero->aN,take_length->eZ,take_nil->aZ,take_of_length_le->aH,take_succ_eq_append_getElem->tc
open Nat renaming add_comm->dM,add_mul->cI,add_sub_cancel->df,add_zero->iH,div_add_mod->n7,div_eq_of_lt->qm,div_le_self->lr,div_lt_iff_lt_mul->fP,div_mul_le_self->abY,div_one->u7,div_pos->xm,gcd->bI,gcd_comm->iJ,gcd_dvd_left->qh,gcd_dvd_right->aag,gcd_pos_of_pos_left->aaz,gcd_rec->ug,gcd_zero_right->uY,le_div_iff_mul_le->nO,le_mul_of_pos_right->mq,le_of_dvd->sj,le_of_eq->tM,le_of_lt->lE,le_refl->an,le_total->aac,le_trans->aw,lt_of_le_of_lt->jW,lt_of_lt_of_le->rI,lt_or_eq_of_le->acH,lt_or_ge->cu,min_le_right->abg,mod_eq_of_lt->cV,mod_lt->dO,mul_add->bm,mul_assoc->bW,mul_comm->bz,mul_le_mul_left->fx,mul_le_mul_right->bw,mul_one->dA,mul_pos->eN,mul_zero->oR,pos_of_ne_zero->ll,pow_add->fh,pow_le_pow_right->gg,pow_pos->dU,pow_succ->dz,pow_zero->nI,reduceAdd->au,reduceBEq->aq,reduceEqDiff->aO,reduceMul->ar,sub_le->wD,sub_mul->ad3,succ_mul->cB,zero_add->cJ,zero_le->az,zero_mod->acz,zero_mul->jm
open Option.some renaming injEq->bF
open Rat renaming div_def->cj,lt_iff->acQ,neg_den->zn,neg_num->aaU,num_eq_zero->aev,sub_eq_add_neg->ado
section
set_option linter.unusedVariables false
set_option linter.unusedSimpArgs false
set_option maxHeartbeats 8000000
set_option maxRecDepth 100000
namespace Go.Proofs.YtlipjipfpkbppaaGreat
open Go.Lg
theorem fol:aa.follows .mixedOrders=true:=cX
mutual
def zc:LV->List Value
 | .v x=>[x]
 | .list _ _=>[.slice none 0 0]
 | .agg l=>zcs l
 | _=>[]
def zcs:List LV->List Value
 | []=>[]
 | x :: xs=>zc x++zcs xs
end
mutual
def zOK:LV->Bool
 | .v x=>x.oneCell'
 | .list _ []=>true
 | .agg l=>zOKs l
 | _=>false
def zOKs:List LV->Bool
 | []=>true
 | x :: xs=>zOK x && zOKs xs
end
mutual
theorem zc_len:∀ x,zOK x=true->(zc x).length=x.csize
 | .v x,_=>rfl
 | .list _ [],_=>rfl
 | .agg l,h=>by rw [zOK] at h;rw [zc,zcs_len l h];rfl
 | .list _ (_ :: _),h=>by cases h
 | .ref ..,h=>by cases h
 | .refc ..,h=>by cases h
 | .eptr ..,h=>by cases h
 | .boxp _,h=>by cases h
 | .tup _,h=>by cases h
 | .clo ..,h=>by cases h
 | .any,h=>by cases h
theorem zcs_len:∀ l,zOKs l=true->(zcs l).length=csizes l
 | [],_=>rfl
 | x :: xs,h=>by
  rw [zOKs,dG] at h;rw [zcs,csizes,cZ,zc_len x h.1,zcs_len xs h.2]
end
section
variable {Z:Nat->Prop} {μ:Nat->Option Nat} {w:World}
mutual
theorem repZ:∀ x,zOK x=true->Rep Z μ w x (zc x)
 | .v x,h=>by rw [zOK] at h;exact repV0 h
 | .list n [],_=>repNil0 n
 | .agg l,h=>by rw [zOK] at h;rw [zc];exact repAgg0 (repZs l h)
 | .list _ (_ :: _),h=>by cases h
 | .ref ..,h=>by cases h
 | .refc ..,h=>by cases h
 | .eptr ..,h=>by cases h
 | .boxp _,h=>by cases h
 | .tup _,h=>by cases h
 | .clo ..,h=>by cases h
 | .any,h=>by cases h
theorem repZs:∀ l,zOKs l=true->RepFs Z μ w l (zcs l)
 | [],_=>repFs0
 | x :: xs,h=>by
  rw [zOKs,dG] at h;rw [zcs];exact repFs1 (zc_len x h.1) (repZ x h.1) (repZs xs h.2)
end
end
theorem zk {P:Program} {T:TypeId} {z:LV} {i:TypeInfo} {zv:Value} (h1:P.info? T=some i) (h2:i.zero=some zv) (h3:z.pure=true) (h4:zOK z=true) (h5:zc z=zv.cells.toList):ZeroOK P T z :=
 ⟨i,zv,h1,h2,h3,fun _ _ _=>h5 ▸ repZ z h4⟩
theorem T2:TyIs aa 2 1 false:=⟨by kernel_rfl,_,xM,rfl⟩
theorem B2:TyBytes aa 2 8:=⟨Tryz.t2,by kernel_rfl,rfl⟩
theorem Z2:ZeroOK aa 2 (.v (.int .i64 0)):=by exact zk (i:=Tryz.t2) cX rfl rfl rfl rfl
instance:TI aa 2 1 false:=⟨T2⟩
theorem T3:TyIs aa 3 1 false:=⟨by kernel_rfl,_,acf,rfl⟩
theorem B3:TyBytes aa 3 8:=⟨Tryz.t3,by kernel_rfl,rfl⟩
theorem Z3:ZeroOK aa 3 (.v (.int .i64 0)):=by exact zk (i:=Tryz.t3) cX rfl rfl rfl rfl
instance:TI aa 3 1 false:=⟨T3⟩
instance:ZI aa 3 (.v (.int .i64 0)):=⟨Z3⟩
instance:UN aa 4 .bool:=⟨abX⟩
theorem T4:TyIs aa 4 1 false:=⟨by kernel_rfl,_,abX,rfl⟩
instance:TI aa 4 1 false:=⟨T4⟩
instance:UN aa 5 (.int .u8):=⟨abb⟩
instance:UN aa 22 (.slice 3):=⟨vP⟩
theorem T22:TyIs aa 22 1 false:=⟨by kernel_rfl,_,vP,rfl⟩
instance:TI aa 22 1 false:=⟨T22⟩
instance:UN aa 23 (.array 4 3):=⟨abJ⟩
theorem T23:TyIs aa 23 4 true:=⟨by kernel_rfl,_,abJ,rfl⟩
instance:TI aa 23 4 true:=⟨T23⟩
instance:UN aa 26 (.slice 32):=⟨aV⟩
theorem T26:TyIs aa 26 1 false:=⟨by kernel_rfl,_,aV,rfl⟩
instance:TI aa 26 1 false:=⟨T26⟩
instance:UN aa 27 (.slice 59):=⟨jG⟩
theorem T27:TyIs aa 27 1 false:=⟨by kernel_rfl,_,jG,rfl⟩
instance:TI aa 27 1 false:=⟨T27⟩
theorem T29:TyIs aa 29 5 true:=⟨by kernel_rfl,_,acE,rfl⟩
theorem B29:TyBytes aa 29 88:=⟨ad9,by kernel_rfl,rfl⟩
theorem Z29:ZeroOK aa 29 (.agg [.v (.int .i64 0),.v (.int .i64 0),.v (.slice none 0 0),.v (.slice none 0 0),.v (.slice none 0 0)]):=by exact zk (i:=ad9) cX rfl rfl rfl rfl
instance:TI aa 29 5 true:=⟨T29⟩
instance:ZI aa 29 (.agg [.v (.int .i64 0),.v (.int .i64 0),.v (.slice none 0 0),.v (.slice none 0 0),.v (.slice none 0 0)]):=⟨Z29⟩
theorem SL29:StructLay aa 29 [(1,false),(1,false),(1,false),(1,false),(1,false)]:=⟨_,acE,⟨rfl,T3,⟨rfl,T3,⟨rfl,T26,⟨rfl,T26,⟨rfl,T27,trivial⟩⟩⟩⟩⟩,by decide⟩
instance:SI aa 29 [(1,false),(1,false),(1,false),(1,false),(1,false)]:=⟨SL29⟩
instance:UN aa 30 (.slice 179):=⟨gS⟩
theorem T30:TyIs aa 30 1 false:=⟨by kernel_rfl,_,gS,rfl⟩
instance:TI aa 30 1 false:=⟨T30⟩
theorem T32:TyIs aa 32 3 true:=⟨by kernel_rfl,_,abS,rfl⟩
theorem B32:TyBytes aa 32 56:=⟨abQ,by kernel_rfl,rfl⟩
theorem Z32:ZeroOK aa 32 (ratL 0):=by rw [ratL_zero];exact zk (i:=abQ) cX rfl rfl rfl rfl
theorem Z32a:ZeroOK aa 32 (.agg [.v (.bool false),.list 1 [],.list 1 []]):=ratL_zero ▸ Z32
instance:TI aa 32 3 true:=⟨T32⟩
instance:BI aa 32 56:=⟨B32⟩
instance:ZI aa 32 (.agg [.v (.bool false),.list 1 [],.list 1 []]):=⟨Z32a⟩
theorem SL32:StructLay aa 32 [(1,false),(1,false),(1,false)]:=⟨_,abS,⟨rfl,T4,⟨rfl,T30,⟨rfl,T30,trivial⟩⟩⟩,by decide⟩
instance:SI aa 32 [(1,false),(1,false),(1,false)]:=⟨SL32⟩
instance:UN aa 33 (.array 4 32):=⟨ade⟩
theorem T33:TyIs aa 33 12 true:=⟨by kernel_rfl,_,ade,rfl⟩
theorem Z33:ZeroOK aa 33 (.agg [ratL 0,ratL 0,ratL 0,ratL 0]):=by rw [ratL_zero];exact zk (i:=Tryz.t33) cX rfl rfl rfl rfl
instance:TI aa 33 12 true:=⟨T33⟩
instance:ZI aa 33 (.agg [ratL 0,ratL 0,ratL 0,ratL 0]):=⟨Z33⟩
instance:UN aa 36 (.slice 46):=⟨oB⟩
theorem T36:TyIs aa 36 1 false:=⟨by kernel_rfl,_,oB,rfl⟩
instance:TI aa 36 1 false:=⟨T36⟩
theorem T41:TyIs aa 41 5 true:=⟨by kernel_rfl,_,ac7,rfl⟩
theorem Z41:ZeroOK aa 41 (.agg [.v (.int .i64 0),.v (.int .i64 0),ratL 0]):=by rw [ratL_zero];exact zk (i:=Tryz.t41) cX rfl rfl rfl rfl
instance:TI aa 41 5 true:=⟨T41⟩
instance:ZI aa 41 (.agg [.v (.int .i64 0),.v (.int .i64 0),ratL 0]):=⟨Z41⟩
theorem SL41:StructLay aa 41 [(1,false),(1,false),(3,true)]:=⟨_,ac7,⟨rfl,T3,⟨rfl,T3,⟨rfl,T32,trivial⟩⟩⟩,by decide⟩
instance:SI aa 41 [(1,false),(1,false),(3,true)]:=⟨SL41⟩
instance:UN aa 44 (.slice 48):=⟨eT⟩
theorem T44:TyIs aa 44 1 false:=⟨by kernel_rfl,_,eT,rfl⟩
instance:TI aa 44 1 false:=⟨T44⟩
theorem T46:TyIs aa 46 4 true:=⟨by kernel_rfl,_,adm,rfl⟩
theorem B46:TyBytes aa 46 64:=⟨adC,by kernel_rfl,rfl⟩
theorem Z46:ZeroOK aa 46 (.agg [.v (.slice none 0 0),.v (.slice none 0 0),.v (.int .i64 0),.v (.int .i64 0)]):=by exact zk (i:=adC) cX rfl rfl rfl rfl
instance:TI aa 46 4 true:=⟨T46⟩
instance:ZI aa 46 (.agg [.v (.slice none 0 0),.v (.slice none 0 0),.v (.int .i64 0),.v (.int .i64 0)]):=⟨Z46⟩
theorem SL46:StructLay aa 46 [(1,false),(1,false),(1,false),(1,false)]:=⟨_,adm,⟨rfl,T44,⟨rfl,T44,⟨rfl,T3,⟨rfl,T3,trivial⟩⟩⟩⟩,by decide⟩
instance:SI aa 46 [(1,false),(1,false),(1,false),(1,false)]:=⟨SL46⟩
theorem T48:TyIs aa 48 6 true:=⟨by kernel_rfl,_,acS,rfl⟩
theorem B48:TyBytes aa 48 112:=⟨acJ,by kernel_rfl,rfl⟩
theorem Z48:ZeroOK aa 48 (.agg [ratL 0,ratL 0]):=by rw [ratL_zero];exact zk (i:=acJ) cX rfl rfl rfl rfl
instance:TI aa 48 6 true:=⟨T48⟩
instance:ZI aa 48 (.agg [ratL 0,ratL 0]):=⟨Z48⟩
theorem SL48:StructLay aa 48 [(3,true),(3,true)]:=⟨_,acS,⟨rfl,T32,⟨rfl,T32,trivial⟩⟩,by decide⟩
instance:SI aa 48 [(3,true),(3,true)]:=⟨SL48⟩
instance:UN aa 49 (.array 4 48):=⟨acF⟩
theorem T49:TyIs aa 49 24 true:=⟨by kernel_rfl,_,acF,rfl⟩
theorem Z49:ZeroOK aa 49 (.agg [.agg [ratL 0,ratL 0],.agg [ratL 0,ratL 0],.agg [ratL 0,ratL 0],.agg [ratL 0,ratL 0]]):=by rw [ratL_zero];exact zk (i:=Tryz.t49) cX rfl rfl rfl rfl
instance:TI aa 49 24 true:=⟨T49⟩
instance:UN aa 54 (.array 3 32):=⟨adk⟩
theorem T54:TyIs aa 54 9 true:=⟨by kernel_rfl,_,adk,rfl⟩
theorem B54:TyBytes aa 54 168:=⟨ac0,by kernel_rfl,rfl⟩
theorem Z54:ZeroOK aa 54 (.agg [ratL 0,ratL 0,ratL 0]):=by rw [ratL_zero];exact zk (i:=ac0) cX rfl rfl rfl rfl
instance:TI aa 54 9 true:=⟨T54⟩
instance:ZI aa 54 (.agg [ratL 0,ratL 0,ratL 0]):=⟨Z54⟩
instance:UN aa 59 (.slice 119):=⟨eI⟩
theorem T59:TyIs aa 59 1 false:=⟨by kernel_rfl,_,eI,rfl⟩
theorem B59:TyBytes aa 59 24:=⟨Tryz.t59,by kernel_rfl,rfl⟩
instance:TI aa 59 1 false:=⟨T59⟩
theorem T61:TyIs aa 61 3 true:=⟨by kernel_rfl,_,acN,rfl⟩
theorem B61:TyBytes aa 61 56:=⟨acR,by kernel_rfl,rfl⟩
theorem Z61:ZeroOK aa 61 (.agg [.v (.int .i64 0),.v (.slice none 0 0),.v (.slice none 0 0)]):=by exact zk (i:=acR) cX rfl rfl rfl rfl
instance:TI aa 61 3 true:=⟨T61⟩
instance:ZI aa 61 (.agg [.v (.int .i64 0),.v (.slice none 0 0),.v (.slice none 0 0)]):=⟨Z61⟩
theorem SL61:StructLay aa 61 [(1,false),(1,false),(1,false)]:=⟨_,acN,⟨rfl,T3,⟨rfl,T26,⟨rfl,T59,trivial⟩⟩⟩,by decide⟩
instance:SI aa 61 [(1,false),(1,false),(1,false)]:=⟨SL61⟩
instance:UN aa 77 (.array 3 54):=⟨aet⟩
theorem T77:TyIs aa 77 27 true:=⟨by kernel_rfl,_,aet,rfl⟩
theorem Z77:ZeroOK aa 77 (.agg [.agg [ratL 0,ratL 0,ratL 0],.agg [ratL 0,ratL 0,ratL 0],.agg [ratL 0,ratL 0,ratL 0]]):=by rw [ratL_zero];exact zk (i:=Tryz.t77) cX rfl rfl rfl rfl
theorem T79:TyIs aa 79 36 true:=⟨by kernel_rfl,_,aee,rfl⟩
theorem Z79:ZeroOK aa 79 (.agg [.agg [.agg [ratL 0,ratL 0,ratL 0],.agg [ratL 0,ratL 0,ratL 0],.agg [ratL 0,ratL 0,ratL 0]],.agg [ratL 0,ratL 0,ratL 0]]):=by rw [ratL_zero];exact zk (i:=Tryz.t79) cX rfl rfl rfl rfl
instance:TI aa 79 36 true:=⟨T79⟩
theorem SL79:StructLay aa 79 [(27,true),(9,true)]:=⟨_,aee,⟨rfl,T77,⟨rfl,T54,trivial⟩⟩,by decide⟩
instance:SI aa 79 [(27,true),(9,true)]:=⟨SL79⟩
theorem Z86:ZeroOK aa 86 (.agg [.agg [.v (.int .i64 0),.v (.int .i64 0),ratL 0],.v (.slice none 0 0),.v (.int .i64 0)]):=by rw [ratL_zero];exact zk (i:=Tryz.t86) cX rfl rfl rfl rfl
theorem SL86:StructLay aa 86 [(5,true),(1,false),(1,false)]:=⟨_,Tryz.underlying86,⟨rfl,T41,⟨rfl,T36,⟨rfl,T3,trivial⟩⟩⟩,by decide⟩
instance:SI aa 86 [(5,true),(1,false),(1,false)]:=⟨SL86⟩
instance:UN aa 87 (.slice 29):=⟨Tryz.underlying87⟩
theorem T91:TyIs aa 91 3 true:=⟨by kernel_rfl,_,adF,rfl⟩
theorem Z91:ZeroOK aa 91 (.agg [.v (.bool false),.v (.int .i64 0),.v (.int .i64 0)]):=by exact zk (i:=Tryz.t91) cX rfl rfl rfl rfl
instance:TI aa 91 3 true:=⟨T91⟩
instance:ZI aa 91 (.agg [.v (.bool false),.v (.int .i64 0),.v (.int .i64 0)]):=⟨Z91⟩
theorem SL91:StructLay aa 91 [(1,false),(1,false),(1,false)]:=⟨_,adF,⟨rfl,T4,⟨rfl,T3,⟨rfl,T3,trivial⟩⟩⟩,by decide⟩
instance:SI aa 91 [(1,false),(1,false),(1,false)]:=⟨SL91⟩
instance:UN aa 95 (.array 3 48):=⟨tP⟩
theorem T95:TyIs aa 95 18 true:=⟨by kernel_rfl,_,tP,rfl⟩
theorem Z95:ZeroOK aa 95 (.agg [.agg [ratL 0,ratL 0],.agg [ratL 0,ratL 0],.agg [ratL 0,ratL 0]]):=by rw [ratL_zero];exact zk (i:=Tryz.t95) cX rfl rfl rfl rfl
instance:TI aa 95 18 true:=⟨T95⟩
instance:UN aa 96 (.array 3 48):=⟨abR⟩
theorem T96:TyIs aa 96 18 true:=⟨by kernel_rfl,_,abR,rfl⟩
theorem B96:TyBytes aa 96 336:=⟨abd,by kernel_rfl,rfl⟩
theorem Z96:ZeroOK aa 96 (.agg [.agg [ratL 0,ratL 0],.agg [ratL 0,ratL 0],.agg [ratL 0,ratL 0]]):=by rw [ratL_zero];exact zk (i:=abd) cX rfl rfl rfl rfl
instance:TI aa 96 18 true:=⟨T96⟩
instance:ZI aa 96 (.agg [.agg [ratL 0,ratL 0],.agg [ratL 0,ratL 0],.agg [ratL 0,ratL 0]]):=⟨Z96⟩
instance:UN aa 111 (.slice 61):=⟨Tryz.underlying111⟩
theorem T119:TyIs aa 119 12 true:=⟨by kernel_rfl,_,abj,rfl⟩
theorem B119:TyBytes aa 119 224:=⟨acT,by kernel_rfl,rfl⟩
theorem Z119:ZeroOK aa 119 (.agg [.agg [ratL 0,ratL 0,ratL 0],ratL 0]):=by rw [ratL_zero];exact zk (i:=acT) cX rfl rfl rfl rfl
instance:TI aa 119 12 true:=⟨T119⟩
instance:ZI aa 119 (.agg [.agg [ratL 0,ratL 0,ratL 0],ratL 0]):=⟨Z119⟩
theorem SL119:StructLay aa 119 [(9,true),(3,true)]:=⟨_,abj,⟨rfl,T54,⟨rfl,T32,trivial⟩⟩,by decide⟩
instance:SI aa 119 [(9,true),(3,true)]:=⟨SL119⟩
instance:UN aa 127 (.slice 2):=⟨Tryz.underlying127⟩
theorem Z131:ZeroOK aa 131 (.agg [.v (.slice none 0 0),.v (.int .i64 0)]):=by exact zk (i:=Tryz.t131) cX rfl rfl rfl rfl
theorem SL131:StructLay aa 131 [(1,false),(1,false)]:=⟨_,Tryz.underlying131,⟨rfl,T22,⟨rfl,T3,trivial⟩⟩,by decide⟩
instance:SI aa 131 [(1,false),(1,false)]:=⟨SL131⟩
theorem T146:TyIs aa 146 3 true:=⟨by kernel_rfl,_,aed,rfl⟩
theorem B146:TyBytes aa 146 56:=⟨acA,by kernel_rfl,rfl⟩
theorem Z146:ZeroOK aa 146 (.agg [.v (.slice none 0 0),.v (.int .i64 0),.v (.slice none 0 0)]):=by exact zk (i:=acA) cX rfl rfl rfl rfl
instance:TI aa 146 3 true:=⟨T146⟩
instance:ZI aa 146 (.agg [.v (.slice none 0 0),.v (.int .i64 0),.v (.slice none 0 0)]):=⟨Z146⟩
theorem SL146:StructLay aa 146 [(1,false),(1,false),(1,false)]:=⟨_,aed,⟨rfl,T44,⟨rfl,T3,⟨rfl,T22,trivial⟩⟩⟩,by decide⟩
instance:SI aa 146 [(1,false),(1,false),(1,false)]:=⟨SL146⟩
instance:UN aa 147 (.slice 146):=⟨Tryz.underlying147⟩
instance:UN aa 153 (.slice 191):=⟨qE⟩
theorem T153:TyIs aa 153 1 false:=⟨by kernel_rfl,_,qE,rfl⟩
instance:TI aa 153 1 false:=⟨T153⟩
theorem T155:TyIs aa 155 3 true:=⟨by kernel_rfl,_,abL,rfl⟩
theorem B155:TyBytes aa 155 56:=⟨ad7,by kernel_rfl,rfl⟩
theorem Z155:ZeroOK aa 155 (.agg [.v (.int .i64 0),.v (.slice none 0 0),.v (.slice none 0 0)]):=by exact zk (i:=ad7) cX rfl rfl rfl rfl
instance:TI aa 155 3 true:=⟨T155⟩
instance:ZI aa 155 (.agg [.v (.int .i64 0),.v (.slice none 0 0),.v (.slice none 0 0)]):=⟨Z155⟩
theorem SL155:StructLay aa 155 [(1,false),(1,false),(1,false)]:=⟨_,abL,⟨rfl,T3,⟨rfl,T26,⟨rfl,T153,trivial⟩⟩⟩,by decide⟩
instance:SI aa 155 [(1,false),(1,false),(1,false)]:=⟨SL155⟩
instance:UN aa 163 (.slice 54):=⟨Tryz.underlying163⟩
instance:UN aa 169 (.slice 96):=⟨Tryz.underlying169⟩
instance:UN aa 171 (.array 3 95):=⟨abv⟩
theorem T171:TyIs aa 171 54 true:=⟨by kernel_rfl,_,abv,rfl⟩
theorem Z171:ZeroOK aa 171 (.agg [.agg [.agg [ratL 0,ratL 0],.agg [ratL 0,ratL 0],.agg [ratL 0,ratL 0]],.agg [.agg [ratL 0,ratL 0],.agg [ratL 0,ratL 0],.agg [ratL 0,ratL 0]],.agg [.agg [ratL 0,ratL 0],.agg [ratL 0,ratL 0],.agg [ratL 0,ratL 0]]]):=by rw [ratL_zero];exact zk (i:=Tryz.t171) cX rfl rfl rfl rfl
instance:TI aa 171 54 true:=⟨T171⟩
instance:ZI aa 171 (.agg [.agg [.agg [ratL 0,ratL 0],.agg [ratL 0,ratL 0],.agg [ratL 0,ratL 0]],.agg [.agg [ratL 0,ratL 0],.agg [ratL 0,ratL 0],.agg [ratL 0,ratL 0]],.agg [.agg [ratL 0,ratL 0],.agg [ratL 0,ratL 0],.agg [ratL 0,ratL 0]]]):=⟨Z171⟩
instance:UN aa 179 (.int .u32):=⟨adW⟩
theorem T179:TyIs aa 179 1 false:=⟨by kernel_rfl,_,adW,rfl⟩
theorem B179:TyBytes aa 179 4:=⟨aew,by kernel_rfl,rfl⟩
theorem Z179:ZeroOK aa 179 (.v (.int .u32 0)):=by exact zk (i:=aew) cX rfl rfl rfl rfl
instance:TI aa 179 1 false:=⟨T179⟩
instance:BI aa 179 4:=⟨B179⟩
instance:UN aa 187 (.slice 32):=⟨Tryz.underlying187⟩
instance:UN aa 191 (.array 4 32):=⟨adP⟩
theorem T191:TyIs aa 191 12 true:=⟨by kernel_rfl,_,adP,rfl⟩
theorem B191:TyBytes aa 191 224:=⟨acG,by kernel_rfl,rfl⟩
theorem Z191:ZeroOK aa 191 (.agg [ratL 0,ratL 0,ratL 0,ratL 0]):=by rw [ratL_zero];exact zk (i:=acG) cX rfl rfl rfl rfl
instance:TI aa 191 12 true:=⟨T191⟩
instance:ZI aa 191 (.agg [ratL 0,ratL 0,ratL 0,ratL 0]):=⟨Z191⟩
instance:UN aa 212 (.int .u64):=⟨xT⟩
instance:UN aa 222 (.slice 155):=⟨Tryz.underlying222⟩
instance:UN aa 225 (.array 2 32):=⟨adg⟩
theorem T225:TyIs aa 225 6 true:=⟨by kernel_rfl,_,adg,rfl⟩
theorem Z225:ZeroOK aa 225 (.agg [ratL 0,ratL 0]):=by rw [ratL_zero];exact zk (i:=Tryz.t225) cX rfl rfl rfl rfl
instance:TI aa 225 6 true:=⟨T225⟩
instance:ZI aa 225 (.agg [ratL 0,ratL 0]):=⟨Z225⟩
theorem T239:TyIs aa 239 3 true:=⟨by kernel_rfl,_,abm,rfl⟩
theorem Z239:ZeroOK aa 239 (.agg [.v (.int .i64 0),.v (.int .i64 0),.v (.slice none 0 0)]):=by exact zk (i:=Tryz.t239) cX rfl rfl rfl rfl
instance:TI aa 239 3 true:=⟨T239⟩
instance:ZI aa 239 (.agg [.v (.int .i64 0),.v (.int .i64 0),.v (.slice none 0 0)]):=⟨Z239⟩
theorem SL239:StructLay aa 239 [(1,false),(1,false),(1,false)]:=⟨_,abm,⟨rfl,T3,⟨rfl,T3,⟨rfl,T26,trivial⟩⟩⟩,by decide⟩
instance:SI aa 239 [(1,false),(1,false),(1,false)]:=⟨SL239⟩
instance:UN aa 240 (.array 4 239):=⟨acp⟩
theorem T240:TyIs aa 240 12 true:=⟨by kernel_rfl,_,acp,rfl⟩
theorem Z240:ZeroOK aa 240 (.agg [.agg [.v (.int .i64 0),.v (.int .i64 0),.v (.slice none 0 0)],.agg [.v (.int .i64 0),.v (.int .i64 0),.v (.slice none 0 0)],.agg [.v (.int .i64 0),.v (.int .i64 0),.v (.slice none 0 0)],.agg [.v (.int .i64 0),.v (.int .i64 0),.v (.slice none 0 0)]]):=by exact zk (i:=Tryz.t240) cX rfl rfl rfl rfl
instance:TI aa 240 12 true:=⟨T240⟩
instance:ZI aa 240 (.agg [.agg [.v (.int .i64 0),.v (.int .i64 0),.v (.slice none 0 0)],.agg [.v (.int .i64 0),.v (.int .i64 0),.v (.slice none 0 0)],.agg [.v (.int .i64 0),.v (.int .i64 0),.v (.slice none 0 0)],.agg [.v (.int .i64 0),.v (.int .i64 0),.v (.slice none 0 0)]]):=⟨Z240⟩
instance:UN aa 242 (.array 3 239):=⟨adt⟩
theorem T242:TyIs aa 242 9 true:=⟨by kernel_rfl,_,adt,rfl⟩
theorem Z242:ZeroOK aa 242 (.agg [.agg [.v (.int .i64 0),.v (.int .i64 0),.v (.slice none 0 0)],.agg [.v (.int .i64 0),.v (.int .i64 0),.v (.slice none 0 0)],.agg [.v (.int .i64 0),.v (.int .i64 0),.v (.slice none 0 0)]]):=by exact zk (i:=Tryz.t242) cX rfl rfl rfl rfl
instance:TI aa 242 9 true:=⟨T242⟩
instance:ZI aa 242 (.agg [.agg [.v (.int .i64 0),.v (.int .i64 0),.v (.slice none 0 0)],.agg [.v (.int .i64 0),.v (.int .i64 0),.v (.slice none 0 0)],.agg [.v (.int .i64 0),.v (.int .i64 0),.v (.slice none 0 0)]]):=⟨Z242⟩
instance:UN aa 249 (.array 2 48):=⟨oh⟩
theorem T249:TyIs aa 249 12 true:=⟨by kernel_rfl,_,oh,rfl⟩
theorem Z249:ZeroOK aa 249 (.agg [.agg [ratL 0,ratL 0],.agg [ratL 0,ratL 0]]):=by rw [ratL_zero];exact zk (i:=Tryz.t249) cX rfl rfl rfl rfl
instance:TI aa 249 12 true:=⟨T249⟩
instance:UN aa 250 (.array 2 249):=⟨Tryz.underlying250⟩
theorem Z250:ZeroOK aa 250 (.agg [.agg [.agg [ratL 0,ratL 0],.agg [ratL 0,ratL 0]],.agg [.agg [ratL 0,ratL 0],.agg [ratL 0,ratL 0]]]):=by rw [ratL_zero];exact zk (i:=Tryz.t250) cX rfl rfl rfl rfl
instance:UN aa 289 (.array 3 225):=⟨Tryz.underlying289⟩
theorem Z289:ZeroOK aa 289 (.agg [.agg [ratL 0,ratL 0],.agg [ratL 0,ratL 0],.agg [ratL 0,ratL 0]]):=by rw [ratL_zero];exact zk (i:=Tryz.t289) cX rfl rfl rfl rfl
instance:ZI aa 289 (.agg [.agg [ratL 0,ratL 0],.agg [ratL 0,ratL 0],.agg [ratL 0,ratL 0]]):=⟨Z289⟩
theorem Z48s:ZeroOK aa 48 (spL (0,0)):=by rw [spL_eq];exact Z48
instance:EC aa 2 i64L 1 false 0:=⟨i64E,Z2,T2⟩
instance:EC aa 3 i64L 1 false 0:=⟨i64E,Z3,T3⟩
instance:EC aa 32 ratL 3 true 0:=⟨ratE,Z32,T32⟩
instance:EC aa 48 spL 6 true (0,0):=⟨spE,Z48s,T48⟩
instance:AE aa 48 spL 6 true (0,0):=⟨spE,Z48s⟩
instance:EC aa 54 ptL 9 true ⟨0,0,0⟩:=⟨ptE,Z54,T54⟩
instance:EC aa 119 poL 12 true ⟨⟨0,0,0⟩,0⟩:=⟨poE,Z119,T119⟩
instance:EC aa 179 u32L 1 false 0:=⟨u32E,Z179,T179⟩
section
variable {f:FuncId} {fn:Func} {c:Code} {args:List LV} {r:LV}
theorem fnP (hf:aa.funcs[f]?=some fn)
  (h:wpL aa c (fun e L=>match e with | .exit _=>False | _=>RetL aa fn.results.toList L r []) (St.mk (fun t=>args.getD t .any) (hp [])))
  (hb:fn.body=some c:=by exact rfl) (hn:(fn.name== "runtime.NumGoroutine")=false:=by decide +kernel) (hd:dstsOk fn.ntmps c=true:=by decide +kernel) (hlen:args.length<=fn.ntmps:=by exact Nat.le_of_ble_eq_true rfl) (ht:∀ g,r.ren g=r:=by exact tm0):CallP aa f args r:=callP_of fol hf hb hn hd hlen ht h
theorem fnO {bs:List Blk} (hf:aa.funcs[f]?=some fn)
  (h:wpL aa c (fun e L=>match e with | .exit _=>False | _=>RetL aa fn.results.toList L r bs) (St.mk (fun t=>args.getD t .any) (hp [])))
  (hb:fn.body=some c:=by exact rfl) (hn:(fn.name== "runtime.NumGoroutine")=false:=by decide +kernel) (hd:dstsOk fn.ntmps c=true:=by decide +kernel) (hlen:args.length<=fn.ntmps:=by exact Nat.le_of_ble_eq_true rfl):CallOK aa f args r bs:=callO_of fol hf hb hn hd hlen h
theorem fnM {blk blk':Blk} (hf:aa.funcs[f]?=some fn)
  (h:wpL aa c (fun e L=>match e with | .exit _=>False | _=>RetM aa fn.results.toList L r blk') (St.mk (fun t=>args.getD t .any) (hp [(0,blk)])))
  (hb:fn.body=some c:=by exact rfl) (hn:(fn.name== "runtime.NumGoroutine")=false:=by decide +kernel) (hd:dstsOk fn.ntmps c=true:=by decide +kernel) (hlen:args.length<=fn.ntmps:=by exact Nat.le_of_ble_eq_true rfl) (bE:blk.mt=true:=by exact rfl):CallOKM aa f blk args r blk':=callM_of fol hf hb hn hd hlen bE h
end
end Go.Proofs.YtlipjipfpkbppaaGreat
end
section
set_option linter.unusedVariables false
set_option linter.unusedSimpArgs false
set_option maxHeartbeats 8000000
set_option maxRecDepth 100000
attribute [local irreducible] Go.Lg.opsL Go.Lg.wpL Go.Lg.thenL Go.Lg.blockL
namespace Go.Proofs.YtlipjipfpkbppaaGreat
open Go.Lg
namespace H_c_trim
theorem zSm1 {p q:Prop} (k:q) (e:p=q:=by simp only [sNF,ar,au,aq,ej,ek];exact rfl):p:=e.mpr k
theorem nf1 {p:Prop} (h:p:=by first | (refine zSm1 ?_;exact rfl) | exact rfl):p:=h
theorem zSm2 {p q:Prop} (k:q) (e:p=q:=by simp only [sNF,ar,au,aq,ek];exact rfl):p:=e.mpr k
theorem nf2 {p:Prop} (h:p:=by first | (refine zSm2 ?_;exact rfl) | exact rfl):p:=h
end H_c_trim
open H_c_trim H0 in
theorem c_trim (l:List Nat) (hl:l.length<=4611686018427387904):CallP aa 213 [limL l] (limL (trimL l)):=by
 unfold limL trimL;refine fnP ab2 ?_;refine zg14 ?_;refine lp1 (fun(k:Nat) L=>(mS L [] [(3,nI64 k),(0,.list 1 (l.map u32L))])) (fun k=>k<=l.length/\trimN l.length l=trimN k l) (fun k=>k) l.length ⟨an _,rfl⟩ ?_;rintro k L1 ⟨hk,mG⟩;refine zg6 ?_;refine op_if 8 rfl ?_ ?_<;>intro gM h8
 ·obtain⟨j,rfl⟩:∃ j,k=j+1:=⟨k-1,J⟩;have ej:(((j+1:Nat):Int)-1).toNat=j:=J;have ek:(((j+1:Nat):Int)-1)=j:=J;refine zg7 ?_;refine st_end nf1 ?_;refine zg1 ?_;refine wl_if rfl ?_ ?_<;>intro il fc
  ·refine zg7 ?_;refine st_end nf2 ?_;refine zg2 ?_;exact nx1 j ⟨J,mG.trans (by simp only [trimN];rw [if_pos (by simpa using fc)])⟩
  refine zg9 ?_;refine st_pure rfl tq ?_;refine zg4 ?_;rw [mG,trimN,if_neg (by simpa using fc)];exact ret1 rfl (.pure (pure_lst u32E _ _))
 have ew:k=0:=J;subst ew;have ej:True:=trivial;have ek:True:=trivial;refine zg7 ?_;refine st_end nf1 ?_;refine zg11 ?_;refine st_pure rfl tq ?_;refine zg4 ?_;rw [mG];exact ret1 rfl (.pure (pure_lst u32E _ _))
namespace H_c_Add
theorem zSm {p q:Prop} (k:q) (e:p=q:=by simp only [sNF,ar,au,aq,dflt];exact rfl):p:=e.mpr k
end H_c_Add
open H_c_Add in
theorem c_Add (a b:List Nat) (ha:Lim a) (hb:Lim b) (cr:a.length<=1099511627776) (ff:b.length<=1099511627776):CallP aa 248 [limL a,limL b] (magL (val a+val b)):=by
 unfold limL magL;refine fnP Tryz.func248 ?_;refine zg15 ?_;refine wl_cut (fun L=>∃ (x:List Nat) (y:List Nat) (L1:St),(Lim x/\Lim y/\x.length<=1099511627776/\y.length<=x.length/\val a+val b=val x+val y)/\L=(mS L1 [] [(1,.list 1 (y.map u32L)),(0,.list 1 (x.map u32L))])) ?_ ?_
 ·refine wl_if rfl ?_ ?_<;>intro xk h13
  ·refine zg7 ?_;exact⟨b,a,_,⟨hb,ha,ff,J,dM _ _⟩,aL⟩
  refine zg2 ?_;exact⟨a,b,_,⟨ha,hb,cr,J,rfl⟩,aL⟩
 rintro _ ⟨x,y,ahn,⟨hx,hy,yA,hyx,y6⟩,rfl⟩;rw [y6];refine zg6 ?_;refine st_alloc rfl rfl (.mkE (n:=x.length+1) (m:=x.length+1) ml ml om om om) ?_;refine zg17 ?_;refine lp3 (fun(k:Nat) (o:List Nat) (c:Nat) L=>(mS L [(19,⟨1,o.map u32L,true⟩)] [(22,nI64 k),(21,nI64 x.length),(20,.list 1 (x.map u32L)),(6,nU64 c),(5,.ref 19 1 0 (x.length+1)),(1,.list 1 (y.map u32L)),(0,.list 1 (x.map u32L))])) (fun k o c=>k<=x.length/\o.length=x.length+1/\c<=1/\Lim o/\val (o.take k)+4294967296 ^ k*c=val (x.take k)+val (y.take k)) (fun k o c=>x.length-k) 0 (ai (x.length+1) 0) 0 ⟨az _,by simp,J,lim_zeros _,by simp [val]⟩ ?_;rintro k o c L1 ⟨hk,aP,hc,aC,hv⟩;have kL:=getD_lim hx k;have uT:=getD_lim hy k;refine zg6 ?_;refine wl_if rfl ?_ ?_<;>intro lC kt
 ·refine zg31 ?_;refine wl_if rfl ?_ ?_<;>intro vy oO
  ·refine zg33 ?_;exact nx3 (k+1) (o.set k ((c+x.getD k 0+y.getD k 0) % 4294967296)) ((c+x.getD k 0+y.getD k 0)/4294967296) ⟨J,by simp [aP],J,lim_set aC _ _ (dO _ J),add_inv J hv rfl⟩
  refine zg24 ?_;exact nx3 (k+1) (o.set k ((c+x.getD k 0) % 4294967296)) ((c+x.getD k 0)/4294967296) ⟨J,by simp [aP],J,lim_set aC _ _ (dO _ J),add_inv J hv (by rw [getD_ge y k J];rfl)⟩
 obtain rfl:k=x.length:=J;refine zg19 ?_;refine cpf [19] fm1 (c_trim _ ko) ?_;refine zg4 ?_;rw [<-add_end (c:=c % 4294967296) hyx aP aC J (by rw [cV J];exact hv)];exact ret1 rfl (.pure (limL_pure _))
theorem c_trimD (l:List Nat) (h:Lim l) (hl:l.length<=4611686018427387904):CallP aa 213 [limL l] (magL (val l)):=by
 have:=c_trim l hl;rwa [trimL_dig h] at this
namespace H_c_NValid
theorem zSm {p q:Prop} (k:q) (e:p=q:=by simp only [sNF,ar,au,aq,dflt,ej];exact rfl):p:=e.mpr k
end H_c_NValid
open H_c_NValid in
theorem c_NValid (a:List Nat) (hl:a.length<=4611686018427387904):CallP aa 132 [limL a] (bL (decide (a.length=0\/a.getD (a.length-1) 0≠0))):=by
 unfold limL;refine fnP Tryz.func132 ?_;have ej:True:=trivial;refine zg11 ?_;refine op_if 6 rfl ?_ ?_<;>intro nW h6
 ·have ej:True:=trivial;refine zg12 ?_;refine ret1 ?_ (.pure rfl);simp only [e1,e2,e3,e4,p1,p2,p3,q1,q2,q3,aq];congr 2
  first | (symm;rw [decide_eq_true_iff];omega) | (rw [um,bne_iff_ne,decide_eq_true_iff];omega)
 have ej:((a.length:Int)-1).toNat=a.length-1:=J;refine zg12 ?_;refine ret1 ?_ (.pure rfl);simp only [e1,e2,e3,e4,p1,p2,p3,q1,q2,q3,aq];congr 2
 first | (symm;rw [decide_eq_true_iff];omega) | (rw [um,bne_iff_ne,decide_eq_true_iff];omega)
namespace H_c_word
theorem zSm {p q:Prop} (k:q) (e:p=q:=by simp only [sNF,ar,au,aq,dflt,ej,ek];exact rfl):p:=e.mpr k
end H_c_word
open H_c_word in
theorem c_word (a:List Nat) (h:Lim a) (hl:a.length<=2):CallP aa 217 [limL a] (nU64 (val a)):=by
 unfold limL;refine fnP Tryz.func217 ?_;have ej:True:=trivial;have ek:True:=trivial;refine zg20 ?_;refine lp2 (fun(k n:Nat) L=>(mS L [] [(4,iL ((k:Int)-1)),(3,nU64 n),(0,.list 1 (a.map u32L))])) (fun k n=>k<=a.length/\n=val (a.drop k)) (fun k n=>k) a.length 0 ⟨an _,by simp [val]⟩ ?_;rintro k n L1 ⟨hk,hn⟩;refine zg7 ?_;refine wl_if rfl ?_ ?_<;>intro pz h9
 ·obtain⟨j,rfl⟩:∃ j,k=j+1:=⟨k-1,J⟩;have ej:(((j+1:Nat):Int)-1).toNat=j:=J;have ek:(((j+1:Nat):Int)-1)=j:=J;have hb:=getD_lim h j;have fy:n<4294967296:=by have:=val_drop_lt h (k:=j+1) (j:=1) J;rw [hn];simpa using this
  refine zg23 ?_;exact nx2 j (n*4294967296+a.getD j 0) ⟨J,by rw [val_drop J,hn];omega⟩
 obtain rfl:k=0:=J;have ej:True:=trivial;have ek:True:=trivial;rw [dY] at hn;rw [<-hn];refine zg12 ?_;exact bf
open H_c_word in
theorem c_NCmp (a b:List Nat) (ha:Lim a) (hb:Lim b) (cr:a.length<=1099511627776) (ff:b.length<=1099511627776):CallP aa 187 [limL a,limL b] (iL (cmpN (val a) (val b))):=by
 refine fnP Tryz.func187 ?_;have ej:True:=trivial;have ek:True:=trivial;refine zg8 ?_;refine cp am1 (c_trimD _ cM J) ?_;refine zg1 ?_;refine cp am1 (c_trimD _ cM J) ?_;refine zg14 ?_;refine wl_if rfl ?_ ?_<;>intro jg gi
 ·have qW:(dig (val a)).length<=1099511627776:=by rw [<-trimL_dig ha];unfold trimL;simp;omega
  refine zg10 ?_;refine wl_if rfl ?_ ?_<;>intro wP xU
  ·have hE:=lt_of_len (m:=val a) (n:=val b) J;refine zg8 ?_
   first | (rw [cmpN_lt hE];exact ret1 rfl (.pure rfl)) | (rw [cmpN_gt hE];exact ret1 rfl (.pure rfl)) | (rw [cmpN_eq hE];exact ret1 rfl (.pure rfl))
  have hE:=lt_of_len (m:=val b) (n:=val a) J;refine zg9 ?_
  first | (rw [cmpN_lt hE];exact ret1 rfl (.pure rfl)) | (rw [cmpN_gt hE];exact ret1 rfl (.pure rfl)) | (rw [cmpN_eq hE];exact ret1 rfl (.pure rfl))
 have hlen:(dig (val a)).length=(dig (val b)).length:=J;have qW:(dig (val a)).length<=1099511627776:=by rw [<-trimL_dig ha];unfold trimL;simp;omega
 clear gi jg;refine zg12 ?_;refine lp1 (fun(k:Nat) L=>(mS L [] [(5,iL ((k:Int)-1)),(1,magL (val b)),(0,magL (val a))])) (fun k=>k<=(dig (val a)).length/\(dig (val a)).drop k=(dig (val b)).drop k) (fun k=>k) ((dig (val a)).length) ⟨an _,by rw [uk,ep J]⟩ ?_;rintro k L1 ⟨hk,hd⟩;refine zg7 ?_;refine wl_if rfl ?_ ?_<;>intro nm oC
 ·obtain⟨j,rfl⟩:∃ j,k=j+1:=⟨k-1,J⟩;have ej:(((j+1:Nat):Int)-1).toNat=j:=J;have ek:(((j+1:Nat):Int)-1)=j:=J;refine zg5 ?_;refine wl_regD 9 ah ?_;refine zg11 ?_;refine wl_if rfl ?_ ?_<;>intro nx nT
  ·refine zg2 ?_;refine wl_regD 9 ah ?_;refine zg11 ?_;refine wl_if rfl ?_ ?_<;>intro ah9 h44
   ·have hE:=val_lt_of_limb (lim_dig (val a)) (k:=j) J J hd J;rw [val_dig,val_dig] at hE;refine zg12 ?_
    first | (rw [cmpN_lt hE];exact ret1 rfl (.pure rfl)) | (rw [cmpN_gt hE];exact ret1 rfl (.pure rfl)) | (rw [cmpN_eq hE];exact ret1 rfl (.pure rfl))
   have hE:=val_lt_of_limb (lim_dig (val b)) (k:=j) J J hd.symm J;rw [val_dig,val_dig] at hE;refine zg13 ?_
   first | (rw [cmpN_lt hE];exact ret1 rfl (.pure rfl)) | (rw [cmpN_gt hE];exact ret1 rfl (.pure rfl)) | (rw [cmpN_eq hE];exact ret1 rfl (.pure rfl))
  refine zg9 ?_;exact nx1 j ⟨J,drop_eq_of J J hd J⟩
 obtain rfl:k=0:=J;have ej:True:=trivial;have ek:True:=trivial;rw [dY,dY] at hd;have hE:val a=val b:=by have:=congrArg val hd;rwa [val_dig,val_dig] at this
 refine zg11 ?_
 first | (rw [cmpN_lt hE];exact ret1 rfl (.pure rfl)) | (rw [cmpN_gt hE];exact ret1 rfl (.pure rfl)) | (rw [cmpN_eq hE];exact ret1 rfl (.pure rfl))
theorem len_trim_le {b:List Nat} (h:Lim b):(dig (val b)).length<=b.length:=by
 rw [<-trimL_dig h];unfold trimL;simp;exact abg _ _
open H0 in
theorem c_NSubLt (a b:List Nat) (ha:Lim a) (hb:Lim b) (cr:a.length<=1099511627776) (ff:b.length<=1099511627776) (aG:val a<val b):CallP aa 249 [limL a,limL b] (.tup [limL [],iL 7]):=by
 refine fnP ad2 ?_;refine zg11 ?_;refine cp am2 (c_NCmp _ _ cM cM J J) ?_;refine zg3 ?_;refine wl_if rfl ?_ ?_<;>intro il fc
 ·refine zg8 ?_;exact ret2 rfl (.nil 1) rfl (.pure rfl)
 exfalso;rw [cmpN_lt aG] at fc;omega
theorem sub_invW {k br:Nat} {a b o:List Nat} (aP:k<o.length) (fW:br<=1) (hx:a.getD k 0<4294967296) (hyb:b.getD k 0<4294967296) (aC:Lim o) (hv:val (o.take k)+val (b.take k)=val (a.take k)+4294967296 ^ k*br) {y d:Nat}
  (hy:y=br+b.getD k 0) (hd:d=(18446744073709551616+a.getD k 0-y) % 18446744073709551616) :
  d/9223372036854775808<=1/\Lim (o.set k (d % 4294967296))/\val ((o.set k (d % 4294967296)).take (k+1))+val (b.take (k+1))=val (a.take (k+1))+4294967296 ^ (k+1)*(d/9223372036854775808):=by
 refine⟨J,lim_set aC _ _ J,?_⟩;rcases cu (a.getD k 0) y with h | h
 ·have h1:d % 4294967296=4294967296+a.getD k 0-y:=J;have h2:d/9223372036854775808=1:=J;rw [h1,h2];exact sub_inv1 aP hv hy h J
 have h1:d % 4294967296=a.getD k 0-y:=J;have h2:d/9223372036854775808=0:=J;rw [h1,h2];exact sub_inv0 aP hv hy h
open H_c_Add in
theorem c_NSub (a b:List Nat) (ha:Lim a) (hb:Lim b) (cr:a.length<=1099511627776) (ff:b.length<=1099511627776) (hle:val b<=val a):CallP aa 249 [limL a,limL b] (.tup [magL (val a-val b),iL 0]):=by
 have gQ:(dig (val b)).length<=a.length:=by
  apply dig_length_le;exact jW hle (val_lt ha)
 refine fnP ad2 ?_;refine zg11 ?_;refine cp am2 (c_NCmp _ _ cM cM J J) ?_;refine zg3 ?_;refine wl_if rfl ?_ ?_<;>intro il fc
 ·exfalso;rcases acH hle with h | h
  ·rw [cmpN_gt h] at fc;omega
  rw [cmpN_eq h.symm] at fc;omega
 refine zg5 ?_;refine cp am1 (c_trimD _ cM J) ?_;refine zg7 ?_;refine st_alloc rfl rfl (.mkE (n:=a.length) (m:=a.length) ml ml om om om) ?_;refine zg17 ?_;refine lp3 (fun(k:Nat) (o:List Nat) (br:Nat) L=>(mS L [(20,⟨1,o.map u32L,true⟩)] [(23,nI64 k),(22,nI64 a.length),(21,.list 1 (a.map u32L)),(7,nU64 br),(6,.ref 20 1 0 a.length),(1,magL (val b)),(0,.list 1 (a.map u32L))])) (fun k o br=>k<=a.length/\o.length=a.length/\br<=1/\Lim o/\val (o.take k)+val ((dig (val b)).take k)=val (a.take k)+4294967296 ^ k*br) (fun k o br=>a.length-k) 0 (ai a.length 0) 0 ⟨az _,by simp,J,lim_zeros _,by simp [val]⟩ ?_;rintro k o br L1 ⟨hk,aP,fW,aC,hv⟩;have kL:=getD_lim ha k;have uT:=getD_dig_lt (val b) k;refine zg6 ?_;refine wl_if rfl ?_ ?_<;>intro nm oC
 ·refine zg28 ?_;refine wl_cut (fun L=>∃ (y:Nat) (L1:St),(y=br+(dig (val b)).getD k 0)/\L=(mS L1 [(20,⟨1,o.map u32L,true⟩)] [(10,nU64 y),(8,nI64 k),(9,u32L (a.getD k 0)),(23,nI64 k),(22,nI64 a.length),(21,.list 1 (a.map u32L)),(7,nU64 br),(6,.ref 20 1 0 a.length),(1,magL (val b)),(0,.list 1 (a.map u32L))])) ?_ ?_
  ·refine wl_if rfl ?_ ?_<;>intro uB h32
   ·refine zg11 ?_;exact⟨br+(dig (val b)).getD k 0,_,rfl,aL⟩
   refine zg2 ?_;exact⟨br,_,by rw [getD_ge _ k J];rfl,aL⟩
  rintro _ ⟨y,aiM,hy,rfl⟩;refine zg6 ?_;refine st_pure rfl (.bin rfl rfl (subW J)) ?_;refine zg25 ?_;exact nx3 (k+1) (o.set k ((18446744073709551616+a.getD k 0-y) % 18446744073709551616 % 4294967296)) ((18446744073709551616+a.getD k 0-y) % 18446744073709551616/9223372036854775808) ⟨J,by simp [aP],sub_invW J fW kL uT aC hv hy rfl⟩
 obtain rfl:k=a.length:=J;refine zg8 ?_;refine cpf [20] fm1 (c_trimD _ cM J) ?_;refine zg5 ?_;have e:=sub_end ha aC aP gQ (by rw [val_dig];exact hle) hv;rw [trimL_dig aC,val_dig] at e;have e2:=congrArg val e;rw [val_dig,val_dig] at e2;rw [<-e2];exact ret2 rfl (.pure (magL_pure _)) rfl (.pure rfl)
theorem mul_s_lt {c x y z:Nat} (hc:c<4294967296) (hx:x<4294967296) (hy:y<4294967296) (hz:z<4294967296):c+(x*y+z)<18446744073709551616:=by
 have:=mulLt hx hy;omega
theorem mul_zero {i x:Nat} {a b o:List Nat} (hx:x=a.getD i 0) (h0:x=0) (hv:val o=val (a.take i)*val b):val o=val (a.take (i+1))*val b:=by
 rw [val_take_succ',<-hx,h0];simpa using hv
theorem zeros_set {i m j x:Nat} {o:List Nat} (hj:j<m) (hz:∀ p,i+m<=p->o.getD p 0=0):∀ p,i+m<=p->(o.set (i+j) x).getD p 0=0:=fun p hp=>by
 rw [Go.Lg.getD_set_ne _ _ _ _ J];exact hz p hp
theorem zeros_end {i m x:Nat} {o:List Nat} (hz:∀ p,i+m<=p->o.getD p 0=0):∀ p,i+1+m<=p->(o.set (i+m) x).getD p 0=0:=fun p hp=>by
 rw [Go.Lg.getD_set_ne _ _ _ _ J];exact hz p J
theorem getD_zeros (n p:Nat):(ai n 0).getD p 0=0:=by
 rw [ao,acZ];split<;>rfl
namespace H_c_NMul
theorem zSm {p q:Prop} (k:q) (e:p=q:=by simp only [sNF,ar,au,aq,dflt,eu];exact rfl):p:=e.mpr k
end H_c_NMul
open H_c_NMul in
theorem c_NMul (a b:List Nat) (ha:Lim a) (hb:Lim b) (cr:a.length<=1099511627776) (ff:b.length<=1099511627776):CallP aa 188 [limL a,limL b] (magL (val a*val b)):=by
 unfold limL;refine fnP Tryz.func188 ?_;have eu:True:=trivial;refine zg12 ?_;refine st_alloc rfl rfl (.mkE (n:=a.length+b.length) (m:=a.length+b.length) ml ml om om om) ?_;refine zg12 ?_;refine lp2 (fun(i:Nat) (o:List Nat) L=>(mS L [(16,⟨1,o.map u32L,true⟩)] [(19,nI64 i),(18,nI64 a.length),(17,.list 1 (a.map u32L)),(5,.ref 16 1 0 (a.length+b.length)),(1,.list 1 (b.map u32L)),(0,.list 1 (a.map u32L))])) (fun i o=>i<=a.length/\o.length=a.length+b.length/\Lim o/\val o=val (a.take i)*val b/\∀ p,i+b.length<=p->o.getD p 0=0) (fun i o=>a.length-i) 0 (ai (a.length+b.length) 0) ⟨az _,by simp,lim_zeros _,by simp [val,val_zeros],fun p _=>getD_zeros _ _⟩ ?_;rintro i o L1 ⟨hi,aP,aC,hv,hz⟩;have oV:=getD_lim ha i;have eu:True:=trivial;refine zg6 ?_;refine wl_if rfl ?_ ?_<;>intro py oA
 ·refine zg20 ?_;refine wl_if rfl ?_ ?_<;>intro vF n6
  ·refine zg9 ?_;exact nx2 (i+1) o ⟨J,aP,aC,mul_zero rfl J hv,fun p hp=>hz p J⟩
  refine zg16 ?_;refine lp3 (fun(j:Nat) (o:List Nat) (c:Nat) L=>(mS L [(16,⟨1,o.map u32L,true⟩)] [(28,nI64 j),(27,nI64 b.length),(26,.list 1 (b.map u32L)),(8,nU64 c),(7,u32L (a.getD i 0)),(6,nI64 i),(19,nI64 i),(18,nI64 a.length),(17,.list 1 (a.map u32L)),(5,.ref 16 1 0 (a.length+b.length)),(1,.list 1 (b.map u32L)),(0,.list 1 (a.map u32L))])) (fun j o c=>j<=b.length/\o.length=a.length+b.length/\Lim o/\c<4294967296/\val o+4294967296 ^ (i+j)*c=val (a.take i)*val b+4294967296 ^ i*(a.getD i 0*val (b.take j))/\∀ p,i+b.length<=p->o.getD p 0=0) (fun j o c=>b.length-j) 0 o 0 ⟨az _,aP,aC,J,by rw [hv];simp [val],hz⟩ ?_;rintro j o c L2 ⟨hj,aP,aC,hc,hv,hz⟩;have zP:=getD_lim hb j;have zx:=getD_lim aC (i+j);have hs:=mul_s_lt hc oV zP zx;have eu:((i:Int)+(j:Int)).toNat=i+j:=J;refine zg6 ?_;refine wl_if rfl ?_ ?_<;>intro pg nY
  ·refine zg57 ?_;exact nx3 (j+1) (o.set (i+j) ((c+(a.getD i 0*b.getD j 0+o.getD (i+j) 0)) % 4294967296)) ((c+(a.getD i 0*b.getD j 0+o.getD (i+j) 0))/4294967296) ⟨J,by simp [aP],lim_set aC _ _ (dO _ J),J,mul_inv J hv rfl,zeros_set J hz⟩
  obtain rfl:j=b.length:=J;have afh:((i:Int)+(b.length:Int)).toNat=i+b.length:=J;refine zg23 ?_;exact nx2 (i+1) (o.set (i+b.length) (c % 4294967296)) ⟨J,by simp [aP],lim_set aC _ _ (dO _ J),by rw [cV hc];exact mul_row J J (hz _ (an _)) rfl rfl hv,zeros_end hz⟩
 obtain rfl:i=a.length:=J;refine zg8 ?_;refine cpf [16] fm1 (c_trimD _ cM ko) ?_;refine zg4 ?_;rw [eZ] at hv;rw [<-hv];exact bf
open H_c_word in
theorem c_Nsmall (a:List Nat) (d:Nat) (ha:Lim a) (cr:a.length<=1099511627776) (dt:0<d) (hd:d<4294967296):CallP aa 264 [limL a,nU32 d] (.tup [magL (val a/d),nU32 (val a % d)]):=by
 unfold limL;refine fnP Tryz.func264 ?_;have ej:True:=trivial;have ek:True:=trivial;refine zg10 ?_;refine st_alloc rfl rfl (.mkE (n:=a.length) (m:=a.length) ml ml om om om) ?_;refine zg18 ?_;refine lp3 (fun(k:Nat) (q:List Nat) (r:Nat) L=>(mS L [(11,⟨1,q.map u32L,true⟩)] [(8,iL ((k:Int)-1)),(7,nU64 r),(6,.ref 11 1 0 a.length),(1,nU32 d),(0,.list 1 (a.map u32L))])) (fun k q r=>k<=a.length/\q.length=a.length/\Lim q/\r<d/\val (q.drop k)*d+r=val (a.drop k)) (fun k q r=>k) a.length (ai a.length 0) 0 ⟨an _,by simp,lim_zeros _,dt,by simp [val]⟩ ?_;rintro k q r L1 ⟨hk,ey,gh,hr,hv⟩;refine zg7 ?_;refine wl_if rfl ?_ ?_<;>intro mQ ks
 ·obtain⟨j,rfl⟩:∃ j,k=j+1:=⟨k-1,J⟩;have ej:(((j+1:Nat):Int)-1).toNat=j:=J;have ek:(((j+1:Nat):Int)-1)=j:=J;have hxj:=getD_lim ha j;refine zg24 ?_;refine st_pure rfl uj ?_;refine zg20 ?_;exact nx3 j (q.set j ((r*4294967296+a.getD j 0)/d % 4294967296)) ((r*4294967296+a.getD j 0) % d) ⟨J,by simp [ey],lim_set gh _ _ (dO _ J),dO _ dt,by rw [cV (small_lt hr hxj)];exact small_inv J ey hv rfl⟩
 obtain rfl:k=0:=J;have ej:True:=trivial;have ek:True:=trivial;refine zg8 ?_;refine cpf [11] fm1 (c_trimD _ cM ko) ?_;refine zg7 ?_;obtain⟨E1,E2⟩:=small_end dt hr gh hv;rw [trimL_dig gh] at E1;have E3:=congrArg val E1;rw [val_dig,val_dig] at E3;rw [<-E3,<-E2];have E4:r % 4294967296=r:=cV J;refine ret2 rfl (.pure (magL_pure _)) rfl ?_;show Imm _ (nU32 (r % 4294967296)) (nU32 r);rw [E4];exact .pure rfl
theorem pow_s {s:Nat} (hs:s<32):2 ^ s<=2147483648/\0<2 ^ s:=⟨gg (n:=2) J (show s<=31 by omega),dU J⟩
theorem wrap8 {m:Nat} (h:m<256):(0:Int)<=IntKind.u8.wrap (m:Int)/\(IntKind.u8.wrap (m:Int)).toNat=m:=by
 rw [IntKind.wrap_u8];omega
theorem shl_lt {x p:Nat} (hx:x<4294967296) (hp:p<=2147483648):x*p<=9223372034707292160:=by
 have:=Nat.mul_le_mul (Nat.le_sub_one_of_lt hx) hp;simpa using this
theorem carry_lt {x p c:Nat} (hx:x<4294967296) (hc:c<p):(x*p+c)/4294967296<p:=by
 rw [fP J];have:(x+1)*p<=4294967296*p:=bw _ hx;rw [cI] at this;rw [bz p];omega
open H_c_Add in
theorem c_raise (a:List Nat) (s:Nat) (ha:Lim a) (cr:a.length<=1099511627776) (hs:s<32):CallOK aa 266 [limL a,nI64 s] (.ref 1 1 0 (a.length+1)) [⟨1,(padL (a.length+1) (val a*2 ^ s)).map u32L,true⟩]:=by
 unfold limL;refine fnO Tryz.func266 ?_;refine zg10 ?_;refine st_alloc rfl rfl (.mkE (n:=a.length+1) (m:=a.length+1) ml ml om om om) ?_;refine zg17 ?_;refine lp3 (fun(k:Nat) (o:List Nat) (c:Nat) L=>(mS L [(12,⟨1,o.map u32L,true⟩)] [(15,nI64 k),(14,nI64 a.length),(13,.list 1 (a.map u32L)),(6,nU64 c),(5,.ref 12 1 0 (a.length+1)),(1,nI64 s),(0,.list 1 (a.map u32L))])) (fun k o c=>k<=a.length/\o.length=a.length+1/\c<2 ^ s/\Lim o/\val (o.take k)+4294967296 ^ k*c=val (a.take k)*2 ^ s) (fun k o c=>a.length-k) 0 (ai (a.length+1) 0) 0 ⟨az _,by simp,(pow_s hs).2,lim_zeros _,by simp [val]⟩ ?_;rintro k o c L1 ⟨hk,aP,hc,aC,hv⟩;have kL:=getD_lim ha k;obtain⟨dx,kJ⟩:=pow_s hs;have ma:=shl_lt kL dx;refine zg6 ?_;refine wl_if rfl ?_ ?_<;>intro mQ ks
 ·refine zg19 ?_;refine st_pure rfl (.sh rfl rfl (shlV J J)) ?_;refine st_pure rfl (.bin rfl rfl (orV hc J)) ?_;refine zg25 ?_;exact nx3 (k+1) (o.set k ((a.getD k 0*2 ^ s+c) % 4294967296)) ((a.getD k 0*2 ^ s+c)/4294967296) ⟨J,by simp [aP],carry_lt kL hc,lim_set aC _ _ (dO _ J),raise_inv J hv rfl⟩
 obtain rfl:k=a.length:=J;refine zg23 ?_;have qn:c % 4294967296=c:=cV J;have E:=raise_end aP hv;have E2:=padL_eq (lim_set aC a.length c J) (by simp only [List.length_set];exact aP);rw [E] at E2;rw [<-E2];simp only [qn];exact ret1own rfl rfl (pures_map u32E _)
open H0 in
theorem c_NOf (n:Nat) (hn:n<18446744073709551616):CallP aa 218 [nU64 n] (magL n):=by
 have hL:Lim [n % 4294967296,n/4294967296 % 4294967296]:=by
  intro x hx;simp at hx;omega
 have hV:val [n % 4294967296,n/4294967296 % 4294967296]=n:=by rw [val_two];omega
 refine fnP Tryz.func218 ?_;refine zg13 ?_;refine cpf [8] fm1 (c_trimD _ cM ko) ?_;refine zg4 ?_
 skip
 exact ret1 rfl (by rw [hV];exact .pure (magL_pure _))
namespace H_c_Len32
theorem zSm1 {p q:Prop} (k:q) (e:p=q:=by simp only [sNF,ar,au,aq,w6];exact rfl):p:=e.mpr k
theorem nf1 {p:Prop} (h:p:=by first | (refine zSm1 ?_;exact rfl) | exact rfl):p:=h
end H_c_Len32
open H_c_Len32 H0 in
theorem c_Len32 (n:Nat) (hn:n<4294967296):CallP aa 214 [nU32 n] (iL (blen n)):=by
 refine fnP Tryz.func214 ?_;refine zg12 ?_;refine wl_cut (fun L=>∃ (m:Nat) (q:Nat) (L1:St),(blen n=q+blen m/\m<65536/\q<=16)/\L=(mS L1 [] [(2,iL q),(0,nU32 m)])) ?_ ?_
 ·refine wl_if rfl ?_ ?_<;>intro h4r h4
  ·refine zg3 ?_;refine st_pure rfl (.sh rfl rfl (shrC (m:=16) ae)) ?_;refine zg7 ?_;exact⟨n/2 ^ 16,16,_,⟨blen_div J,J,J⟩,aL⟩
  refine zg2 ?_;exact⟨n,0,_,⟨J,J,J⟩,aL⟩
 rintro _ ⟨m,q,LC4,⟨mT,hm,hq⟩,rfl⟩;refine zg8 ?_;refine wl_cut (fun L=>∃ (m2:Nat) (q2:Nat) (L1:St),(blen n=q2+blen m2/\m2<256/\q2<=24)/\L=(mS L1 [] [(2,iL q2),(0,nU32 m2)])) ?_ ?_
 ·refine wl_if rfl ?_ ?_<;>intro gM h8
  ·refine zg3 ?_;refine st_pure rfl (.sh rfl rfl (shrC (m:=8) ae)) ?_;refine zg9 ?_;exact⟨m/2 ^ 8,q+8,_,⟨by rw [mT,blen_div (n:=m) (k:=8) J];omega,J,J⟩,aL⟩
  refine zg2 ?_;exact⟨m,q,_,⟨mT,J,J⟩,aL⟩
 rintro _ ⟨m2,q2,LC8,⟨nN,cL,tj⟩,rfl⟩;have hb8:blen m2<=8:=blen_le.2 cL;have w6:(UInt8.ofNat (blen m2)).toNat=blen m2:=(by decide:∀ k,k<=8->(UInt8.ofNat k).toNat=k) _ hb8;refine zg6 ?_;refine st_pure rfl (.indexS (b:=UInt8.ofNat (blen m2)) rfl Tryz.underlying9 rfl (wrap8 cL).1 (by rw [(wrap8 cL).2];exact tbl ah cL)) ?_;refine st_pure rfl (.cvI abb acf rfl J J) ?_;refine st_pure rfl mo ?_;refine zg1 ?_;refine st_end nf1 ?_;refine zg2 ?_;rw [nN];exact ret1 rfl (by first | exact .pure rfl | (rw [w6];exact .pure rfl))
open H0 in
theorem c_LZ32 (n:Nat) (hn:n<4294967296):CallP aa 265 [nU32 n] (iL (32-blen n)):=by
 have hb:blen n<=32:=blen_le.2 hn;refine fnP Tryz.func265 ?_;refine zg8 ?_;refine cp am1 (c_Len32 _ J) ?_;refine zg5 ?_;exact bf
theorem c_trimC (l:List Nat) (h:Lim l) (hl:l.length<=1099511627776):(dig (val l)).length<=1099511627776:=aw (len_trim_le h) hl
theorem blen_dig {n:Nat} (h:0<(dig n).length):32*((dig n).length-1)+blen ((dig n).getD ((dig n).length-1) 0)=blen n:=by
 have:=blen_val (lim_dig n) (can_dig n) h;rw [val_dig] at this;omega
open H_c_NValid in
theorem c_NBits (a:List Nat) (ha:Lim a) (cr:a.length<=1099511627776):CallP aa 133 [limL a] (iL (blen (val a))):=by
 have aG:=c_trimC a ha cr;refine fnP Tryz.func133 ?_;have ej:True:=trivial;refine zg8 ?_;refine cp am1 (c_trimD _ cM ko) ?_;refine zg11 ?_;refine wl_if rfl ?_ ?_<;>intro zo h7
 ·have h0:val a=0:=dig_eq_nil.1 (jB J);have hz:blen (val a)=0:=blen_zero.2 h0;refine zg7 ?_;rw [hz];exact bf
 have gC:0<(dig (val a)).length:=J;have ej:(((dig (val a)).length:Int)-1).toNat=(dig (val a)).length-1:=J;have hz:=blen_dig gC;have rF:=getD_dig_lt (val a) ((dig (val a)).length-1);have aaM:blen ((dig (val a)).getD ((dig (val a)).length-1) 0)<=32:=blen_le.2 rF;refine zg14 ?_;refine cp am1 (c_Len32 _ (by rw [ej];exact rF)) ?_;refine st_pure rfl (.bin rfl rfl (add64 (by simp only [ej,dflt];omega) (by simp only [ej,dflt];omega))) ?_;refine zg4 ?_;refine ret1 ?_ (.pure rfl);simp only [e1,e2,e3,e4,p1,p2,p3,q1,q2,q3,aq];congr 2;omega
namespace H_c_Clone
theorem zSm1 {p q:Prop} (k:q) (e:p=q:=by simp only [sNF,ar,au,aq,List.take_zero,aZ,aR,kills_map u32E,LV.kill];exact rfl):p:=e.mpr k
theorem nf1 {p:Prop} (h:p:=by first | (refine zSm1 ?_;exact rfl) | exact rfl):p:=h
end H_c_Clone
open H_c_Clone H0 in
theorem c_Clone (a:List Nat) (cr:a.length<=1099511627776):CallP aa 215 [limL a] (limL a):=by
 unfold limL;refine fnP Tryz.func215 ?_;refine zg7 ?_;refine wl_regE (nil_reg (sz:=1) (l:=a.map u32L) rfl gS (fun b hb=>?_));refine zg1 ?_;refine wl_if rfl ?_ ?_<;>intro h4r h4
 ·have aaZ:a=[]:=by simpa using hb h4r
  subst aaZ;refine zg7 ?_;exact ret1 rfl (.nil 1)
 refine zg6 ?_;refine st_store rfl (.app rfl rfl rfl rfl rfl (az _) (.inr rfl) ae gS gS Z179 T179 rfl B179 (.inr (.inl rfl)) al al ae) ?_;refine zg1 ?_;refine st_end nf1 ?_;refine zg2 ?_;exact ret1f [7] rfl rfl (imm_refm u32E rfl rfl aj)
open H_c_Add in
theorem c_Equal (a b:List Nat) (cr:a.length<=1099511627776) (ff:b.length<=1099511627776):CallP aa 186 [limL a,limL b] (bL (decide (a=b))):=by
 unfold limL;refine fnP Tryz.func186 ?_;refine zg15 ?_;refine wl_if rfl ?_ ?_<;>intro fB iN
 ·have hE:a≠b:=by rintro rfl;omega
  refine zg7 ?_
  first | (rw [decide_eq_true hE];exact ret1 rfl (.pure rfl)) | (rw [decide_eq_false hE];exact ret1 rfl (.pure rfl))
 have hl:a.length=b.length:=J;clear iN fB;refine zg11 ?_;refine lp1 (fun(k:Nat) L=>(mS L [] [(13,nI64 k),(12,nI64 a.length),(11,.list 1 (a.map u32L)),(1,.list 1 (b.map u32L)),(0,.list 1 (a.map u32L))])) (fun k=>k<=a.length/\a.take k=b.take k) (fun k=>a.length-k) 0 ⟨az _,rfl⟩ ?_;rintro k L1 ⟨hk,ht⟩;refine zg6 ?_;refine wl_if rfl ?_ ?_<;>intro jg gi
 ·refine zg11 ?_;refine wl_regD 9 ah ?_;refine zg11 ?_;refine wl_if rfl ?_ ?_<;>intro nm oC
  ·have hE:a≠b:=by rintro rfl;omega
   refine zg11 ?_
   first | (rw [decide_eq_true hE];exact ret1 rfl (.pure rfl)) | (rw [decide_eq_false hE];exact ret1 rfl (.pure rfl))
  refine zg8 ?_;exact nx1 (k+1) ⟨J,take_eq_of J J ht J⟩
 obtain rfl:k=a.length:=J;have hE:a=b:=by rw [eZ,hl,eZ] at ht;exact ht
 refine zg11 ?_
 first | (rw [decide_eq_true hE];exact ret1 rfl (.pure rfl)) | (rw [decide_eq_false hE];exact ret1 rfl (.pure rfl))
namespace H_c_trimM
theorem zSm {p q:Prop} (k:q) (e:p=q:=by simp only [sNF,ar,au,aq,ej,ek,dflt];exact rfl):p:=e.mpr k
end H_c_trimM
open H_c_trimM in
theorem c_trimM (l:List Nat) (hl:l.length<=4611686018427387904) (h0:0<l.length):CallOKM aa 213 ⟨1,l.map u32L,true⟩ [.ref 0 1 0 l.length] (.ref 0 1 0 (trimN l.length l)) ⟨1,l.map u32L,true⟩:=by
 refine fnM ab2 ?_;have ej:True:=trivial;have ek:True:=trivial;refine zg14 ?_;refine lp1 (fun(k:Nat) L=>(mS L [(0,⟨1,l.map u32L,true⟩)] [(3,nI64 k),(0,.ref 0 1 0 l.length)])) (fun k=>k<=l.length/\trimN l.length l=trimN k l) (fun k=>k) l.length ⟨an _,rfl⟩ ?_;rintro k L1 ⟨hk,mG⟩;refine zg6 ?_;refine op_if 8 rfl ?_ ?_<;>intro gM h8
 ·obtain⟨j,rfl⟩:∃ j,k=j+1:=⟨k-1,J⟩;have ej:(((j+1:Nat):Int)-1).toNat=j:=J;have ek:(((j+1:Nat):Int)-1)=j:=J;refine zg9 ?_;refine wl_if rfl ?_ ?_<;>intro il fc
  ·refine zg10 ?_;exact nx1 j ⟨J,mG.trans (by simp only [trimN];rw [if_pos (by simpa using fc)])⟩
  refine zg9 ?_;refine st_pure rfl tq ?_;refine zg4 ?_;rw [mG,trimN,if_neg (by simpa using fc)];exact retM1 rfl .ref rfl rfl (pures_map u32E _)
 have ew:k=0:=J;subst ew;refine zg19 ?_;refine st_pure rfl tq ?_;refine zg4 ?_;rw [mG];exact retM1 rfl .ref rfl rfl (pures_map u32E _)
theorem c_trimM' (l:List Nat) (n:Nat) (hn:n=l.length) (hl:n<=4611686018427387904) (h0:0<n):CallOKM aa 213 ⟨1,l.map u32L,true⟩ [.ref 0 1 0 n] (.ref 0 1 0 (trimN n l)) ⟨1,l.map u32L,true⟩:=by
 subst hn;exact c_trimM l hl h0
theorem c_raiseN (x s:Nat) (cr:(dig x).length<=1099511627776) (hs:s<32):CallOK aa 266 [magL x,nI64 s] (.ref 1 1 0 ((dig x).length+1)) [⟨1,(padL ((dig x).length+1) (x*2 ^ s)).map u32L,true⟩]:=by
 have:=c_raise (dig x) s (lim_dig x) cr hs;rw [val_dig] at this;exact this
theorem val_one (x:Nat):val [x]=x:=by simp [val]
theorem s_eq {x:Nat} (h:x<=32):(32:Int)-(x:Int)=((32-x:Nat):Int):=J
namespace H_c_NDiv
theorem zSm {p q:Prop} (k:q) (e:p=q:=by simp only [sNF,ar,au,aq,dflt,val_dig,ej,ek,es,eV,gO,gj,iV,jJ,ka,gE,iA,eu,kT,kP,gZ,jf,List.set_set,List.length_set,Nat.add_mod_mod,jF,jK,gw,dL];exact rfl):p:=e.mpr k
theorem zSm1 {p q:Prop} (k:q) (e:p=q:=by simp only [sNF,ar,au,aq,dflt,val_dig,ej,ek,es,eV,gO,gj,iV,jJ,ka,gE,iA,eu,kT,kP,gZ,jf,List.set_set,List.length_set,Nat.add_mod_mod,jF,jK,gw,dL,ka];exact rfl):p:=e.mpr k
theorem nf1 {p:Prop} (h:p:=by first | (refine zSm1 ?_;exact rfl) | exact rfl):p:=h
theorem zSm2 {p q:Prop} (k:q) (e:p=q:=by simp only [sNF,ar,au,aq,dflt,val_dig,ej,ek,es,eV,gO,gj,iV,jJ,ka,gE,iA,eu,kT,kP,gZ,jf,List.set_set,List.length_set,Nat.add_mod_mod,jF,jK,gw,dL,val_one];exact rfl):p:=e.mpr k
theorem nf2 {p:Prop} (h:p:=by first | (refine zSm2 ?_;exact rfl) | exact rfl):p:=h
theorem zSm3 {p q:Prop} (k:q) (e:p=q:=by simp only [sNF,ar,au,aq,dflt,val_dig,ej,ek,es,eV,gO,gj,iV,jJ,ka,gE,iA,eu,kT,kP,gZ,jf,List.set_set,List.length_set,Nat.add_mod_mod,jF,jK,gw,dL,frz_nil,jJ];exact rfl):p:=e.mpr k
theorem nf3 {p:Prop} (h:p:=by first | (refine zSm3 ?_;exact rfl) | exact rfl):p:=h
theorem zSm4 {p q:Prop} (k:q) (e:p=q:=by simp only [sNF,ar,au,aq,dflt,val_dig,ej,ek,es,eV,gO,gj,iV,jJ,ka,gE,iA,eu,kT,kP,gZ,jf,List.set_set,List.length_set,Nat.add_mod_mod,jF,jK,gw,dL,dL];exact rfl):p:=e.mpr k
theorem nf4 {p:Prop} (h:p:=by first | (refine zSm4 ?_;exact rfl) | exact rfl):p:=h
theorem cl4 {p:Prop} (h:p:=by first | rfl | (refine zSm4 ?_;first | exact trivial | rfl | (congr 3<;>omega) | (congr 2<;>omega))):p:=h
theorem zSm5 {p q:Prop} (k:q) (e:p=q:=by simp only [sNF,ar,au,aq,dflt,val_dig,ej,ek,es,eV,gO,gj,iV,jJ,ka,gE,iA,eu,kT,kP,gZ,jf,List.set_set,List.length_set,Nat.add_mod_mod,jF,jK,gw,dL,dL,jJ];exact rfl):p:=e.mpr k
theorem cl5 {p:Prop} (h:p:=by first | rfl | (refine zSm5 ?_;first | exact trivial | rfl | (congr 3<;>omega) | (congr 2<;>omega))):p:=h
theorem zSm6 {p q:Prop} (k:q) (e:p=q:=by simp only [sNF,ar,au,aq,dflt,val_dig,ej,ek,es,eV,gO,gj,iV,jJ,ka,gE,iA,eu,kT,kP,gZ,jf,List.set_set,List.length_set,Nat.add_mod_mod,jF,jK,gw,dL,<-hT];exact rfl):p:=e.mpr k
theorem nf6 {p:Prop} (h:p:=by first | (refine zSm6 ?_;exact rfl) | exact rfl):p:=h
end H_c_NDiv
open H_c_NDiv in
theorem div_corr (b ul ql:List Nat) (n s m q0 j:Nat) (dL:(dig (val b*2 ^ s)).length=n+2) (dR:n+2<=m) (kH:m<=1099511627776) (jT:q0=m+1-(n+2)) (hk:j+1<=q0) (eM:ul.length=m+1) (ey:ql.length=q0) (bO:Lim ul) (gh:Lim ql) (kQ:2147483648<=(dig (val b*2 ^ s)).getD (n+1) 0) (ef:0<(val b*2 ^ s)) (lQ:(val b*2 ^ s)<4294967296 ^ (n+2)) (aG:val ul<(val b*2 ^ s)*4294967296 ^ (j+1)) {Q:LEx->St->Prop} (L1:St)
  (hQ:∀ (x:Nat) (L2:St),(val ul/4294967296 ^ j/(val b*2 ^ s)<=x/\x<=val ul/4294967296 ^ j/(val b*2 ^ s)+1/\x<4294967296)->Q .normal (mS L2 [(1001057,⟨1,ul.map u32L,true⟩),(1001105,⟨1,(padL ((dig (val b)).length+1) (val b*2 ^ s)).map u32L,false⟩),(77,⟨1,ql.map u32L,true⟩)] [(15,nU64 x),(13,iL (((j+1:Nat):Int)-1)),(12,nI64 (n+2)),(11,magL (val b*2 ^ s)),(10,.ref 1001057 1 0 (m+1)),(9,nI64 s),(4,.ref 77 1 0 q0)])) :
  wpL aa ((subF wx [1,1,1,1,1,1,1,0,1,0,0,1,0,0,1,1,0]).getD .skip) Q (mS L1 [(1001057,⟨1,ul.map u32L,true⟩),(1001105,⟨1,(padL ((dig (val b)).length+1) (val b*2 ^ s)).map u32L,false⟩),(77,⟨1,ql.map u32L,true⟩)] [(16,nU64 ((ul.getD (n+2+j) 0*4294967296+ul.getD (n+1+j) 0) % (dig (val b*2 ^ s)).getD (n+1) 0)),(15,nU64 ((ul.getD (n+2+j) 0*4294967296+ul.getD (n+1+j) 0)/(dig (val b*2 ^ s)).getD (n+1) 0)),(13,iL (((j+1:Nat):Int)-1)),(12,nI64 (n+2)),(11,magL (val b*2 ^ s)),(10,.ref 1001057 1 0 (m+1)),(9,nI64 s),(4,.ref 77 1 0 q0)]):=by
 have ej:True:=trivial;have ek:True:=trivial;have es:True:=trivial;have eV:True:=trivial;have gO:True:=trivial;have gj:True:=trivial;have iV:True:=trivial;have jJ:True:=trivial;have ka:True:=trivial;have gE:True:=trivial;have iA:True:=trivial;have eu:True:=trivial;have kT:True:=trivial;have kP:True:=trivial;have gZ:True:=trivial;have jf:True:=trivial;have jF:True:=trivial;have jK:True:=trivial;have gw:True:=trivial;have gO:((j:Int)+((n+2:Nat):Int)).toNat=n+2+j:=J;have gj:((j:Int)+((n+2:Nat):Int)-1).toNat=n+1+j:=J;have iV:((j:Int)+((n+2:Nat):Int)-2).toNat=n+j:=J;have gE:(((n+2:Nat):Int)-1).toNat=n+1:=J;have iA:(((n+2:Nat):Int)-2).toNat=n:=J;have ek:(((j+1:Nat):Int)-1)=(j:Int):=J;have wC:=getD_dig_lt ((val b*2 ^ s)) (n+1);have pq:=getD_dig_lt ((val b*2 ^ s)) n;have q8:=getD_lim bO (n+2+j);have jx:=getD_lim bO (n+1+j);have og:=getD_lim bO (n+j);obtain⟨vl,rl,iU,eG,sQ,sY,qY⟩:=kn_ctx (j:=j) dL J bO aG;have ud:=kn_un sQ sY iU pq qY;have aaE:=kn_top sQ sY eG og J;have wY:val ul/4294967296 ^ j/(val b*2 ^ s)<4294967296:=by rw [fP ef,bz];exact qY
 refine wl_sub rfl ?_;refine zg1 ?_;refine lp2 (fun(x rest:Nat) L=>(mS L [(1001057,⟨1,ul.map u32L,true⟩),(1001105,⟨1,(padL ((dig (val b)).length+1) (val b*2 ^ s)).map u32L,false⟩),(77,⟨1,ql.map u32L,true⟩)] [(16,nU64 rest),(15,nU64 x),(13,iL (((j+1:Nat):Int)-1)),(12,nI64 (n+2)),(11,magL (val b*2 ^ s)),(10,.ref 1001057 1 0 (m+1)),(9,nI64 s),(4,.ref 77 1 0 q0)])) (fun x rest=>val ul/4294967296 ^ j/(val b*2 ^ s)<=x/\x*(dig (val b*2 ^ s)).getD (n+1) 0+rest=(ul.getD (n+2+j) 0*4294967296+ul.getD (n+1+j) 0)/\rest<4294967296) (fun x rest=>x) ((ul.getD (n+2+j) 0*4294967296+ul.getD (n+1+j) 0)/(dig (val b*2 ^ s)).getD (n+1) 0) ((ul.getD (n+2+j) 0*4294967296+ul.getD (n+1+j) 0) % (dig (val b*2 ^ s)).getD (n+1) 0) ⟨aaE,by rw [bz];exact n7 _ _,Nat.lt_trans (dO _ J) wC⟩ ?_;rintro x rest L2 ⟨hx,hxr,ab8⟩;have hxt:x<=x*(dig (val b*2 ^ s)).getD (n+1) 0:=mq _ J;refine zg2 ?_;refine wl_regD 24 ah ?_;refine zg3 ?_;refine op_if 120 rfl ?_ ?_<;>intro ag2 ag3
 ·have rv:val ul/4294967296 ^ j/(val b*2 ^ s)<=x-1:=J;have lq:1<=x:=J;refine zg28 ?_;have rV:(x-1)*(dig (val b*2 ^ s)).getD (n+1) 0+(rest+(dig (val b*2 ^ s)).getD (n+1) 0)=(ul.getD (n+2+j) 0*4294967296+ul.getD (n+1+j) 0):=by
   have e:(x-1)*(dig (val b*2 ^ s)).getD (n+1) 0+(dig (val b*2 ^ s)).getD (n+1) 0=x*(dig (val b*2 ^ s)).getD (n+1) 0:=by rw [<-cB];congr 1;omega
   omega
  refine zg25 ?_;refine wl_if rfl ?_ ?_<;>intro ae3 afT
  ·have dP:=kn_break (u2:=ul.getD (n+j) 0) rV ud jx pq J;refine zg4 ?_;exact goal_of (hQ (x-1) _ ⟨rv,kn_fin sQ sY iU J ef rV (lE dP.1) dP.2,dP.1⟩) ki
  refine zg3 ?_;exact nx2 (x-1) (rest+(dig (val b*2 ^ s)).getD (n+1) 0) ⟨rv,rV,J⟩
 have hmul:=mulLt (show x<4294967296 by omega) pq;refine zg23 ?_;refine wl_if rfl ?_ ?_<;>intro aih agh
 ·have lq:1<=x:=by
   rcases Nat.eq_zero_or_pos x with e | e
   ·rw [e,jm] at agh;omega
   exact e
  have rv:val ul/4294967296 ^ j/(val b*2 ^ s)<=x-1:=by have:=kn_dec sQ sY eG ef hxr J;omega
  refine zg4 ?_;have rV:(x-1)*(dig (val b*2 ^ s)).getD (n+1) 0+(rest+(dig (val b*2 ^ s)).getD (n+1) 0)=(ul.getD (n+2+j) 0*4294967296+ul.getD (n+1+j) 0):=by
   have e:(x-1)*(dig (val b*2 ^ s)).getD (n+1) 0+(dig (val b*2 ^ s)).getD (n+1) 0=x*(dig (val b*2 ^ s)).getD (n+1) 0:=by rw [<-cB];congr 1;omega
   omega
  refine zg25 ?_;refine wl_if rfl ?_ ?_<;>intro ae3 afT
  ·have dP:=kn_break (u2:=ul.getD (n+j) 0) rV ud jx pq J;refine zg4 ?_;exact goal_of (hQ (x-1) _ ⟨rv,kn_fin sQ sY iU J ef rV (lE dP.1) dP.2,dP.1⟩) ki
  refine zg3 ?_;exact nx2 (x-1) (rest+(dig (val b*2 ^ s)).getD (n+1) 0) ⟨rv,rV,J⟩
 refine zg4 ?_;exact goal_of (hQ (x) _ ⟨hx,kn_fin sQ sY iU J ef hxr J J,J⟩) ki
open H_c_NDiv in
theorem div_mulsub (b ul ql:List Nat) (n s m q0 j:Nat) (dL:(dig (val b*2 ^ s)).length=n+2) (dR:n+2<=m) (kH:m<=1099511627776) (jT:q0=m+1-(n+2)) (hk:j+1<=q0) (eM:ul.length=m+1) (ey:ql.length=q0) (bO:Lim ul) (gh:Lim ql) (kQ:2147483648<=(dig (val b*2 ^ s)).getD (n+1) 0) (ef:0<(val b*2 ^ s)) (lQ:(val b*2 ^ s)<4294967296 ^ (n+2)) (aG:val ul<(val b*2 ^ s)*4294967296 ^ (j+1)) (x:Nat) (mh:val ul/4294967296 ^ j/(val b*2 ^ s)<=x) (tx:x<4294967296) {Q:LEx->St->Prop} (L1:St)
  (hQ:∀ (wl:List Nat) (c:Nat) (br:Nat) (L2:St),(wl.length=m+1/\Lim wl/\c<4294967296/\br<=1/\val wl+4294967296 ^ j*(x*(val b*2 ^ s))=val ul+4294967296 ^ (n+2+j)*(c+br)/\∀ p,n+2+j<=p->wl.getD p 0=ul.getD p 0)->Q .normal (mS L2 [(1001057,⟨1,wl.map u32L,true⟩),(1001105,⟨1,(padL ((dig (val b)).length+1) (val b*2 ^ s)).map u32L,false⟩),(77,⟨1,ql.map u32L,true⟩)] [(18,nU64 c),(17,nU64 br),(15,nU64 x),(13,iL (((j+1:Nat):Int)-1)),(12,nI64 (n+2)),(11,magL (val b*2 ^ s)),(10,.ref 1001057 1 0 (m+1)),(9,nI64 s),(4,.ref 77 1 0 q0)])) :
  wpL aa ((subF wx [1,1,1,1,1,1,1,0,1,0,0,1,0,0,1,1,1,1,0,1]).getD .skip) Q (mS L1 [(1001057,⟨1,ul.map u32L,true⟩),(1001105,⟨1,(padL ((dig (val b)).length+1) (val b*2 ^ s)).map u32L,false⟩),(77,⟨1,ql.map u32L,true⟩)] [(156,nI64 0),(155,nI64 (n+2)),(154,magL (val b*2 ^ s)),(18,nU64 0),(17,nU64 0),(15,nU64 x),(13,iL (((j+1:Nat):Int)-1)),(12,nI64 (n+2)),(11,magL (val b*2 ^ s)),(10,.ref 1001057 1 0 (m+1)),(9,nI64 s),(4,.ref 77 1 0 q0)]):=by
 have ej:True:=trivial;have ek:True:=trivial;have es:True:=trivial;have eV:True:=trivial;have gO:True:=trivial;have gj:True:=trivial;have iV:True:=trivial;have jJ:True:=trivial;have ka:True:=trivial;have gE:True:=trivial;have iA:True:=trivial;have eu:True:=trivial;have kT:True:=trivial;have kP:True:=trivial;have gZ:True:=trivial;have jf:True:=trivial;have jF:True:=trivial;have jK:True:=trivial;have gw:True:=trivial;have gO:((j:Int)+((n+2:Nat):Int)).toNat=n+2+j:=J;have gj:((j:Int)+((n+2:Nat):Int)-1).toNat=n+1+j:=J;have iV:((j:Int)+((n+2:Nat):Int)-2).toNat=n+j:=J;have gE:(((n+2:Nat):Int)-1).toNat=n+1:=J;have iA:(((n+2:Nat):Int)-2).toNat=n:=J;have ek:(((j+1:Nat):Int)-1)=(j:Int):=J;have wC:=getD_dig_lt ((val b*2 ^ s)) (n+1);have pq:=getD_dig_lt ((val b*2 ^ s)) n;have q8:=getD_lim bO (n+2+j);have jx:=getD_lim bO (n+1+j);have og:=getD_lim bO (n+j);refine wl_sub rfl ?_;refine zg1 ?_
 refine lp4 (fun(i:Nat) (wl:List Nat) (c br:Nat) L=>(mS L [(1001057,⟨1,wl.map u32L,true⟩),(1001105,⟨1,(padL ((dig (val b)).length+1) (val b*2 ^ s)).map u32L,false⟩),(77,⟨1,ql.map u32L,true⟩)] [(156,nI64 i),(155,nI64 (n+2)),(154,magL (val b*2 ^ s)),(18,nU64 c),(17,nU64 br),(15,nU64 x),(13,iL (((j+1:Nat):Int)-1)),(12,nI64 (n+2)),(11,magL (val b*2 ^ s)),(10,.ref 1001057 1 0 (m+1)),(9,nI64 s),(4,.ref 77 1 0 q0)])) (fun i wl c br=>i<=n+2/\wl.length=m+1/\Lim wl/\c<4294967296/\br<=1/\val wl+4294967296 ^ j*(x*val ((dig (val b*2 ^ s)).take i))=val ul+4294967296 ^ (i+j)*(c+br)/\∀ p,n+2+j<=p->wl.getD p 0=ul.getD p 0) (fun i wl c br=>n+2-i) 0 ul 0 0 ⟨az _,eM,bO,J,J,by simp [val],fun _ _=>rfl⟩ (h0:=⟨_,Weak.of_eq (put_id' (put_id' (put_id' (put_id' (put_id' (put_id' (put_id' (put_id' (put_id' (put_id' (put_id' (put_id' (mk_id' cl4) cl4) cl4) cl4) cl4) cl4) cl4) cl4) cl4) cl4) cl4) cl4) cl4)⟩) ?_;rintro i wl c br L3 ⟨hi,cS,dB,hc,fW,pG,qJ⟩;have eu:((i:Int)+(j:Int)).toNat=i+j:=J;have hvi:=getD_dig_lt (val b*2 ^ s) i;have hmul:=mulLt tx hvi;have hwi:=getD_lim dB (i+j);refine zg6 ?_;refine wl_if rfl ?_ ?_<;>intro ah2 ahb
 ·refine zg34 ?_;refine st_pure rfl (.bin rfl rfl (andU)) ?_;refine st_pure rfl (.bin rfl rfl (subW J)) ?_;refine zg1 ?_;refine st_pure rfl (.bin rfl rfl (subW J)) ?_;refine zg34 ?_;exact nx4 (i+1) (wl.set (i+j) (((18446744073709551616+(18446744073709551616+wl.getD (i+j) 0-(c+x*(dig (val b*2 ^ s)).getD i 0) % 4294967296) % 18446744073709551616-br) % 18446744073709551616) % 4294967296)) ((c+x*(dig (val b*2 ^ s)).getD i 0)/4294967296) (((18446744073709551616+(18446744073709551616+wl.getD (i+j) 0-(c+x*(dig (val b*2 ^ s)).getD i 0) % 4294967296) % 18446744073709551616-br) % 18446744073709551616)/9223372036854775808) (by
   obtain⟨g1,g2,g3⟩:=ms_inv J dB fW pG (c1:=(c+x*(dig (val b*2 ^ s)).getD i 0)) rfl rfl;exact⟨J,by simp [cS],g2,J,g1,g3,fun p hp=>by rw [Go.Lg.getD_set_ne _ _ _ _ J];exact qJ p hp⟩) (he:=Weak.of_eq (put_id' (put_id' (put_id' (put_id' (put_id' (put_id' (put_id' (put_id' (put_id' (put_id' (put_id' (put_id' (mk_id' cl4) cl4) cl4) cl4) cl4) cl4) cl4) cl4) cl4) cl4) cl4) cl4) cl4))
 obtain rfl:i=n+2:=J;rw [aH J,val_dig] at pG;refine zg4 ?_;exact goal_of (hQ (wl) (c) (br) _ ⟨cS,dB,hc,fW,pG,qJ⟩) ki
open H_c_NDiv in
theorem div_back (b ul ql:List Nat) (n s m q0 j:Nat) (dL:(dig (val b*2 ^ s)).length=n+2) (dR:n+2<=m) (kH:m<=1099511627776) (jT:q0=m+1-(n+2)) (hk:j+1<=q0) (eM:ul.length=m+1) (ey:ql.length=q0) (bO:Lim ul) (gh:Lim ql) (kQ:2147483648<=(dig (val b*2 ^ s)).getD (n+1) 0) (ef:0<(val b*2 ^ s)) (lQ:(val b*2 ^ s)<4294967296 ^ (n+2)) (aG:val ul<(val b*2 ^ s)*4294967296 ^ (j+1)) (x:Nat) (mh:val ul/4294967296 ^ j/(val b*2 ^ s)<=x) (lR:x<=val ul/4294967296 ^ j/(val b*2 ^ s)+1) (tx:x<4294967296) (wl:List Nat) (c br:Nat) (cS:wl.length=m+1) (dB:Lim wl) (hc:c<4294967296) (fW:br<=1) (pG:val wl+4294967296 ^ j*(x*(val b*2 ^ s))=val ul+4294967296 ^ (n+2+j)*(c+br)) (qJ:∀ p,n+2+j<=p->wl.getD p 0=ul.getD p 0) {Q:LEx->St->Prop} (L1:St)
  (hQ:∀ (w4:List Nat) (x4:Nat) (L2:St),(x4=val ul/4294967296 ^ j/(val b*2 ^ s)/\w4.length=m+1/\Lim w4/\val w4+4294967296 ^ j*(x4*(val b*2 ^ s))=val ul)->Q .normal (mS L2 [(1001057,⟨1,w4.map u32L,true⟩),(1001105,⟨1,(padL ((dig (val b)).length+1) (val b*2 ^ s)).map u32L,false⟩),(77,⟨1,ql.map u32L,true⟩)] [(15,nU64 x4),(13,iL (((j+1:Nat):Int)-1)),(12,nI64 (n+2)),(11,magL (val b*2 ^ s)),(10,.ref 1001057 1 0 (m+1)),(9,nI64 s),(4,.ref 77 1 0 q0)])) :
  wpL aa ((subF wx [1,1,1,1,1,1,1,0,1,0,0,1,0,0,1,1,1,1,1,1,1,0,1]).getD .skip) Q (mS L1 [(1001057,⟨1,(wl.set (n+2+j) (((18446744073709551616+(18446744073709551616+wl.getD (n+2+j) 0-c) % 18446744073709551616-br) % 18446744073709551616) % 4294967296)).map u32L,true⟩),(1001105,⟨1,(padL ((dig (val b)).length+1) (val b*2 ^ s)).map u32L,false⟩),(77,⟨1,ql.map u32L,true⟩)] [(211,.v (.bool (((((18446744073709551616+(18446744073709551616+wl.getD (n+2+j) 0-c) % 18446744073709551616-br) % 18446744073709551616)/9223372036854775808:Nat):Int) != 0))),(22,nU64 ((18446744073709551616+(18446744073709551616+wl.getD (n+2+j) 0-c) % 18446744073709551616-br) % 18446744073709551616)),(15,nU64 x),(13,iL (((j+1:Nat):Int)-1)),(12,nI64 (n+2)),(11,magL (val b*2 ^ s)),(10,.ref 1001057 1 0 (m+1)),(9,nI64 s),(4,.ref 77 1 0 q0)]):=by
 have ej:True:=trivial;have ek:True:=trivial;have es:True:=trivial;have eV:True:=trivial;have gO:True:=trivial;have gj:True:=trivial;have iV:True:=trivial;have jJ:True:=trivial;have ka:True:=trivial;have gE:True:=trivial;have iA:True:=trivial;have eu:True:=trivial;have kT:True:=trivial;have kP:True:=trivial;have gZ:True:=trivial;have jf:True:=trivial;have jF:True:=trivial;have jK:True:=trivial;have gw:True:=trivial;have gO:((j:Int)+((n+2:Nat):Int)).toNat=n+2+j:=J;have gj:((j:Int)+((n+2:Nat):Int)-1).toNat=n+1+j:=J;have iV:((j:Int)+((n+2:Nat):Int)-2).toNat=n+j:=J;have gE:(((n+2:Nat):Int)-1).toNat=n+1:=J;have iA:(((n+2:Nat):Int)-2).toNat=n:=J;have ek:(((j+1:Nat):Int)-1)=(j:Int):=J;have wC:=getD_dig_lt ((val b*2 ^ s)) (n+1);have pq:=getD_dig_lt ((val b*2 ^ s)) n;have q8:=getD_lim bO (n+2+j);have jx:=getD_lim bO (n+1+j);have og:=getD_lim bO (n+j);have hz:=kn_zero (n:=n+2) (j:=j) lQ aG;obtain⟨xi,o7,uh⟩:=ms_last (n:=n+2) J dB fW hc pG rfl rfl;have iM:=getD_lim dB (n+2+j);refine wl_sub rfl ?_;refine wl_if rfl ?_ ?_<;>intro ahD ahf
 ·have dV:((18446744073709551616+(18446744073709551616+wl.getD (n+2+j) 0-c) % 18446744073709551616-br) % 18446744073709551616)/9223372036854775808=1:=J;have hgt:=kn_gt (V:=(val b*2 ^ s)) (n:=n+2) (j:=j) (x:=x) (ul:=(wl.set (n+2+j) (((18446744073709551616+(18446744073709551616+wl.getD (n+2+j) 0-c) % 18446744073709551616-br) % 18446744073709551616) % 4294967296))) (ul0:=ul) (by rw [uh,dV,dA]) (val_lt_of_zeros xi (fun p hp=>by rw [Go.Lg.getD_set_ne _ _ _ _ J,qJ p J];exact hz p hp)) ef;have lq:1<=x:=jW (az _) hgt;refine zg3 ?_;refine st_pure rfl (.bin rfl rfl (subU (show 1<=x by omega) J)) ?_;refine zg17 ?_
  refine lp3 (fun(ii:Nat) (w3:List Nat) (c3:Nat) L=>(mS L [(1001057,⟨1,w3.map u32L,true⟩),(1001105,⟨1,(padL ((dig (val b)).length+1) (val b*2 ^ s)).map u32L,false⟩),(77,⟨1,ql.map u32L,true⟩)] [(216,nI64 ii),(215,nI64 (n+2)),(214,magL (val b*2 ^ s)),(18,nU64 c3),(15,nU64 (x-1)),(13,iL (((j+1:Nat):Int)-1)),(12,nI64 (n+2)),(11,magL (val b*2 ^ s)),(10,.ref 1001057 1 0 (m+1)),(9,nI64 s),(4,.ref 77 1 0 q0)])) (fun ii w3 c3=>ii<=n+2/\w3.length=m+1/\Lim w3/\c3<=1/\val w3+4294967296 ^ (ii+j)*c3=val (wl.set (n+2+j) (((18446744073709551616+(18446744073709551616+wl.getD (n+2+j) 0-c) % 18446744073709551616-br) % 18446744073709551616) % 4294967296))+4294967296 ^ j*val ((dig (val b*2 ^ s)).take ii)/\∀ p,n+2+j+1<=p->w3.getD p 0=0) (fun ii w3 c3=>n+2-ii) 0 (wl.set (n+2+j) (((18446744073709551616+(18446744073709551616+wl.getD (n+2+j) 0-c) % 18446744073709551616-br) % 18446744073709551616) % 4294967296)) 0 ⟨az _,by simp [cS],xi,J,by simp [val],fun p hp=>by rw [Go.Lg.getD_set_ne _ _ _ _ J,qJ p J];exact hz p hp⟩ (h0:=⟨_,Weak.of_eq (put_id' (put_id' (put_id' (put_id' (put_id' (put_id' (put_id' (put_id' (put_id' (put_id' (put_id' (mk_id' cl4) cl4) cl4) cl4) cl4) cl4) cl4) cl4) cl4) cl4) cl4) cl4)⟩) ?_;rintro ii w3 c3 L4 ⟨yS,hw3,ky,hc3,yG,hz7⟩;have kT:((ii:Int)+(j:Int)).toNat=ii+j:=J;have aiy:=getD_dig_lt (val b*2 ^ s) ii;have ahW:=getD_lim ky (ii+j);refine zg6 ?_
  refine wl_if rfl ?_ ?_<;>intro ahP ahC
  ·refine zg54 ?_;exact nx3 (ii+1) (w3.set (ii+j) ((c3+(w3.getD (ii+j) 0+(dig (val b*2 ^ s)).getD ii 0)) % 4294967296)) ((c3+(w3.getD (ii+j) 0+(dig (val b*2 ^ s)).getD ii 0))/4294967296) (by
    obtain⟨g1,g2⟩:=ab_inv J ky yG (s:=(c3+(w3.getD (ii+j) 0+(dig (val b*2 ^ s)).getD ii 0))) rfl;exact⟨J,by simp [hw3],g1,J,g2,fun p hp=>by rw [Go.Lg.getD_set_ne _ _ _ _ J];exact hz7 p hp⟩) (he:=Weak.of_eq (put_id' (put_id' (put_id' (put_id' (put_id' (put_id' (put_id' (put_id' (put_id' (put_id' (put_id' (mk_id' cl4) cl4) cl4) cl4) cl4) cl4) cl4) cl4) cl4) cl4) cl4) cl4))
  obtain rfl:ii=n+2:=J;rw [aH J,val_dig] at yG;have ahJ:=getD_lim ky (n+2+j);have yr:x-1=val ul/4294967296 ^ j/(val b*2 ^ s):=J;have afl:4294967296 ^ j*((x-1)*(val b*2 ^ s))<=val ul:=by rw [yr];exact aw (fx _ (abY _ _)) (Nat.mul_div_le _ _)
  have dP:=kn_back (ul:=(wl.set (n+2+j) (((18446744073709551616+(18446744073709551616+wl.getD (n+2+j) 0-c) % 18446744073709551616-br) % 18446744073709551616) % 4294967296))) (ul0:=ul) (n:=n+2) (j:=j) (x:=x) (V:=(val b*2 ^ s)) (ul3:=w3) (c:=c3) J afl (by rw [uh,dV,dA]) J ky hz7 hc3 yG rfl;refine zg14 ?_;refine st_pure rfl (.bin rfl rfl (addU32)) ?_;refine zg3 ?_;exact goal_of (hQ (w3.set (n+2+j) ((w3.getD (n+2+j) 0+c3) % 4294967296)) (x-1) _ ⟨yr,by simp [hw3],dP.1,dP.2⟩) ki
 have dt:((18446744073709551616+(18446744073709551616+wl.getD (n+2+j) 0-c) % 18446744073709551616-br) % 18446744073709551616)/9223372036854775808=0:=J;rw [dt,oR,iH] at uh;have hxF:x=val ul/4294967296 ^ j/(val b*2 ^ s):=by have:=kn_le uh ef;omega
 refine zg1 ?_;exact goal_of (hQ ((wl.set (n+2+j) (((18446744073709551616+(18446744073709551616+wl.getD (n+2+j) 0-c) % 18446744073709551616-br) % 18446744073709551616) % 4294967296))) (x) _ ⟨hxF,by simp [cS],xi,uh⟩) ki
open H_c_NDiv in
theorem div_digit (b ul ql:List Nat) (n s m q0 j:Nat) (dL:(dig (val b*2 ^ s)).length=n+2) (dR:n+2<=m) (kH:m<=1099511627776) (jT:q0=m+1-(n+2)) (hk:j+1<=q0) (eM:ul.length=m+1) (ey:ql.length=q0) (bO:Lim ul) (gh:Lim ql) (kQ:2147483648<=(dig (val b*2 ^ s)).getD (n+1) 0) (ef:0<(val b*2 ^ s)) (lQ:(val b*2 ^ s)<4294967296 ^ (n+2)) (aG:val ul<(val b*2 ^ s)*4294967296 ^ (j+1)) {Q:LEx->St->Prop} (L1:St)
  (hQ:∀ (w4:List Nat) (x4:Nat) (L2:St),(x4=val ul/4294967296 ^ j/(val b*2 ^ s)/\w4.length=m+1/\Lim w4/\val w4+4294967296 ^ j*(x4*(val b*2 ^ s))=val ul)->Q .normal (mS L2 [(1001057,⟨1,w4.map u32L,true⟩),(1001105,⟨1,(padL ((dig (val b)).length+1) (val b*2 ^ s)).map u32L,false⟩),(77,⟨1,(ql.set j (x4 % 4294967296)).map u32L,true⟩)] [(13,iL (((j+1:Nat):Int)-1)),(12,nI64 (n+2)),(11,magL (val b*2 ^ s)),(10,.ref 1001057 1 0 (m+1)),(9,nI64 s),(4,.ref 77 1 0 q0)])) :
  wpL aa ((subF wx [1,1,1,1,1,1,1,0,1,0,0,1,0]).getD .skip) Q (mS L1 [(1001057,⟨1,ul.map u32L,true⟩),(1001105,⟨1,(padL ((dig (val b)).length+1) (val b*2 ^ s)).map u32L,false⟩),(77,⟨1,ql.map u32L,true⟩)] [(13,iL (((j+1:Nat):Int)-1)),(12,nI64 (n+2)),(11,magL (val b*2 ^ s)),(10,.ref 1001057 1 0 (m+1)),(9,nI64 s),(4,.ref 77 1 0 q0)]):=by
 have ej:True:=trivial;have ek:True:=trivial;have es:True:=trivial;have eV:True:=trivial;have gO:True:=trivial;have gj:True:=trivial;have iV:True:=trivial;have jJ:True:=trivial;have ka:True:=trivial;have gE:True:=trivial;have iA:True:=trivial;have eu:True:=trivial;have kT:True:=trivial;have kP:True:=trivial;have gZ:True:=trivial;have jf:True:=trivial;have jF:True:=trivial;have jK:True:=trivial;have gw:True:=trivial;have gO:((j:Int)+((n+2:Nat):Int)).toNat=n+2+j:=J;have gj:((j:Int)+((n+2:Nat):Int)-1).toNat=n+1+j:=J;have iV:((j:Int)+((n+2:Nat):Int)-2).toNat=n+j:=J;have gE:(((n+2:Nat):Int)-1).toNat=n+1:=J;have iA:(((n+2:Nat):Int)-2).toNat=n:=J;have ek:(((j+1:Nat):Int)-1)=(j:Int):=J;have wC:=getD_dig_lt ((val b*2 ^ s)) (n+1);have pq:=getD_dig_lt ((val b*2 ^ s)) n;have q8:=getD_lim bO (n+2+j);have jx:=getD_lim bO (n+1+j);have og:=getD_lim bO (n+j);have hz:=kn_zero (n:=n+2) (j:=j) lQ aG;refine wl_sub rfl ?_;refine zg2 ?_;refine wl_regD 18 ah ?_;refine zg21 ?_;refine wl_regD 18 ah ?_;refine zg7 ?_;refine st_pure rfl (.bin rfl rfl (quoU (by simp only [gE,dflt];omega) J)) ?_;refine zg7 ?_;refine st_pure rfl (.bin rfl rfl (remU (by simp only [gE,dflt];omega))) ?_;refine zg5 ?_
 refine wl_eqS (S:=fun L=>(mS L [(1001057,⟨1,ul.map u32L,true⟩),(1001105,⟨1,(padL ((dig (val b)).length+1) (val b*2 ^ s)).map u32L,false⟩),(77,⟨1,ql.map u32L,true⟩)] [(16,nU64 ((ul.getD (n+2+j) 0*4294967296+ul.getD (n+1+j) 0) % (dig (val b*2 ^ s)).getD (n+1) 0)),(15,nU64 ((ul.getD (n+2+j) 0*4294967296+ul.getD (n+1+j) 0)/(dig (val b*2 ^ s)).getD (n+1) 0)),(13,iL (((j+1:Nat):Int)-1)),(12,nI64 (n+2)),(11,magL (val b*2 ^ s)),(10,.ref 1001057 1 0 (m+1)),(9,nI64 s),(4,.ref 77 1 0 q0)])) ki ?_;refine div_corr b ul ql n s m q0 j dL dR kH jT hk eM ey bO gh kQ ef lQ aG _ ?_;rintro x LQ ⟨mh,lR,tx⟩;refine zg15 ?_;refine wl_eqS (S:=fun L=>(mS L [(1001057,⟨1,ul.map u32L,true⟩),(1001105,⟨1,(padL ((dig (val b)).length+1) (val b*2 ^ s)).map u32L,false⟩),(77,⟨1,ql.map u32L,true⟩)] [(156,nI64 0),(155,nI64 (n+2)),(154,magL (val b*2 ^ s)),(18,nU64 0),(17,nU64 0),(15,nU64 x),(13,iL (((j+1:Nat):Int)-1)),(12,nI64 (n+2)),(11,magL (val b*2 ^ s)),(10,.ref 1001057 1 0 (m+1)),(9,nI64 s),(4,.ref 77 1 0 q0)])) ki ?_;refine div_mulsub b ul ql n s m q0 j dL dR kH jT hk eM ey bO gh kQ ef lQ aG x mh tx _ ?_;rintro wl c br LQ ⟨cS,dB,hc,fW,pG,qJ⟩;obtain⟨xi,o7,uh⟩:=ms_last (n:=n+2) J dB fW hc pG rfl rfl;have iM:=getD_lim dB (n+2+j);refine zg11 ?_;refine st_pure rfl (.bin rfl rfl (subW J)) ?_;refine zg1 ?_;refine st_pure rfl (.bin rfl rfl (subW J)) ?_
 refine zg23 ?_;refine wl_eqS (S:=fun L=>(mS L [(1001057,⟨1,(wl.set (n+2+j) (((18446744073709551616+(18446744073709551616+wl.getD (n+2+j) 0-c) % 18446744073709551616-br) % 18446744073709551616) % 4294967296)).map u32L,true⟩),(1001105,⟨1,(padL ((dig (val b)).length+1) (val b*2 ^ s)).map u32L,false⟩),(77,⟨1,ql.map u32L,true⟩)] [(211,.v (.bool (((((18446744073709551616+(18446744073709551616+wl.getD (n+2+j) 0-c) % 18446744073709551616-br) % 18446744073709551616)/9223372036854775808:Nat):Int) != 0))),(22,nU64 ((18446744073709551616+(18446744073709551616+wl.getD (n+2+j) 0-c) % 18446744073709551616-br) % 18446744073709551616)),(15,nU64 x),(13,iL (((j+1:Nat):Int)-1)),(12,nI64 (n+2)),(11,magL (val b*2 ^ s)),(10,.ref 1001057 1 0 (m+1)),(9,nI64 s),(4,.ref 77 1 0 q0)])) ki ?_;refine div_back b ul ql n s m q0 j dL dR kH jT hk eM ey bO gh kQ ef lQ aG x mh lR tx wl c br cS dB hc fW pG qJ _ ?_;rintro w4 x4 LQ ⟨sX,hw4,zW,hv8⟩;have qY:val ul/4294967296 ^ j<(val b*2 ^ s)*4294967296:=by
  obtain⟨_,_,_,_,_,_,h⟩:=kn_ctx (j:=j) dL J bO aG;exact h
 have wY:val ul/4294967296 ^ j/(val b*2 ^ s)<4294967296:=by rw [fP ef,bz];exact qY
 have yP:x4<4294967296:=by rw [sX];exact wY
 have adj:x4 % 4294967296=x4:=cV yP;refine zg10 ?_;exact goal_of (hQ (w4) (x4) _ ⟨sX,hw4,zW,hv8⟩) ki
open H_c_NDiv in
theorem div_shift (b ul ql:List Nat) (s m q0 T:Nat) (kC:s<32) (kH:m<=1099511627776) (eM:ul.length=m+1) (bO:Lim ul) (hTm:T<=m+1) (ux:∀ p,T<=p->ul.getD p 0=0) (mw:ul.getD 0 0 % 2 ^ s=0) {Q:LEx->St->Prop} (L1:St)
  (hQ:∀ (w:List Nat) (L2:St),(w.length=m+1/\Lim w/\2 ^ s*val (w.take T)=val (ul.take T)+4294967296 ^ T*(ul.getD T 0 % 2 ^ s))->Q .normal (mS L2 [(1001057,⟨1,w.map u32L,true⟩),(1001105,⟨1,(padL ((dig (val b)).length+1) (val b*2 ^ s)).map u32L,false⟩),(77,⟨1,ql.map u32L,true⟩)] [(5,.ref 1001057 1 0 T),(4,.ref 77 1 0 q0)])) :
  wpL aa ((subF wx [1,1,1,1,1,1,1,1,1,0,1]).getD .skip) Q (mS L1 [(1001057,⟨1,ul.map u32L,true⟩),(1001105,⟨1,(padL ((dig (val b)).length+1) (val b*2 ^ s)).map u32L,false⟩),(77,⟨1,ql.map u32L,true⟩)] [(262,nI64 0),(261,nI64 T),(260,.ref 1001057 1 0 T),(9,nI64 s),(5,.ref 1001057 1 0 T),(4,.ref 77 1 0 q0)]):=by
 have ej:True:=trivial;have ek:True:=trivial;have es:True:=trivial;have eV:True:=trivial;have gO:True:=trivial;have gj:True:=trivial;have iV:True:=trivial;have jJ:True:=trivial;have ka:True:=trivial;have gE:True:=trivial;have iA:True:=trivial;have eu:True:=trivial;have kT:True:=trivial;have kP:True:=trivial;have gZ:True:=trivial;have jf:True:=trivial;have jF:True:=trivial;have jK:True:=trivial;have gw:True:=trivial;have dL:True:=trivial;refine wl_sub rfl ?_;refine zg1 ?_;refine lp2 (fun(i:Nat) (w:List Nat) L=>(mS L [(1001057,⟨1,w.map u32L,true⟩),(1001105,⟨1,(padL ((dig (val b)).length+1) (val b*2 ^ s)).map u32L,false⟩),(77,⟨1,ql.map u32L,true⟩)] [(262,nI64 i),(261,nI64 T),(260,.ref 1001057 1 0 T),(9,nI64 s),(5,.ref 1001057 1 0 T),(4,.ref 77 1 0 q0)])) (fun i w=>i<=T/\w.length=m+1/\Lim w/\(∀ p,i<=p->w.getD p 0=ul.getD p 0)/\2 ^ s*val (w.take i)=val (ul.take i)+4294967296 ^ i*(ul.getD i 0 % 2 ^ s)) (fun i w=>T-i) 0 ul ⟨az _,eM,bO,fun _ _=>rfl,by rw [mw];simp [val]⟩ ?_;rintro i w L5 ⟨hi,cS,dB,v9,qk⟩;have gw:((i:Int)+1).toNat=i+1:=J;have hwi:=getD_lim dB i;have ait:=getD_lim bO (i+1);have gZ:=v9 i (an _);have jf:=v9 (i+1) J;have hui:=getD_lim bO i;obtain⟨hh1,hh2⟩:=half_lt (z:=ul.getD (i+1) 0) (show s<=32 by omega) hui;have hh3:ul.getD i 0/2 ^ s<4294967296:=J;refine zg6 ?_;refine wl_if rfl ?_ ?_<;>intro ahK ahM
 ·have jF:(w.set i (ul.getD i 0/2 ^ s)).getD i 0=ul.getD i 0/2 ^ s:=getD_set_self _ _ _ J;have jK:(w.set i (ul.getD i 0/2 ^ s)).getD (i+1) 0=ul.getD (i+1) 0:=by rw [Go.Lg.getD_set_ne _ _ _ _ J];exact jf
  refine zg17 ?_;refine st_pure rfl (.sh rfl rfl (shrC (m:=s) (by show s<=32;omega))) ?_;refine zg9 ?_;refine op_if 274 rfl ?_ ?_<;>intro ahG ah1
  ·refine zg8 ?_;refine wl_if rfl ?_ ?_<;>intro ahT aiJ
   ·refine wl_regD 14 ah ?_;refine zg11 ?_;refine st_pure rfl (.sh rfl rfl (shlC32 (s:=s) J)) ?_;refine st_pure rfl (.bin rfl rfl (orV32 (by simp only [sNF,ar,au,aq,dflt,gZ,jf,jF,jK,gw];exact hh1) (by simp only [sNF,ar,au,aq,dflt,gZ,jf,jF,jK,gw];exact hh2))) ?_;refine zg10 ?_;exact nx2 (i+1) (w.set i (ul.getD (i+1) 0 % 2 ^ s*2 ^ (32-s)+ul.getD i 0/2 ^ s)) ⟨J,by simp [cS],lim_set dB _ _ hh2,fun p hp=>by rw [Go.Lg.getD_set_ne _ _ _ _ J];exact v9 p J,sh_inv J kC gZ qk (dM _ _)⟩
   refine zg8 ?_;exact nx2 (i+1) (w.set i (ul.getD i 0/2 ^ s)) ⟨J,by simp [cS],lim_set dB _ _ hh3,fun p hp=>by rw [Go.Lg.getD_set_ne _ _ _ _ J];exact v9 p J,sh_inv J kC gZ qk (by rw [ux (i+1) J];simp)⟩
  refine zg17 ?_;exact nx2 (i+1) (w.set i (ul.getD i 0/2 ^ s)) ⟨J,by simp [cS],lim_set dB _ _ hh3,fun p hp=>by rw [Go.Lg.getD_set_ne _ _ _ _ J];exact v9 p J,sh_inv J kC gZ qk (by rw [show s=0 by omega];simp [Nat.mod_one])⟩
 obtain rfl:i=T:=J;refine zg4 ?_;exact goal_of (hQ (w) _ ⟨cS,dB,qk⟩) ki
open H_c_NDiv in
theorem c_NDiv (a b:List Nat) (ha:Lim a) (hb:Lim b) (cr:a.length<=1099511627776) (ff:b.length<=1099511627776) (bC:0<val b):CallP aa 216 [limL a,limL b] (.tup [magL (val a/val b),magL (val a % val b),iL 0]):=by
 have qW:=c_trimC a ha cr;have wS:=c_trimC b hb ff;have aix:(dig (val b)).length≠0:=fun h=>by have:=dig_eq_nil.1 (jB h);omega
 refine fnP Tryz.func216 ?_;have ej:True:=trivial;have ek:True:=trivial;have es:True:=trivial;have eV:True:=trivial;have gO:True:=trivial;have gj:True:=trivial;have iV:True:=trivial;have jJ:True:=trivial;have ka:True:=trivial;have gE:True:=trivial;have iA:True:=trivial;have eu:True:=trivial;have kT:True:=trivial;have kP:True:=trivial;have gZ:True:=trivial;have jf:True:=trivial;have jF:True:=trivial;have jK:True:=trivial;have gw:True:=trivial;have dL:True:=trivial;refine zg10 ?_;refine cp am1 (c_trimD _ cM ko) ?_;refine zg1 ?_;refine cp am1 (c_trimD _ cM ko) ?_;refine zg14 ?_;refine wl_if rfl ?_ ?_<;>intro aaP rp
 ·exfalso;omega
 refine zg4 ?_;refine cp am2 (c_NCmp _ _ cM cM J J) ?_;refine zg4 ?_;refine wl_if rfl ?_ ?_<;>intro vy oO
 ·have aG:val a<val b:=by
   apply im;intro hh;rcases acH (Nat.le_of_not_lt hh) with h | h
   ·rw [cmpN_gt h] at oO;omega
   rw [cmpN_eq h.symm] at oO;omega
  refine zg3 ?_;refine cp am1 (c_Clone _ J) ?_;refine zg8 ?_;rw [qm aG,cV aG];exact ret3f [] rfl rfl (.nil 1) rfl (.pure (limL_pure _)) rfl (.pure rfl)
 have fe:val b<=val a:=by
  apply im;intro hh;rw [cmpN_lt J] at oO;omega
 refine zg8 ?_;refine wl_if rfl ?_ ?_<;>intro tD h41
 ·have aaM:val b<4294967296:=dig_len_le1.1 J;have dV:dig (val b)=[val b]:=dig_small bC aaM;have fO:(dig (val b)).getD 0 0=val b:=by rw [dV];rfl
  have ka:=fO;have tL:=dO (val a) bC;refine zg6 ?_;refine cp am2 (c_Nsmall _ _ (lim_dig _) J (by show 0<(dig (val b)).getD 0 0;rw [fO];exact bC) (getD_dig_lt _ _)) ?_;refine zg5 ?_;refine st_end nf1 ?_;refine zg6 ?_;refine cpf [55] fm1 (c_trimD [val a % val b] (lim_one J) aj) ?_;refine zg3 ?_;refine st_end nf2 ?_;refine zg4 ?_;exact uN
 obtain⟨n,hn⟩:∃ n,(dig (val b)).length=n+2:=⟨(dig (val b)).length-2,J⟩;obtain⟨m,hm⟩:∃ m,(dig (val a)).length=m:=⟨_,rfl⟩;have jJ:=hm;have kH:m<=1099511627776:=J;have dR:n+1+1<=m:=by rw [<-hm];have:=len_dig_mono fe;omega
 have ej:(((dig (val b)).length:Int)-1).toNat=n+1:=J;obtain⟨s,hs⟩:∃ s,s=32-blen ((dig (val b)).getD (n+1) 0):=⟨_,rfl⟩;have afR:blen ((dig (val b)).getD (n+1) 0)<=32:=blen_le.2 (getD_dig_lt _ _);have es:(32:Int)-((blen ((dig (val b)).getD (n+1) 0):Nat):Int)=((s:Nat):Int):=by rw [s_eq afR,hs]
 obtain⟨kC,dL,xI,lQ⟩:=kn_norm (n:=n+1) hn hs;have ef:0<val b*2 ^ s:=eN bC (dU J);have eV:val (padL ((dig (val b)).length+1) (val b*2 ^ s))=val b*2 ^ s:=padL_val (by rw [hn];exact rI lQ (gg J J));have kQ:=kn_vt dL xI;have wC:=getD_dig_lt (val b*2 ^ s) (n+1);have pq:=getD_dig_lt (val b*2 ^ s) n;obtain⟨afF,aeA⟩:=kn_start (n:=n+1) kC hm dR xI;obtain⟨q0,jT⟩:∃ q0,q0=m+1-(n+2):=⟨_,rfl⟩;have kP:((m:Int)+1-((n+2:Nat):Int))=((q0:Nat):Int):=J;have gE:(((n+2:Nat):Int)-1).toNat=n+1:=J;have iA:(((n+2:Nat):Int)-2).toNat=n:=J;have rM:val (padL (m+1) (val a*2 ^ s))=val a*2 ^ s:=padL_val aeA;refine zg11 ?_;refine cp am1 (c_LZ32 _ (getD_dig_lt _ _)) ?_;refine zg7 ?_;refine st_call1 [] rfl rfl (.cons (.pure (magL_pure _)) (.cons (.pure rfl) .nil)) (c_raiseN (val a) s J kC) (pures_map u32E _) rfl ?_;refine zg2 ?_;refine st_call1 [] rfl rfl (.cons (.pure (magL_pure _)) (.cons (.pure rfl) .nil)) (c_raiseN (val b) s J kC) (pures_map u32E _) rfl ?_;refine st_callPf [1001105] rfl rfl (.cons (imm_refm u32E rfl rfl (padL_len _ _).symm) .nil) (c_trimD (padL ((dig (val b)).length+1) (val b*2 ^ s)) (padL_lim _ _) (by rw [padL_len];omega)) ?_;refine zg2 ?_;refine st_end nf3 ?_;refine zg6 ?_;refine st_end nf4 ?_;refine zg7 ?_;refine st_alloc rfl rfl (.mkE (n:=q0) (m:=q0) ml ml om om om) ?_
 refine zg13 ?_;refine lp3 (fun(k:Nat) (ul ql:List Nat) L=>(mS L [(1001057,⟨1,ul.map u32L,true⟩),(1001105,⟨1,(padL ((dig (val b)).length+1) (val b*2 ^ s)).map u32L,false⟩),(77,⟨1,ql.map u32L,true⟩)] [(13,iL ((k:Int)-1)),(12,nI64 (n+2)),(11,magL (val b*2 ^ s)),(10,.ref 1001057 1 0 (m+1)),(9,nI64 s),(4,.ref 77 1 0 q0)])) (fun k ul ql=>k<=q0/\ul.length=m+1/\ql.length=q0/\Lim ul/\Lim ql/\val ul+(val b*2 ^ s)*4294967296 ^ k*val (ql.drop k)=val a*2 ^ s/\val ul<(val b*2 ^ s)*4294967296 ^ k) (fun k ul ql=>k) q0 (padL (m+1) (val a*2 ^ s)) (ai q0 0) ⟨an _,padL_len _ _,by simp,padL_lim _ _,lim_zeros _,by rw [ep aj,rM];simp [val],by rw [rM,jT];exact afF⟩ (h0:=⟨_,Weak.of_eq (put_id' (put_id' (put_id' (put_id' (put_id' (put_id' (mk_id' cl5) cl5) cl5) cl5) cl5) cl5) cl5)⟩) ?_;rintro k ul ql L1 ⟨hk,eM,ey,bO,gh,hv,aG⟩;refine zg7 ?_;refine wl_if rfl ?_ ?_<;>intro agP h82
 ·obtain⟨j,rfl⟩:∃ j,k=j+1:=⟨k-1,J⟩;have ek:(((j+1:Nat):Int)-1)=(j:Int):=J;refine zg3 ?_;refine wl_eqS (S:=fun L=>(mS L [(1001057,⟨1,ul.map u32L,true⟩),(1001105,⟨1,(padL ((dig (val b)).length+1) (val b*2 ^ s)).map u32L,false⟩),(77,⟨1,ql.map u32L,true⟩)] [(13,iL (((j+1:Nat):Int)-1)),(12,nI64 (n+2)),(11,magL (val b*2 ^ s)),(10,.ref 1001057 1 0 (m+1)),(9,nI64 s),(4,.ref 77 1 0 q0)])) ki ?_;refine div_digit b ul ql n s m q0 j dL dR kH jT hk eM ey bO gh kQ ef lQ aG _ ?_;rintro w4 x4 LQ ⟨sX,hw4,zW,hv8⟩;have qY:val ul/4294967296 ^ j<(val b*2 ^ s)*4294967296:=by
   obtain⟨_,_,_,_,_,_,h⟩:=kn_ctx (j:=j) dL J bO aG;exact h
  have wY:val ul/4294967296 ^ j/(val b*2 ^ s)<4294967296:=by rw [fP ef,bz];exact qY
  have yP:x4<4294967296:=by rw [sX];exact wY
  have adj:x4 % 4294967296=x4:=cV yP;obtain⟨eW,fy⟩:=kn_next (j:=j) ef sX hv8 J hv;refine zg7 ?_;exact nx3 j w4 (ql.set j (x4 % 4294967296)) ⟨J,hw4,by simp [ey],zW,lim_set gh _ _ J,by rw [adj];exact eW,fy⟩ (he:=Weak.of_eq (put_id' (put_id' (put_id' (put_id' (put_id' (put_id' (mk_id' cl5) cl5) cl5) cl5) cl5) cl5) cl5))
 obtain rfl:k=0:=J;rw [dY,nI,dA] at hv;rw [nI,dA] at aG;obtain⟨hq,hr⟩:=kn_end bC hv aG;obtain⟨T,hT⟩:∃ T,T=trimN (m+1) ul:=⟨_,rfl⟩;have hTm:T<=m+1:=by rw [hT];exact trimN_le _ _
 have ux:=trim_zero (l:=ul) (n:=m+1) eM.symm;rw [<-hT] at ux;have mw:=low_bits J hr;refine zg8 ?_;refine st_callM 1001057 rfl rfl rfl (pures_map u32E _) (.cons .ref .nil) (.ref J) (c_trimM' ul (m+1) eM.symm J J) rfl (pures_map u32E _) ?_;refine zg1 ?_;refine st_end nf6 ?_;refine zg9 ?_;refine wl_eqS (S:=fun L=>(mS L [(1001057,⟨1,ul.map u32L,true⟩),(1001105,⟨1,(padL ((dig (val b)).length+1) (val b*2 ^ s)).map u32L,false⟩),(77,⟨1,ql.map u32L,true⟩)] [(262,nI64 0),(261,nI64 T),(260,.ref 1001057 1 0 T),(9,nI64 s),(5,.ref 1001057 1 0 T),(4,.ref 77 1 0 q0)])) ki ?_;refine div_shift b ul ql s m q0 T kC kH eM bO hTm ux mw _ ?_;rintro w LQ ⟨cS,dB,qk⟩;rw [ux T (an _),acz,oR,iH] at qk;have xJ:val (w.take T)=val a % val b:=by
  have e1:=(trimN_spec ul.length ul (an _)).2;rw [eZ,eM,<-hT,hr] at e1;rw [e1,bz] at qk;exact Nat.eq_of_mul_eq_mul_right (dU J) qk
 refine zg4 ?_;refine cpf [77] fm1 (c_trimD ql gh J) ?_;refine zg1 ?_;refine cpf [1001057] fm1 (c_trimD (w.take T) (lim_take dB _) al) ?_;refine zg6 ?_;rw [<-hq,<-xJ];exact uN
namespace H_c_NGcd
theorem zSm {p q:Prop} (k:q) (e:p=q:=by simp only [sNF,ar,au,aq,dflt,val_dig];exact rfl):p:=e.mpr k
end H_c_NGcd
open H_c_NGcd in
theorem c_NGcd (a b:List Nat) (ha:Lim a) (hb:Lim b) (cr:a.length<=1099511627776) (ff:b.length<=1099511627776):CallP aa 134 [limL a,limL b] (magL (bI (val a) (val b))):=by
 have qW:=c_trimC a ha cr;have wS:=c_trimC b hb ff;refine fnP Tryz.func134 ?_;refine zg8 ?_;refine cp am1 (c_trimD _ cM ko) ?_;refine cp am1 (c_Clone _ J) ?_;refine zg1 ?_;refine cp am1 (c_trimD _ cM ko) ?_;refine cp am1 (c_Clone _ J) ?_;refine zg6 ?_;refine lp2 (fun(x y:Nat) L=>(mS L [] [(6,magL y),(5,magL x)])) (fun x y=>bI x y=bI (val a) (val b)/\(dig x).length<=1099511627776/\(dig y).length<=1099511627776) (fun x y=>y) (val a) (val b) ⟨rfl,qW,wS⟩ ?_;rintro x y L1 ⟨hg,hx,hy⟩;refine zg8 ?_;refine wl_if rfl ?_ ?_<;>intro lC kt
 ·have iG:0<y:=ll (fun h=>by rw [h,dig_zero] at kt;simp at kt);refine zg7 ?_;refine cp am2 (c_NDiv _ _ (lim_dig _) (lim_dig _) J J (by rw [val_dig];exact iG)) ?_;refine zg17 ?_;exact nx2 y (x % y) ⟨by rw [iJ,<-ug,iJ];exact hg,hy,aw (len_dig_mono (lE (dO x iG))) hy⟩ (hm:=dO _ iG)
 refine zg13 ?_;refine wl_if rfl ?_ ?_<;>intro nx nT
 ·have iG:y=0:=dig_eq_nil.1 (jB J);refine zg8 ?_;subst iG;rw [<-hg,uY];exact bf
 have iG:0<y:=ll (fun h=>by rw [h,dig_zero] at nT;simp at nT);refine zg10 ?_;refine wl_cut (fun L=>∃ (x2:Nat) (y2:Nat) (L1:St),(bI x2 y2=bI (val a) (val b)/\(dig x2).length<=2/\(dig y2).length<=2)/\L=(mS L1 [] [(6,magL y2),(5,magL x2)])) ?_ ?_
 ·refine wl_if rfl ?_ ?_<;>intro ahz h39
  ·refine zg4 ?_;refine cp am2 (c_NDiv _ _ (lim_dig _) (lim_dig _) J J (by rw [val_dig];exact iG)) ?_;refine zg16 ?_;exact⟨y,x % y,_,⟨by rw [iJ,<-ug,iJ];exact hg,J,aw (len_dig_mono (lE (dO x iG))) J⟩,aL⟩
  refine zg2 ?_;exact⟨x,y,_,⟨hg,J,J⟩,aL⟩
 rintro _ ⟨x2,y2,ahc,⟨lh,lR,xD⟩,rfl⟩;refine zg4 ?_;refine cp am1 (c_word _ (lim_dig _) J) ?_;refine zg1 ?_;refine cp am1 (c_word _ (lim_dig _) J) ?_;refine zg6 ?_;refine lp2 (fun(m n:Nat) L=>(mS L [] [(14,nU64 n),(13,nU64 m)])) (fun m n=>bI m n=bI (val a) (val b)/\m<18446744073709551616/\n<18446744073709551616) (fun m n=>n) x2 y2 ⟨lh,dig_len_le2.1 lR,dig_len_le2.1 xD⟩ ?_;rintro m n L2 ⟨l7,hm,hn⟩;refine zg7 ?_;refine wl_if rfl ?_ ?_<;>intro agS h54
 ·refine zg3 ?_;refine wl_regD 6 ah ?_;refine zg9 ?_;exact nx2 n (m % n) ⟨by rw [iJ,<-ug,iJ];exact l7,hn,by have:=dO m (show n > 0 by omega);omega⟩ (hm:=dO _ J)
 obtain rfl:n=0:=J;refine zg8 ?_;refine cp am1 (c_NOf _ J) ?_;refine zg4 ?_;rw [<-l7,uY];exact bf
open H0 in
theorem c_one :CallP aa 245 [] (magL 1):=by
 refine fnP Tryz.func245 ?_;refine zg12 ?_;rw [show magL 1=.list 1 ([1].map u32L) from rfl];exact ret1f [1] rfl rfl (imm_refm u32E rfl rfl rfl)
namespace H_c_den
theorem zSm {p q:Prop} (k:q) (e:p=q:=by simp only [sNF,ar,au,aq,kills_map ratE,ratL_kill];exact rfl):p:=e.mpr k
end H_c_den
open H_c_den in
theorem c_den (q:Rat):CallP aa 189 [ratL q] (magL q.den):=by
 refine fnP Tryz.func189 ?_;refine zg15 ?_;refine wl_if rfl ?_ ?_<;>intro nW h6
 ·have dV:=denN_zero (show (dig (denN q)).length=0 by omega);refine zg2 ?_;refine cp am0 (c_one) ?_;refine zg5 ?_;rw [dV];exact bf
 have dV:=denN_pos (q:=q) J;refine zg10 ?_;rw [<-dV];exact bf
open H_c_NValid in
theorem c_Rword (a:List Nat) (h:Lim a) (hl:a.length<=2):CallP aa 244 [limL a] (nU64 (val a)):=by
 unfold limL;refine fnP Tryz.func244 ?_;have ej:True:=trivial;refine zg20 ?_;refine lp2 (fun(k n:Nat) L=>(mS L [] [(4,iL ((k:Int)-1)),(3,nU64 n),(0,.list 1 (a.map u32L))])) (fun k n=>k<=a.length/\n=val (a.drop k)) (fun k n=>k) a.length 0 ⟨an _,by simp [val]⟩ ?_;rintro k n L1 ⟨hk,hn⟩;refine zg7 ?_;refine wl_if rfl ?_ ?_<;>intro pz h9
 ·obtain⟨j,rfl⟩:∃ j,k=j+1:=⟨k-1,J⟩;have ej:(((j+1:Nat):Int)-1).toNat=j:=J;have ek:(((j+1:Nat):Int)-1)=j:=J;have hj:=getD_lim h j;have ti:=val_drop_lt h (k:=j+1) (j:=1) J;rw [<-hn] at ti;refine zg23 ?_;exact nx2 j (n*4294967296+a.getD j 0) ⟨J,by rw [val_drop J,hn];omega⟩
 obtain rfl:k=0:=J;rw [dY] at hn;refine zg12 ?_;rw [<-hn];exact bf
open H0 in
theorem c_divisor (a b:Nat) (ha:a<18446744073709551616) (hb:b<18446744073709551616):CallP aa 276 [nU64 a,nU64 b] (nU64 (bI a b)):=by
 refine fnP Tryz.func276 ?_;refine zg7 ?_;refine lp2 (fun(m n:Nat) L=>(mS L [] [(1,nU64 n),(0,nU64 m)])) (fun m n=>bI m n=bI a b/\m<18446744073709551616/\n<18446744073709551616) (fun m n=>n) a b ⟨rfl,ha,hb⟩ ?_;rintro m n L1 ⟨l7,hm,hn⟩;refine zg7 ?_;refine wl_if rfl ?_ ?_<;>intro nW h6
 ·refine zg3 ?_;refine wl_regD 6 ah ?_;refine zg9 ?_;exact nx2 n (m % n) ⟨by rw [iJ,<-ug,iJ];exact l7,hn,by have:=dO m (show n > 0 by omega);omega⟩ (hm:=dO _ J)
 obtain rfl:n=0:=J;refine zg12 ?_;rw [<-l7,uY];exact bf
namespace H_c_limbs
theorem zSm {p q:Prop} (k:q) (e:p=q:=by simp only [sNF,ar,au,aq,dflt,List.length_set,Nat.add_zero,eqm,eqz];exact rfl):p:=e.mpr k
end H_c_limbs
open H_c_limbs in
theorem c_limbs (l:List Nat) (off len n:Nat) (hn:n<18446744073709551616) (h1:1<=len) (h2:4294967296<=n->2<=len) (hl:off+len<=l.length):CallOKM aa 277 ⟨1,l.map u32L,true⟩ [.ref 0 1 off len,nU64 n] (nI64 (dlen n)) ⟨1,(putd l off n).map u32L,true⟩:=by
 refine fnM Tryz.func277 ?_;have eqm:True:=trivial;have eqz:True:=trivial;refine zg22 ?_;refine wl_if rfl ?_ ?_<;>intro wy qo
 ·have eW:n<4294967296:=J;have eqz:n % 4294967296=n:=cV eW;refine zg7 ?_;simp only [putd,dlen,if_pos eW,eqz];exact retM1 rfl (.imm (.pure rfl)) rfl rfl (pures_map u32E _)
 have eW:¬ n<4294967296:=J;have eqm:n/4294967296 % 4294967296=n/4294967296:=cV J;refine zg18 ?_;simp only [putd,dlen,if_neg eW];exact retM1 rfl (.imm (.pure rfl)) rfl rfl (pures_map u32E _)
theorem val_nil:val []=0:=rfl
theorem blen_dec (n:Nat):decide (((blen n:Nat):Int)=0)=decide (n=0):=by
 rw [decide_eq_decide,<-blen_zero];omega
theorem dig_is1 {n:Nat} (h:(dig n).length=1):(dig n).getD 0 0=n/\0<n:=by
 have h0:0<n:=ll (fun e=>by rw [e,dig_zero] at h;cases h);rw [dig_small h0 (dig_len_le1.1 J)];exact⟨rfl,h0⟩
namespace H_c_parts
theorem zSm {p q:Prop} (k:q) (e:p=q:=by simp only [sNF,ar,au,aq,kills_map ratE,ratL_kill,dflt,val_dig];exact rfl):p:=e.mpr k
end H_c_parts
open H_c_parts in
theorem c_parts (q:Rat):CallP aa 185 [ratL q] (.tup [nU64 (pN q),nU64 (pD q),bL (smB q)]):=by
 have hdp:=q.den_pos;have af7:=denN_eq q;refine fnP Tryz.func185 ?_;refine zg16 ?_;refine op_if 9 rfl ?_ ?_<;>intro pz h9
 ·have hs:smB q=false:=decide_eq_false (fun h=>by have:=dig_len_le1.2 h.1;omega);have gi:True:=trivial;refine zg17 ?_;simp only [pN,pD,hs,tC,if_false];exact ret3f [] rfl rfl (.pure rfl) rfl (.pure rfl) rfl (.pure rfl)
 have eW:=dig_len_le1.1 (show (dig q.num.natAbs).length<=1 by omega);refine zg7 ?_;refine wl_if rfl ?_ ?_<;>intro jg gi
 ·have hs:smB q=false:=by first | exact hs | exact decide_eq_false (fun h=>by have:=sm_den h.2;omega)
  refine zg9 ?_;simp only [pN,pD,hs,tC,if_false];exact ret3f [] rfl rfl (.pure rfl) rfl (.pure rfl) rfl (.pure rfl)
 have dV:q.den<4294967296:=by
  have:=dig_len_le1.1 (show (dig (denN q)).length<=1 by omega);rw [af7] at this;split at this<;>omega
 have hs:smB q=true:=decide_eq_true ⟨eW,dV⟩;refine zg16 ?_;refine wl_cut (fun L=>∃ (d:Nat) (L1:St),(d=q.den)/\L=(mS L1 [(1,⟨3,[ratL q],true⟩)] [(3,nU64 d),(1,.eptr 1 3 0 0)])) ?_ ?_
 ·refine wl_if rfl ?_ ?_<;>intro jU kg
  ·have er:=denN_pos (q:=q) J;have fO:(dig (denN q)).getD 0 0=q.den:=by rw [er,dig_small hdp dV];rfl
   refine zg9 ?_;exact⟨(dig (denN q)).getD 0 0,_,fO,aL⟩
  have er:=denN_zero (q:=q) J;refine zg2 ?_;exact⟨1,_,er.symm,aL⟩
 rintro _ ⟨d,ag4,rfl,rfl⟩;refine zg5 ?_;refine cp am1 (c_Rword _ (lim_dig _) J) ?_;refine zg9 ?_;simp only [pN,pD,hs,if_true];have bC:((q.den:Int) != 0)=true:=al;refine ret3f [] rfl rfl (.pure rfl) rfl (.pure rfl) (x'':=.v (.bool ((q.den:Int) != 0))) rfl ?_;rw [bC];exact .pure rfl
namespace H_c_short
theorem zSm {p q:Prop} (k:q) (e:p=q:=by simp only [sNF,ar,au,aq,dflt,Nat.sub_zero,Nat.zero_add,Nat.add_sub_cancel_left,Nat.add_zero];exact rfl):p:=e.mpr k
theorem zSm1 {p q:Prop} (k:q) (e:p=q:=by simp only [sNF,ar,au,aq,dflt,Nat.sub_zero,Nat.zero_add,Nat.add_sub_cancel_left,Nat.add_zero,<-hN,<-hD];exact rfl):p:=e.mpr k
theorem nf1 {p:Prop} (h:p:=by first | (refine zSm1 ?_;exact rfl) | exact rfl):p:=h
end H_c_short
open H_c_short in
theorem c_short (s:Bool) (n d:Nat) (hn:n<18446744073709551616) (dt:0<d) (hd:d<18446744073709551616):CallP aa 242 [bL s,nU64 n,nU64 d] (ratL (qv s n d)):=by
 refine fnP Tryz.func242 ?_;refine zg12 ?_;refine wl_if rfl ?_ ?_<;>intro xk h13
 ·refine zg8 ?_;obtain rfl:n=0:=J;rw [qv_zero,ratL_zero];exact ui
 have dE:0<n:=J;have hg:0<bI n d:=aaz _ dE;have fy:0<n/bI n d:=xm (sj dE (qh n d)) hg;have o7:0<d/bI n d:=xm (sj dt (aag n d)) hg;have nQ:n/bI n d<18446744073709551616:=jW (lr _ _) hn;have xC:d/bI n d<18446744073709551616:=jW (lr _ _) hd;have hE:=ratL_qv s dE dt;obtain⟨g,qT⟩:∃ g,g=bI n d:=⟨_,rfl⟩;obtain⟨N,hN⟩:∃ N,N=n/bI n d:=⟨_,rfl⟩;obtain⟨D,hD⟩:∃ D,D=d/bI n d:=⟨_,rfl⟩;rw [<-hN,<-hD] at hE;rw [<-hN] at fy nQ;rw [<-hD] at o7 xC;have fR:=dig_dlen fy nQ;have dk:=dig_dlen o7 xC;obtain⟨dj,oG⟩:=short_two fy nQ o7 xC;have aT:=short_one fy nQ;have en:(putd [0,0,0,0] 0 N).length=4:=putd_len _ _ _;have gI:(putd (putd [0,0,0,0] 0 N) (dlen N) D).length=4:=by rw [putd_len,putd_len];rfl
 refine zg6 ?_;refine cp am2 (c_divisor _ _ J J) ?_;refine zg4 ?_;refine wl_regD 8 ah ?_;refine zg2 ?_;refine st_pure rfl uj ?_;refine zg2 ?_;refine st_pure rfl uj ?_;refine zg2 ?_;refine st_end nf1 ?_;refine zg3 ?_;refine st_alloc rfl rfl (.mkE (n:=4) (m:=4) ml ml om om om) ?_;refine zg7 ?_;refine st_callM 24 rfl rfl rfl (pures_map u32E _) (.cons .ref (.cons (.imm (.pure rfl)) .nil)) (.ref ae) (c_limbs [0,0,0,0] 0 4 N nQ J J aj) rfl (pures_map u32E _) ?_;refine zg9 ?_;refine st_pure rfl (.sliceR3 (a:=0) (h:=dlen N) (mx:=dlen N) rfl gS T179 (fun y hy=>by cases hy) (fun _=>rfl) rfl rfl J J J J) ?_;refine zg12 ?_;refine wl_if rfl ?_ ?_<;>intro nx nT
 ·refine zg5 ?_;refine st_pure rfl (.sliceR (a:=dlen N) (h:=4) rfl gS T179 (fun y hy=>by cases hy;exact⟨_,rfl⟩) (fun h=>by cases h) (fun y hy=>by cases hy) (fun _=>rfl) J J J) ?_;refine zg1 ?_;refine st_callM 24 rfl rfl rfl (pures_map u32E _) (.cons .ref (.cons (.imm (.pure rfl)) .nil)) (.ref J) (c_limbs (putd [0,0,0,0] 0 N) (0+dlen N) (4-dlen N) D xC J J J) rfl (pures_map u32E _) ?_;refine zg9 ?_;refine st_pure rfl (.sliceR3 (a:=dlen N) (h:=dlen N+dlen D) (mx:=dlen N+dlen D) rfl gS T179 (fun y hy=>by cases hy;exact⟨_,rfl⟩) (fun h=>by cases h) rfl rfl J J J J) ?_;refine zg11 ?_;rw [hE,if_neg J];exact retC [24] rfl rfl rfl rfl rfl T32 (.agg (.cons (.pure rfl) (.cons (imm_refS u32E rfl rfl J dj) (.cons (imm_refS u32E rfl rfl J oG) .nil))))
 refine zg9 ?_;rw [hE,if_pos J];exact retC [24] rfl rfl rfl rfl rfl T32 (.agg (.cons (.pure rfl) (.cons (imm_refS u32E rfl rfl J aT) (.cons (.pure rfl) .nil))))
namespace H_c_reduce
theorem zSm {p q:Prop} (k:q) (e:p=q:=by simp only [sNF,ar,au,aq,dflt,val_dig,val_nil,Nat.add_zero];exact rfl):p:=e.mpr k
end H_c_reduce
open H_c_reduce in
theorem c_reduce (s:Bool) (a b:List Nat) (ha:Lim a) (hb:Lim b) (cr:a.length<=1099511627776) (ff:b.length<=1099511627776):CallP aa 243 [bL s,limL a,limL b] (ratL (qv s (val a) (val b))):=by
 have qW:=c_trimC a ha cr;have wS:=c_trimC b hb ff;refine fnP Tryz.func243 ?_;refine zg7 ?_;refine wl_cut (fun L=>∃ (t:Bool) (L1:St),(t=decide (val a=0\/val b=0))/\L=(mS L1 [(6,⟨3,[.agg [.v (.bool false),.list 1 [],.list 1 []]],true⟩)] [(15,bL t),(6,.eptr 6 3 0 0),(2,limL b),(1,limL a),(0,bL s)])) ?_ ?_
 ·refine zg2 ?_;refine cp am1 (c_NBits _ cM J) ?_;refine zg2 ?_;refine op_if 11 rfl ?_ ?_<;>intro wy qo
  ·have hz:val a=0:=blen_zero.1 J;refine zg6 ?_;exact⟨true,_,(decide_eq_true (.inl hz)).symm,aL⟩
  have jn:val a≠0:=fun h=>by rw [blen_zero.2 h] at qo;exact qo rfl
  refine zg1 ?_;refine cp am1 (c_NBits _ cM J) ?_;refine zg4 ?_;exact⟨decide (((blen (val b):Nat):Int)=0),_,by show decide _=_;rw [blen_dec];simp [jn],aL⟩
 rintro _ ⟨t,LR1,ht,rfl⟩;refine zg1 ?_;refine wl_if rfl ?_ ?_<;>intro il fc
 ·have hq:qv s (val a) (val b)=0:=by
   rw [ht,decide_eq_true_eq] at il;rcases il with h | h
   ·rw [h];exact qv_zero _ _
   rw [h];exact qv_den0 _ _
  refine zg8 ?_;rw [hq,ratL_zero];exact ui
 rw [ht,decide_eq_false_iff_not,not_or] at il;have vM:0<val a:=ll il.1;have bC:0<val b:=ll il.2;have hg:0<bI (val a) (val b):=aaz _ vM;have hE:=ratL_qv s vM bC;have rm:(dig (bI (val a) (val b))).length<=1099511627776:=aw (len_dig_mono (sj vM (qh _ _))) qW;have hqa:(dig (val a/bI (val a) (val b))).length<=1099511627776:=aw (len_dig_mono (lr _ _)) qW;have pT:(dig (val b/bI (val a) (val b))).length<=1099511627776:=aw (len_dig_mono (lr _ _)) wS;refine zg4 ?_;refine wl_cut (fun L=>∃ (t:Bool) (L1:St),(t=decide (a.length<=2/\b.length<=2))/\L=(mS L1 [(6,⟨3,[.agg [.v (.bool false),.list 1 [],.list 1 []]],true⟩)] [(24,bL t),(6,.eptr 6 3 0 0),(2,limL b),(1,limL a),(0,bL s)])) ?_ ?_
 ·refine zg5 ?_;refine op_if 20 rfl ?_ ?_<;>intro py oA
  ·refine zg6 ?_;exact⟨decide (((b.length:Nat):Int)<=2),_,by rw [decide_eq_decide];omega,aL⟩
  refine zg6 ?_;exact⟨false,_,by symm;rw [decide_eq_false_iff_not];omega,aL⟩
 rintro _ ⟨t,LR3,ht2,rfl⟩;refine zg1 ?_;refine wl_if rfl ?_ ?_<;>intro nm oC
 ·rw [ht2,decide_eq_true_eq] at nm;have aiB:=nm.1;have agG:=nm.2;refine zg4 ?_;have k9:=val_lt_len ha (k:=2) J;have ru:=val_lt_len hb (k:=2) J;refine cp am1 (c_Rword a ha J) ?_;refine zg1 ?_;refine cp am1 (c_Rword b hb J) ?_;refine cp am3 (c_short _ _ _ k9 bC ru) ?_;refine zg5 ?_;exact cy
 refine zg7 ?_;refine cp am2 (c_NGcd _ _ cM cM J J) ?_;refine zg6 ?_;refine cp am1 (c_NBits _ cM J) ?_;refine zg3 ?_;refine wl_cut (fun L=>∃ (x:List Nat) (y:List Nat) (L1:St),(Lim x/\Lim y/\x.length<=1099511627776/\y.length<=1099511627776/\val x=val a/bI (val a) (val b)/\val y=val b/bI (val a) (val b))/\L=(mS L1 [(6,⟨3,[.agg [.v (.bool false),.list 1 [],.list 1 []]],true⟩)] [(6,.eptr 6 3 0 0),(2,limL y),(1,limL x),(0,bL s)])) ?_ ?_
 ·refine wl_if rfl ?_ ?_<;>intro af3 h36
  ·refine zg4 ?_;refine cp am2 (c_NDiv _ _ cM cM J J (by rw [val_dig];exact hg)) ?_;refine zg10 ?_;refine cp am2 (c_NDiv _ _ cM cM J J (by rw [val_dig];exact hg)) ?_;refine zg7 ?_;exact⟨dig (val a/bI (val a) (val b)),dig (val b/bI (val a) (val b)),_,⟨lim_dig _,lim_dig _,hqa,pT,val_dig _,val_dig _⟩,aL⟩
  have eH:bI (val a) (val b)=1:=blen_one.1 (by have:=blen_zero (n:=bI (val a) (val b));omega);refine zg2 ?_;exact⟨a,b,_,⟨ha,hb,cr,ff,by rw [eH,u7],by rw [eH,u7]⟩,aL⟩
 rintro _ ⟨x,y,aim,⟨hx,hy,yA,sP,hvx,hvy⟩,rfl⟩;rw [<-hvx,<-hvy] at hE;have iG:0<val y:=by rw [hvy];exact xm (sj bC (aag _ _)) hg
 refine zg4 ?_;refine cp am2 (c_Add x [] hx (by intro y hy;cases hy) yA aj) ?_;refine zg1 ?_;refine cp am2 (c_Add y [] hy (by intro y hy;cases hy) sP aj) ?_;refine zg11 ?_;refine op_if 58 rfl ?_ ?_<;>intro agp h58
 ·refine zg7 ?_;refine wl_if rfl ?_ ?_<;>intro aaX ck
  ·have jN:val y=1:=by have:=(dig_is1 (n:=val y) J).1;omega
   refine zg14 ?_;rw [hE,if_pos jN];exact retC [] rfl rfl rfl rfl rfl T32 (.agg (.cons (.pure rfl) (.cons (.pure (magL_pure _)) (.cons (.nil 1) .nil))))
  have jN:val y≠1:=by have:=(dig_is1 (n:=val y) J).1;omega
  refine zg12 ?_;rw [hE,if_neg jN];exact vg
 have jN:val y≠1:=fun e=>by rw [e,dig_one] at h58;exact h58 rfl
 refine zg20 ?_;rw [hE,if_neg jN];exact vg
open H0 in
theorem c_size (n:Int) (h1:-9223372036854775808<=n) (h2:n<=9223372036854775807):CallP aa 246 [iL n] (magL n.natAbs):=by
 refine fnP Tryz.func246 ?_;refine zg12 ?_;refine wl_if rfl ?_ ?_<;>intro h4r h4
 ·refine zg2 ?_;refine cp am1 (c_NOf 9223372036854775808 J) ?_;refine zg5 ?_;rw [show n.natAbs=9223372036854775808 by omega];exact bf
 refine zg6 ?_;refine st_pure rfl (.neg rfl) ?_;refine zg1 ?_;refine st_pure rfl (.cv64 (n:=n.natAbs) xM xT (by simp only [e1,p1,p2,aq];rw [max_abs J J]) J) ?_;refine cp am1 (c_NOf n.natAbs J) ?_;refine zg4 ?_;exact bf
theorem retCT {P:Program} {L:St} {a u:Nat} {T:TypeId} {b sz:Nat} {x y x' y':LV} {m:Bool} {n:Nat} {ag:Bool} (bs:List Nat) (h0:bs.contains 0=false) (h:L.slot a=.eptr b sz 0 0) (hb:L.heap b=some ⟨sz,[x],m⟩)
  (hx:x.csize=sz) (gB:x.at 0 n ag=some x) (hT:TyIs P T n ag) (hi:Imm (L.frz bs).heap x y) (h':L.slot u=x') (fv:Imm (L.frz bs).heap x' y'):RetL P [.cell a T,.tmp u] L (.tup [y,y']) [] :=
 ⟨[x,x'],[y,y'],(L.frz bs).heap,[],.cons ⟨b,sz,0,0,_,x,n,ag,h,hb,rfl,rfl,hx,gB,hT⟩ (.cons h' .nil),frz_le bs h0,.cons (.imm hi) (.cons (.imm fv) .nil),List.nodup_nil,rfl,fun k b h=>by simp at h,rfl⟩
namespace H_c_RInt
theorem zSm {p q:Prop} (k:q) (e:p=q:=by simp only [sNF,ar,au,aq,val_dig];exact rfl):p:=e.mpr k
end H_c_RInt
open H_c_RInt in
theorem c_RInt (n:Int) (h1:-9223372036854775808<=n) (h2:n<=9223372036854775807):CallP aa 190 [iL n] (ratL (n:Rat)):=by
 refine fnP Tryz.func190 ?_;refine zg10 ?_;refine cp am1 (c_size _ J J) ?_;refine cp am0 (c_one) ?_;refine cp am3 (c_reduce (decide (n<0)) (dig n.natAbs) (dig 1) (lim_dig _) (lim_dig _) (aw (dig_len_le2.2 J) J) (by rw [dig_one];decide)) ?_;refine zg4 ?_;rw [<-qv_int n];exact cy
open H_c_RInt in
theorem c_RMake (n d:Int) (h1:-9223372036854775808<=n) (h2:n<=9223372036854775807) (h3:-9223372036854775808<=d) (h4:d<=9223372036854775807) (hd:d≠0):CallP aa 294 [iL n,iL d] (.tup [ratL ((n:Rat)/(d:Rat)),iL 0]):=by
 refine fnP Tryz.func294 ?_;refine zg13 ?_;refine wl_if rfl ?_ ?_<;>intro zo h7
 ·exact absurd h7 hd
 refine zg10 ?_;refine cp am1 (c_size _ J J) ?_;refine zg1 ?_;refine cp am1 (c_size _ J J) ?_;refine cp am3 (c_reduce (decide (n<0) != decide (d<0)) (dig n.natAbs) (dig d.natAbs) (lim_dig _) (lim_dig _) (aw (dig_len_le2.2 J) J) (aw (dig_len_le2.2 J) J)) ?_;refine zg5 ?_;rw [<-qv_ints];exact vi
theorem smB_t {q:Rat} (h:smB q=true):pN q=q.num.natAbs/\pD q=q.den/\q.num.natAbs<4294967296/\q.den<4294967296:=by
 have h2:=of_decide_eq_true h;exact⟨by simp [pN,h],by simp [pD,h],h2.1,h2.2⟩
theorem len_mul {x y k l:Nat} (hx:(dig x).length<=k) (hy:(dig y).length<=l):(dig (x*y)).length<=k+l :=
 dig_length_le (pow_lt_add (dig_length_ge hx) (dig_length_ge hy))
theorem len_add {x y k:Nat} (hx:(dig x).length<=k) (hy:(dig y).length<=k):(dig (x+y)).length<=k+1 :=
 dig_length_le (add_pow_lt (dig_length_ge hx) (dig_length_ge hy))
def subL (x y:Nat):List Nat:=if x<y then [] else dig (x-y)
def subE (x y:Nat):Int:=if x<y then 7 else 0
theorem c_NSubAny (x y:Nat) (hx:(dig x).length<=1099511627776) (hy:(dig y).length<=1099511627776):CallP aa 249 [magL x,magL y] (.tup [limL (subL x y),iL (subE x y)]):=by
 unfold subL subE;by_cases h:x<y
 ·rw [if_pos h,if_pos h];exact c_NSubLt _ _ (lim_dig _) (lim_dig _) hx hy (by rw [val_dig,val_dig];exact h)
 rw [if_neg h,if_neg h];have:=c_NSub _ _ (lim_dig x) (lim_dig y) hx hy (by rw [val_dig,val_dig];omega);rw [val_dig,val_dig] at this;exact this
theorem subE_0 {x y:Nat}:subE x y=0↔y<=x:=by unfold subE;split<;>omega
theorem subL_le {x y:Nat} (h:y<=x):subL x y=dig (x-y):=by unfold subL;rw [if_neg J]
section
variable {a b:Rat} {s:Bool} {x y d k:Nat}
theorem add_same (hk:0<k) (hx:x*k=a.num.natAbs*b.den) (hy:y*k=b.num.natAbs*a.den) (hd:d*k=a.den*b.den) (h:decide (a<0)=s):a+sgR s b=qv s (x+y) d:=by
 have:=qv_add_same s (n:=a.num.natAbs) (m:=b.num.natAbs) a.den_pos b.den_pos;rw [<-hx,<-hy,<-hd,<-cI,qv_scale s hk] at this;rw [<-this,sgR];subst h;rw [qv_self]
theorem add_ge (hk:0<k) (hx:x*k=a.num.natAbs*b.den) (hy:y*k=b.num.natAbs*a.den) (hd:d*k=a.den*b.den) (h:decide (a<0)≠s) (hle:y<=x):a+sgR s b=qv (decide (a<0)) (x-y) d:=by
 have:=qv_add_ne (decide (a<0)) s (n:=a.num.natAbs) (m:=b.num.natAbs) a.den_pos b.den_pos h (by rw [<-hx,<-hy];exact bw _ hle);rw [<-hx,<-hy,<-hd,<-ad3,qv_scale _ hk] at this;rw [<-this,sgR,qv_self]
theorem add_le (hk:0<k) (hx:x*k=a.num.natAbs*b.den) (hy:y*k=b.num.natAbs*a.den) (hd:d*k=a.den*b.den) (h:decide (a<0)≠s) (hle:x<=y):a+sgR s b=qv s (y-x) d:=by
 have:=qv_add_ne' (decide (a<0)) s (n:=a.num.natAbs) (m:=b.num.natAbs) a.den_pos b.den_pos h (by rw [<-hx,<-hy];exact bw _ hle);rw [<-hx,<-hy,<-hd,<-ad3,qv_scale _ hk] at this;rw [<-this,sgR,qv_self]
end
theorem denN_inj {a b:Rat} (h:dig (denN a)=dig (denN b)):a.den=b.den:=by
 have h2:denN a=denN b:=by rw [<-val_dig (denN a),h,val_dig]
 rw [denN_eq,denN_eq] at h2;have:=a.den_pos;have:=b.den_pos;split at h2<;>split at h2<;>omega
theorem cmpN_mul {x y k:Nat} (hk:0<k):cmpN (x*k) (y*k)=cmpN x y:=by
 simp only [cmpN,Nat.mul_lt_mul_right hk]
theorem lt_abs {a b:Rat} (ha:¬ a<0) (hb:¬ b<0):a<b↔a.num.natAbs*b.den<b.num.natAbs*a.den:=by
 rw [rat_lt0] at ha hb;rw [acQ];have h1:a.num=(a.num.natAbs:Int):=J;have h2:b.num=(b.num.natAbs:Int):=J;rw [h1,h2];simp only [Int.natAbs_natCast]
 exact_mod_cast Iff.rfl
theorem lt_neg {a b:Rat} (ha:a<0) (hb:b<0):a<b↔b.num.natAbs*a.den<a.num.natAbs*b.den:=by
 have:=lt_abs (a:=-b) (b:=-a) ay ay;rw [aaU,aaU,y7,y7,zn,zn] at this;rw [<-this];grind
theorem cmp_same {a b:Rat} (h:sgnR a=sgnR b):cmpR a b=if a<0 then-cmpN (a.num.natAbs*b.den) (b.num.natAbs*a.den) else cmpN (a.num.natAbs*b.den) (b.num.natAbs*a.den):=by
 have hs:(a<0)↔(b<0):=by
  unfold sgnR at h;split at h<;>split at h<;>(try split at h)<;>(try split at h)<;>grind
 by_cases ha:a<0
 ·have hb:=hs.1 ha;rw [if_pos ha];simp only [cmpR,cmpN,lt_neg ha hb,lt_neg hb ha];split<;>split<;>omega
 have hb:=fun h=>ha (hs.2 h);rw [if_neg ha];simp only [cmpR,cmpN,lt_abs ha hb,lt_abs hb ha]
theorem cmp_slt {a b:Rat} (h:sgnR a<sgnR b):cmpR a b=-1:=by
 have:a<b:=by unfold sgnR at h;split at h<;>split at h<;>(try split at h)<;>(try split at h)<;>grind
 simp [cmpR,this]
theorem cmp_sgt {a b:Rat} (h:sgnR b<sgnR a):cmpR a b=1:=by
 have h1:b<a:=by unfold sgnR at h;split at h<;>split at h<;>(try split at h)<;>(try split at h)<;>grind
 have h2:¬ a<b:=ay;simp [cmpR,h1,h2]
theorem num0 {q:Rat} (h:(dig q.num.natAbs).length=0):q=0:=by
 have:=dig_eq_nil.1 (jB h);exact aev.1 J
theorem wrap_negc {c:Int} {x y:Nat} (h:c=cmpN x y):IntKind.i64.wrap (0-c)=-c:=by
 have:c=-1\/c=0\/c=1:=by rw [h];unfold cmpN;split<;>(try split)<;>simp
 rw [IntWalk.i64_in _ J];omega
end Go.Proofs.YtlipjipfpkbppaaGreat
namespace Go.Lg
open Go.Proofs.YtlipjipfpkbppaaGreat in
theorem OpT.stR1 {P:Program} {L:St} {dst:Option Nat} {T:TypeId} {p x:Operand} {b:Nat} {q q0:Rat} (hp:L.ev p=.eptr b 3 0 0) (hb:L.heap b=some ⟨3,[ratL q0],true⟩) (hx:L.ev x=ratL q) (hT:TyIs P T 3 true) :
  OpT P L dst (.store T p x) ((L.setB b (some ⟨3,[ratL q],true⟩)).put dst .any):=by
 have h0:LV.put (ratL q0) 0 (L.ev x)=some (ratL q):=by
  rw [hx,ratL_eq q0];have e1:∀ n,(magL n).csize=1:=fun _=>rfl;simp [LV.put,ratE.csize,ratE.isAgg,csizes,LV.csize,e1]
 have h:=OpT.store (P:=P) (dst:=dst) (T:=T) (p:=p) (x:=x) (y:=ratL q0) (y':=ratL q) hp hb rfl rfl rfl (ratE.csize _) h0 (by rw [hx,ratE.csize,ratE.isAgg];exact hT)
  (by rw [hx];exact⟨LV.pure_ne_any (ratE.pure q),LV.pure_ne_tup (ratE.pure q)⟩)
 exact h
end Go.Lg
namespace Go.Proofs.YtlipjipfpkbppaaGreat
open Go.Lg
open H_c_RInt in
theorem c_RSign (q:Rat) (h:rl q<=1099511627776):CallP aa 73 [ratL q] (iL (sgnR q)):=by
 have h1:=rl_num q;have hq:=sgnR_eq q;refine fnP Tryz.func73 ?_;refine zg12 ?_;refine cp am1 (c_NBits _ cM J) ?_;refine zg4 ?_;refine wl_if rfl ?_ ?_<;>intro h3r h3
 ·have hz:q.num.natAbs=0:=blen_zero.1 J;refine zg8 ?_;rw [hq,if_pos hz];exact bf
 have hz:q.num.natAbs≠0:=fun e=>by rw [blen_zero.2 e] at h3;exact h3 rfl
 refine zg7 ?_;refine wl_if rfl ?_ ?_<;>intro gM h8
 ·refine zg8 ?_;rw [hq,if_neg hz,if_pos h8];exact bf
 refine zg9 ?_;rw [hq,if_neg hz,if_neg h8];exact bf
open H0 in
theorem c_copied (q:Rat) (h:rl q<=1099511627776):CallP aa 221 [ratL q] (ratL q):=by
 have h1:=rl_num q;have h2:=rl_denN q;refine fnP Tryz.func221 ?_;refine zg7 ?_;refine wl_regD 9 ah ?_;refine zg4 ?_;refine cp am1 (c_Clone _ J) ?_;refine zg2 ?_;refine cp am1 (c_Clone _ J) ?_;refine zg5 ?_;rw [ratL_eq];exact vg
namespace H_c_RCmp
theorem zSm {p q:Prop} (k:q) (e:p=q:=by simp only [sNF,ar,au,aq,val_dig];exact rfl):p:=e.mpr k
theorem zSm1 {p q:Prop} (k:q) (e:p=q:=by simp only [sNF,ar,au,aq,val_dig,iK,iT,jq,iZ];exact rfl):p:=e.mpr k
theorem nf1 {p:Prop} (h:p:=by first | (refine zSm1 ?_;exact rfl) | exact rfl):p:=h
end H_c_RCmp
open H_c_RCmp in
theorem c_RCmp (a b:Rat) (h:rl a+rl b<=1099511627776):CallP aa 110 [ratL a,ratL b] (iL (cmpR a b)):=by
 have a1:=rl_num a;have a2:=rl_den a;have a3:=rl_denN a;have c1:=rl_num b;have c2:=rl_den b;have c3:=rl_denN b;have a0:=a.den_pos;have c0:=b.den_pos;have m1:=len_mul a1 c2;have m2:=len_mul c1 a2;have m3:=len_mul a2 c2;have m4:=len_mul a1 c1;have m5:=len_mul a2 c1;have m6:=len_mul c2 a2;refine fnP Tryz.func110 ?_;refine zg9 ?_;refine wl_regD 6 ah ?_;refine zg1 ?_;refine cp am1 (c_RSign _ J) ?_;refine zg1 ?_;refine cp am1 (c_RSign _ J) ?_;refine zg11 ?_;refine wl_if rfl ?_ ?_<;>intro py oA
 ·refine zg8 ?_;refine wl_if rfl ?_ ?_<;>intro lC kt
  ·refine zg8 ?_;rw [cmp_slt kt];exact bf
  refine zg9 ?_;rw [cmp_sgt J];exact bf
 have gf:sgnR a=sgnR b:=J;refine zg11 ?_;refine cp am1 (c_parts _) ?_;refine zg15 ?_;refine cp am2 (c_Equal _ _ J J) ?_;refine zg2 ?_;refine wl_cut (fun L=>∃ (c:Int) (L1:St),(c=cmpN (a.num.natAbs*b.den) (b.num.natAbs*a.den))/\L=(mS L1 [(2,⟨3,[ratL a],true⟩),(3,⟨3,[ratL b],true⟩)] [(7,iL c),(2,.eptr 2 3 0 0)])) ?_ ?_
 ·refine wl_if rfl ?_ ?_<;>intro vy oO
  ·refine zg5 ?_;refine cp am2 (c_NCmp _ _ (lim_dig _) (lim_dig _) nF nF) ?_;refine zg3 ?_;exact⟨cmpN a.num.natAbs b.num.natAbs,_,by rw [denN_inj oO];exact(cmpN_mul b.den_pos).symm,aL⟩
  refine zg3 ?_;refine cp am1 (c_parts _) ?_;refine zg10 ?_;refine wl_cut (fun L=>∃ (t:Bool) (L1:St),(t=(smB a && smB b))/\L=(mS L1 [(2,⟨3,[ratL a],true⟩),(3,⟨3,[ratL b],true⟩)] [(49,bL t),(12,nU64 (pD b)),(11,nU64 (pN b)),(9,nU64 (pD a)),(8,nU64 (pN a)),(7,iL 0),(3,.eptr 3 3 0 0),(2,.eptr 2 3 0 0)])) ?_ ?_
  ·refine zg3 ?_;refine op_if 47 rfl ?_ ?_<;>intro xQ h47
   ·refine zg4 ?_;exact⟨smB b,_,by rw [xQ];rfl,aL⟩
   refine zg4 ?_;exact⟨false,_,by rw [xQ];rfl,aL⟩
  rintro _ ⟨t,ail,ht,rfl⟩;refine zg1 ?_;refine wl_if rfl ?_ ?_<;>intro tX tt
  ·rw [ht,dG] at tX;obtain⟨iK,iT,k3,k4⟩:=smB_t tX.1;obtain⟨jq,iZ,k7,k8⟩:=smB_t tX.2;have n1:=mulLt k3 k8;have n2:=mulLt k7 k4;have n3:=n1;have n4:=n2;rw [<-iK,<-iZ] at n1;rw [<-jq,<-iT] at n2;refine zg4 ?_;refine st_pure rfl (.bin rfl rfl (mulU J)) ?_;refine zg2 ?_;refine st_pure rfl (.bin rfl rfl (mulU J)) ?_;refine zg1 ?_;refine st_end nf1 ?_;refine zg1 ?_;refine wl_if rfl ?_ ?_<;>intro aeD h56
   ·refine zg4 ?_;exact⟨-1,_,(cmpN_lt J).symm,aL⟩
   refine zg4 ?_;refine st_pure rfl (.bin rfl rfl (mulU J)) ?_;refine zg2 ?_;refine st_pure rfl (.bin rfl rfl (mulU J)) ?_;refine zg1 ?_;refine st_end nf1 ?_;refine zg1 ?_;refine wl_if rfl ?_ ?_<;>intro aaX ck
   ·refine zg4 ?_;exact⟨1,_,(cmpN_gt J).symm,aL⟩
   refine zg2 ?_;exact⟨0,_,(cmpN_eq J).symm,aL⟩
  refine wl_regD 12 ah ?_;refine zg3 ?_;refine qQ ?_;refine zg3 ?_;refine qQ ?_;refine cp am2 (c_NCmp _ _ (lim_dig _) (lim_dig _) nF nF) ?_;refine zg3 ?_;exact⟨cmpN (a.num.natAbs*b.den) (b.num.natAbs*a.den),_,rfl,aL⟩
 rintro _ ⟨c,aiA,hc,rfl⟩;refine zg8 ?_;refine wl_if rfl ?_ ?_<;>intro agr h76
 ·refine zg9 ?_;rw [cmp_same gf,if_pos h76,<-hc,<-wrap_negc hc];exact bf
 refine zg9 ?_;rw [cmp_same gf,if_neg h76,<-hc];exact bf
namespace H_c_RMul
theorem zSm {p q:Prop} (k:q) (e:p=q:=by simp only [sNF,ar,au,aq,val_dig,iK,iT,jq,iZ];exact rfl):p:=e.mpr k
end H_c_RMul
open H_c_RMul in
theorem c_RMul (a b:Rat) (h:rl a+rl b<=1099511627776):CallP aa 228 [ratL a,ratL b] (ratL (a*b)):=by
 have a1:=rl_num a;have a2:=rl_den a;have a3:=rl_denN a;have c1:=rl_num b;have c2:=rl_den b;have c3:=rl_denN b;have a0:=a.den_pos;have c0:=b.den_pos;have m1:=len_mul a1 c2;have m2:=len_mul c1 a2;have m3:=len_mul a2 c2;have m4:=len_mul a1 c1;have m5:=len_mul a2 c1;have m6:=len_mul c2 a2;have hE:=qv_mul (decide (a<0)) (decide (b<0)) a.num.natAbs a.den b.num.natAbs b.den;rw [qv_self,qv_self] at hE;refine fnP Tryz.func228 ?_;have iK:True:=trivial;have iT:True:=trivial;have jq:True:=trivial;have iZ:True:=trivial;refine zg15 ?_;refine op_if 15 rfl ?_ ?_<;>intro il fc
 ·have hz:a*b=0:=by rw [num0 (q:=a) J,Rat.zero_mul]
  refine zg16 ?_;rw [hz,ratL_zero];exact ui
 refine zg7 ?_;refine wl_if rfl ?_ ?_<;>intro py oA
 ·have hz:a*b=0:=by rw [num0 (q:=b) J,Rat.mul_zero]
  refine zg8 ?_;rw [hz,ratL_zero];exact ui
 refine zg6 ?_;refine cp am1 (c_parts _) ?_;refine zg14 ?_;refine wl_cut (fun L=>∃  (L1:St),(True)/\L=(mS L1 [(2,⟨3,[ratL a],true⟩),(3,⟨3,[ratL b],true⟩),(4,⟨3,[.agg [.v (.bool false),.list 1 [],.list 1 []]],true⟩)] [(4,.eptr 4 3 0 0),(3,.eptr 3 3 0 0),(2,.eptr 2 3 0 0)])) ?_ ?_
 ·refine wl_if rfl ?_ ?_<;>intro o4 jP
  ·obtain⟨iK,iT,k3,k4⟩:=smB_t o4;refine zg3 ?_;refine cp am1 (c_parts _) ?_;refine zg14 ?_;refine wl_if rfl ?_ ?_<;>intro nx nT
   ·obtain⟨jq,iZ,k7,k8⟩:=smB_t nx;have n1:=mulLt k3 k7;have n2:=mulLt k4 k8;have np:=eN a0 c0;refine zg9 ?_;refine st_pure rfl sH ?_;refine zg2 ?_;refine st_pure rfl sH ?_;refine cp am3 (c_short _ _ _ pL (by first | exact np | (simp only [iK,iT,jq,iZ];exact np)) pL) ?_;refine zg6 ?_;rw [hE];exact cy
   refine zg2 ?_;exact k6
  refine zg2 ?_;exact k6
 rintro _ ⟨age,-,rfl⟩;refine zg2 ?_;refine wl_regD 16 ah ?_;refine zg9 ?_;refine cp am2 (c_NMul _ _ (lim_dig _) (lim_dig _) J J) ?_;refine zg1 ?_;refine cp am1 (c_den _) ?_;refine zg1 ?_;refine qQ ?_;refine cp am3 (c_reduce _ _ _ (lim_dig _) (lim_dig _) nF nF) ?_;refine zg4 ?_;rw [hE];exact cy
open H_c_RMul in
theorem c_RQuo (a b:Rat) (h:rl a+rl b<=1099511627776):CallP aa 183 [ratL a,ratL b] (.tup [ratL (a/b),iL (if b=0 then 3 else 0)]):=by
 have a1:=rl_num a;have a2:=rl_den a;have a3:=rl_denN a;have c1:=rl_num b;have c2:=rl_den b;have c3:=rl_denN b;have a0:=a.den_pos;have c0:=b.den_pos;have m1:=len_mul a1 c2;have m2:=len_mul c1 a2;have m3:=len_mul a2 c2;have m4:=len_mul a1 c1;have m5:=len_mul a2 c1;have m6:=len_mul c2 a2;have hE:=qv_div (decide (a<0)) (decide (b<0)) a.num.natAbs a.den b.num.natAbs b.den;rw [qv_self,qv_self] at hE;refine fnP Tryz.func183 ?_;have iK:True:=trivial;have iT:True:=trivial;have jq:True:=trivial;have iZ:True:=trivial;refine zg12 ?_;refine cp am1 (c_RSign _ J) ?_;refine zg3 ?_;refine wl_if rfl ?_ ?_<;>intro jg gi
 ·have hz:b=0:=by
   unfold sgnR at gi;split at gi
   ·assumption
   split at gi<;>omega
  refine zg9 ?_;subst hz;rw [show a/0=0 by rw [cj];simp,ratL_zero];exact retCT [] rfl rfl rfl rfl rfl T32 (.pure rfl) rfl (.pure rfl)
 have hz:b≠0:=by rintro rfl;exact gi rfl
 have w6:0<b.num.natAbs:=ll (fun h=>hz (aev.1 J));refine zg6 ?_;refine cp am1 (c_parts _) ?_;refine zg14 ?_;refine wl_cut (fun L=>∃  (L1:St),(True)/\L=(mS L1 [(2,⟨3,[ratL a],true⟩),(3,⟨3,[ratL b],true⟩),(4,⟨3,[.agg [.v (.bool false),.list 1 [],.list 1 []]],true⟩)] [(5,iL 0),(4,.eptr 4 3 0 0),(3,.eptr 3 3 0 0),(2,.eptr 2 3 0 0)])) ?_ ?_
 ·refine wl_if rfl ?_ ?_<;>intro uC sL
  ·obtain⟨iK,iT,k3,k4⟩:=smB_t uC;refine zg3 ?_;refine cp am1 (c_parts _) ?_;refine zg14 ?_;refine wl_if rfl ?_ ?_<;>intro pg nY
   ·obtain⟨jq,iZ,k7,k8⟩:=smB_t pg;have n1:=mulLt k3 k8;have n2:=mulLt k4 k7;have np:=eN a0 w6;refine zg9 ?_;refine st_pure rfl sH ?_;refine zg2 ?_;refine st_pure rfl sH ?_;refine cp am3 (c_short _ _ _ pL (by first | exact np | (simp only [iK,iT,jq,iZ];exact np)) pL) ?_;refine zg7 ?_;rw [hE,if_neg hz];exact vi
   refine zg2 ?_;exact k6
  refine zg2 ?_;exact k6
 rintro _ ⟨aie,-,rfl⟩;refine zg2 ?_;refine wl_regD 16 ah ?_;refine zg8 ?_;refine qQ ?_;refine zg1 ?_;refine cp am1 (c_den _) ?_;refine zg2 ?_;refine cp am2 (c_NMul _ _ (lim_dig _) (lim_dig _) J J) ?_;refine cp am3 (c_reduce _ _ _ (lim_dig _) (lim_dig _) nF nF) ?_;refine zg5 ?_;rw [hE,if_neg hz];exact vi
theorem beq_ne_of {p s:Bool} (h:(p==s)=false):p≠s:=dX
namespace H_c_radd
theorem zSm {p q:Prop} (k:q) (e:p=q:=by simp only [sNF,ar,au,aq,val_dig,Nat.one_mul,Nat.mul_one,eS,eK,qx,eSc,iK,iT,jq,iZ];exact rfl):p:=e.mpr k
end H_c_radd
open H_c_radd in
theorem c_radd (a b:Rat) (s:Bool) (h:rl a+rl b<=549755813888):CallP aa 195 [ratL a,ratL b,bL s] (ratL (a+sgR s b)):=by
 have a1:=rl_num a;have a2:=rl_den a;have a3:=rl_denN a;have c1:=rl_num b;have c2:=rl_den b;have c3:=rl_denN b;have a0:=a.den_pos;have c0:=b.den_pos;have m1:=len_mul a1 c2;have m2:=len_mul c1 a2;have m3:=len_mul a2 c2;have m4:=len_mul a1 c1;have m5:=len_mul a2 c1;have m6:=len_mul c2 a2;have mm:=len_add (k:=rl a+rl b) m1 J;refine fnP Tryz.func195 ?_;have eS:True:=trivial;have eK:True:=trivial;have qx:True:=trivial;have eSc:True:=trivial;have iK:True:=trivial;have iT:True:=trivial;have jq:True:=trivial;have iZ:True:=trivial;refine zg11 ?_;refine cp am1 (c_parts _) ?_;refine zg14 ?_;refine wl_cut (fun L=>∃  (L1:St),(True)/\L=(mS L1 [(3,⟨3,[ratL a],true⟩),(4,⟨3,[ratL b],true⟩),(6,⟨3,[.agg [.v (.bool false),.list 1 [],.list 1 []]],true⟩)] [(6,.eptr 6 3 0 0),(4,.eptr 4 3 0 0),(3,.eptr 3 3 0 0),(2,bL s)])) ?_ ?_
 ·refine wl_if rfl ?_ ?_<;>intro o4 jP
  ·obtain⟨iK,iT,k3,k4⟩:=smB_t o4;refine zg3 ?_;refine cp am1 (c_parts _) ?_;refine zg14 ?_;refine wl_if rfl ?_ ?_<;>intro nx nT
   ·obtain⟨jq,iZ,k7,k8⟩:=smB_t nx;have n1:=mulLt k3 k8;have n2:=mulLt k7 k4;have n3:=mulLt k4 k8;have np:=eN a0 c0;refine zg4 ?_;refine st_pure rfl sH ?_;refine zg2 ?_;refine st_pure rfl sH ?_;refine zg5 ?_;have eS:(((a.num.natAbs*b.den:Nat):Int)+((b.num.natAbs*a.den:Nat):Int)+0) % 18446744073709551616=(((a.num.natAbs*b.den+b.num.natAbs*a.den) % 18446744073709551616:Nat):Int):=J;have eK:(((a.num.natAbs*b.den:Nat):Int)+((b.num.natAbs*a.den:Nat):Int)+0)/18446744073709551616=(((a.num.natAbs*b.den+b.num.natAbs*a.den)/18446744073709551616:Nat):Int):=J;refine zg3 ?_;refine st_pure rfl (.ext2 Tryz.func247 rfl rfl rfl rfl (vs:=[.int .u64 ((a.num.natAbs*b.den:Nat):Int),.int .u64 ((b.num.natAbs*a.den:Nat):Int),.int .u64 0]) rfl (fun w=>run_add64 _ _ _ J J J J w) rfl rfl) ?_;refine zg15 ?_;refine op_if 53 rfl ?_ ?_<;>intro ni h53
    ·refine zg6 ?_;refine wl_if rfl ?_ ?_<;>intro aiI h48
     ·refine zg7 ?_;refine cp am3 (c_short s ((a.num.natAbs*b.den+b.num.natAbs*a.den) % 18446744073709551616) (a.den*b.den) J np J) ?_;refine zg7 ?_;have iI:a.num.natAbs*b.den+b.num.natAbs*a.den<18446744073709551616:=J;rw [add_same (k:=1) (x:=a.num.natAbs*b.den) (y:=b.num.natAbs*a.den) (d:=a.den*b.den) J (dA _) (dA _) (dA _) (eq_of_beq ni),show qv s (a.num.natAbs*b.den+b.num.natAbs*a.den) (a.den*b.den)=qv s ((a.num.natAbs*b.den+b.num.natAbs*a.den) % 18446744073709551616) (a.den*b.den) by rw [cV iI]];exact cy
     refine zg7 ?_;refine st_skip aaY ?_;refine st_skip aaY ?_;refine st_skip aaY ?_;refine st_pure rfl (.pickF rfl ((by rw [ni];rfl))) ?_;refine zg13 ?_;refine wl_condY (b:=_) rfl (by rw [ni];rfl) ?_;refine zg3 ?_;exact k6
    refine zg14 ?_;refine st_pure aaW (.move _) ?_;refine st_pure aaW (.move _) ?_;refine st_pure aaW (.bin rfl rfl rfl) ?_;refine st_pure rfl (.pickT rfl ((by rw [ni];rfl))) ?_;refine zg3 ?_;refine wl_if rfl ?_ ?_<;>intro aaX ck
    ·refine zg10 ?_;refine cp am3 (c_short _ _ _ pL (by first | exact np | (simp only [iK,iT,jq,iZ];exact np)) pL) ?_;refine zg7 ?_;rw [add_ge (k:=1) (x:=a.num.natAbs*b.den) (y:=b.num.natAbs*a.den) (d:=a.den*b.den) J (dA _) (dA _) (dA _) (beq_ne_of ni) J];exact cy
    refine zg9 ?_;refine wl_condX (b:=_) rfl (by rw [ni];rfl) ?_;refine zg9 ?_;refine cp am3 (c_short _ _ _ pL (by first | exact np | (simp only [iK,iT,jq,iZ];exact np)) pL) ?_;refine zg7 ?_;rw [add_le (k:=1) (x:=a.num.natAbs*b.den) (y:=b.num.natAbs*a.den) (d:=a.den*b.den) J (dA _) (dA _) (dA _) (beq_ne_of ni) J];exact cy
   refine zg2 ?_;exact k6
  refine zg2 ?_;exact k6
 rintro _ ⟨age,-,rfl⟩;refine zg2 ?_;refine wl_regD 9 ah ?_;refine zg5 ?_;refine cp am1 (c_den _) ?_;refine zg12 ?_;refine cp am2 (c_Equal _ _ J J) ?_;refine zg3 ?_;refine wl_cut (fun L=>∃ (x:Nat) (y:Nat) (d:Nat) (L1:St),(∃ k,0<k/\x*k=a.num.natAbs*b.den/\y*k=b.num.natAbs*a.den/\d*k=a.den*b.den/\0<d/\(dig x).length<=rl a+rl b/\(dig y).length<=rl a+rl b/\(dig d).length<=rl a+rl b)/\L=(mS L1 [(3,⟨3,[ratL a],true⟩),(4,⟨3,[ratL b],true⟩),(6,⟨3,[.agg [.v (.bool false),.list 1 [],.list 1 []]],true⟩)] [(17,magL d),(16,magL y),(15,magL x),(6,.eptr 6 3 0 0),(4,.eptr 4 3 0 0),(3,.eptr 3 3 0 0),(2,bL s)])) ?_ ?_
 ·refine wl_if rfl ?_ ?_<;>intro agN agi
  ·refine wl_regD 15 ah ?_;refine zg2 ?_;refine qQ ?_;refine zg2 ?_;refine qQ ?_;refine zg2 ?_;refine qQ ?_;refine zg5 ?_;exact⟨a.num.natAbs*b.den,b.num.natAbs*a.den,a.den*b.den,_,⟨1,J,dA _,dA _,dA _,eN a0 c0,m1,J,m3⟩,aL⟩
  have hde:=denN_inj agi;refine zg2 ?_;exact⟨a.num.natAbs,b.num.natAbs,a.den,_,⟨a.den,a0,by rw [hde],rfl,by rw [hde],a0,J,J,J⟩,aL⟩
 rintro _ ⟨x,y,d,aib,⟨k,hk,hx,hy,hd,dt,lx,ly,ld⟩,rfl⟩;have lxy:=len_add lx ly;have lxs:(dig (x-y)).length<=rl a+rl b:=aw (len_dig_mono (wD _ _)) lx;have lys:(dig (y-x)).length<=rl a+rl b:=aw (len_dig_mono (wD _ _)) ly;refine zg10 ?_;refine wl_if rfl ?_ ?_<;>intro aam ag1
 ·refine zg5 ?_;refine cp am2 (c_Add _ _ (lim_dig _) (lim_dig _) J J) ?_;refine zg1 ?_;refine cp am3 (c_reduce _ _ _ (lim_dig _) (lim_dig _) nF nF) ?_;refine zg5 ?_;rw [add_same hk hx hy hd (eq_of_beq aam)];exact cy
 refine zg7 ?_;refine cp am2 (c_NSubAny _ _ J J) ?_;refine zg13 ?_;refine wl_if rfl ?_ ?_<;>intro aaq aax
 ·have hle:=subE_0.1 (show subE x y=0 by omega);have qx:=subL_le hle;refine zg6 ?_;refine cp am3 (c_reduce _ _ _ (by rw [qx];exact lim_dig _) (lim_dig _) (by rw [qx];omega) J) ?_;refine zg5 ?_;rw [add_ge hk hx hy hd (beq_ne_of aam) hle];exact cy
 have hle:x<=y:=by
  rcases aac x y with h | h
  ·exact h
  have:=subE_0.2 h;omega
 have eSc:=subL_le hle;refine zg6 ?_;refine cp am2 (c_NSubAny _ _ J J) ?_;refine zg12 ?_;refine cp am3 (c_reduce _ _ _ (lim_dig _) (lim_dig _) J J) ?_;refine zg4 ?_;rw [add_le hk hx hy hd (beq_ne_of aam) hle];exact cy
theorem cmpR_neg {a b:Rat}:cmpR b a<0↔b<a:=by unfold cmpR;split<;>(try split)<;>grind
theorem cmpR_pos {a b:Rat}:cmpR b a > 0↔a<b:=by unfold cmpR;split<;>(try split)<;>grind
open H0 in
theorem c_RAdd (a b:Rat) (h:rl a+rl b<=549755813888):CallP aa 113 [ratL a,ratL b] (ratL (a+b)):=by
 refine fnP Tryz.func113 ?_;refine zg13 ?_;refine cp am3 (c_radd _ _ _ J) ?_;refine zg4 ?_;exact retC [] rfl rfl rfl (ratE.csize _) (ratL_all _) T32 (by rw [sgR_self];exact .pure (ratE.pure _))
open H0 in
theorem c_RSub (a b:Rat) (h:rl a+rl b<=549755813888):CallP aa 184 [ratL a,ratL b] (ratL (a-b)):=by
 refine fnP Tryz.func184 ?_;refine zg14 ?_;refine cp am3 (c_radd _ _ _ J) ?_;refine zg4 ?_;rw [ado];exact retC [] rfl rfl rfl (ratE.csize _) (ratL_all _) T32 (by rw [sgR_not];exact .pure (ratE.pure _))
open H0 in
theorem c_RMin (a b:Rat) (h:rl a+rl b<=549755813888):CallP aa 140 [ratL a,ratL b] (ratL (if b<a then b else a)):=by
 refine fnP Tryz.func140 ?_;refine zg12 ?_;refine cp am2 (c_RCmp _ _ J) ?_;refine zg3 ?_;refine wl_cut (fun L=>∃ (q:Rat) (L1:St),(q=(if b<a then b else a)/\rl q<=549755813888)/\L=(mS L1 [(2,⟨3,[ratL q],true⟩),(3,⟨3,[ratL b],true⟩),(4,⟨3,[.agg [.v (.bool false),.list 1 [],.list 1 []]],true⟩)] [(4,.eptr 4 3 0 0),(2,.eptr 2 3 0 0)])) ?_ ?_
 ·refine wl_if rfl ?_ ?_<;>intro gM h8
  ·refine zg5 ?_;exact⟨b,_,⟨by rw [if_pos (cmpR_neg.1 h8)],J⟩,aL⟩
  refine zg2 ?_;exact⟨a,_,⟨by rw [if_neg (fun h=>h8 (cmpR_neg.2 h))],J⟩,aL⟩
 rintro _ ⟨q,LC8,⟨hq,ey⟩,rfl⟩;refine zg4 ?_;refine cp am1 (c_copied _ J) ?_;refine zg4 ?_;rw [<-hq];exact cy
open H0 in
theorem c_RMax (a b:Rat) (h:rl a+rl b<=549755813888):CallP aa 141 [ratL a,ratL b] (ratL (if a<b then b else a)):=by
 refine fnP Tryz.func141 ?_;refine zg12 ?_;refine cp am2 (c_RCmp _ _ J) ?_;refine zg3 ?_;refine wl_cut (fun L=>∃ (q:Rat) (L1:St),(q=(if a<b then b else a)/\rl q<=549755813888)/\L=(mS L1 [(2,⟨3,[ratL q],true⟩),(3,⟨3,[ratL b],true⟩),(4,⟨3,[.agg [.v (.bool false),.list 1 [],.list 1 []]],true⟩)] [(4,.eptr 4 3 0 0),(2,.eptr 2 3 0 0)])) ?_ ?_
 ·refine wl_if rfl ?_ ?_<;>intro gM h8
  ·refine zg5 ?_;exact⟨b,_,⟨by rw [if_pos (cmpR_pos.1 h8)],J⟩,aL⟩
  refine zg2 ?_;exact⟨a,_,⟨by rw [if_neg (fun h=>h8 (cmpR_pos.2 h))],J⟩,aL⟩
 rintro _ ⟨q,LC8,⟨hq,ey⟩,rfl⟩;refine zg4 ?_;refine cp am1 (c_copied _ J) ?_;refine zg4 ?_;rw [<-hq];exact cy
theorem dig_of {o:List Nat} {N:Nat} (hL:Lim o) (hv:val o=N) (h:o.length=0\/4294967296 ^ (o.length-1)<=N):o=dig N:=by
 have h1:(dig N).length<=o.length:=by rw [<-hv];exact len_trim_le hL
 have h2:o.length<=(dig N).length:=by
  rcases h with h | h
  ·omega
  rcases cu (dig N).length o.length with aG | fe
  ·have:=dig_length_ge (n:=N) (k:=o.length-1) J;omega
  exact fe
 have e1:=padL_eq hL rfl;have e2:=padL_eq (lim_dig N) rfl;rw [e1,e2,val_dig,hv];congr 1;omega
theorem dig_is2 {m:Nat} (h:(dig m).length=2):m=(dig m).getD 1 0*4294967296+(dig m).getD 0 0:=by
 have e:=val_dig m;generalize dig m=l at h e
 match l,h with
 | [x,y],_=>rw [val_two] at e;simp;omega
theorem orC {a b:Nat} (hb:b<4294967296) (hx:a<4294967296):binI .or .u64 (b:Nat) ((a*4294967296:Nat):Int)=some (.int .u64 ((a*4294967296+b:Nat):Int)):=orV (s:=32) hb J
theorem tz0:(0:Int).toNat=0:=rfl
theorem tz1:(1:Int).toNat=1:=rfl
theorem take_map_len {α β:Type} (f:α->β) (o:List α):(o.map f).take o.length=o.map f:=by rw [aH aj]
theorem map_snoc {α β:Type} (f:α->β) (o:List α) (x:α):o.map f++[f x]=(o++[x]).map f:=aj
theorem len_snoc {α:Type} (o:List α) (x:α):(o++[x]).length=o.length+1:=aj
theorem bA:type_of% (aF (@take_map_len) (aF (@map_snoc) (@len_snoc))):=aF (@take_map_len) (aF (@map_snoc) (@len_snoc))
theorem val_snoc (o:List Nat) (x:Nat):val (o++[x])=val o+4294967296 ^ o.length*x:=by rw [val_append];simp [val]
theorem lim_snoc {o:List Nat} (h:Lim o) {x:Nat} (hx:x<4294967296):Lim (o++[x]):=lim_append h (fun y hy=>by simp at hy;omega)
section
variable {m n c s:Nat} {o:List Nat}
theorem fadd_inv (hv:val o+4294967296 ^ o.length*c=val ((dig m).take o.length)+val ((dig n).take o.length)) (hs:s=c+(dig m).getD o.length 0+(dig n).getD o.length 0) :
  val (o++[s % 4294967296])+4294967296 ^ (o.length+1)*(s/4294967296)=val ((dig m).take (o.length+1))+val ((dig n).take (o.length+1)):=by
 rw [val_snoc,val_take_succ',val_take_succ',dz];have h1:=carry_step (4294967296 ^ o.length) s;have h2:4294967296 ^ o.length*s=4294967296 ^ o.length*c+4294967296 ^ o.length*(dig m).getD o.length 0+4294967296 ^ o.length*(dig n).getD o.length 0:=by rw [hs,bm,bm]
 omega
theorem take_all {m k:Nat} (h:(dig m).length<=k):val ((dig m).take k)=m:=by rw [aH h,val_dig]
theorem fadd_ge (hv:val o+4294967296 ^ o.length*c=val ((dig m).take o.length)+val ((dig n).take o.length)) (aP:o.length<=max (dig m).length (dig n).length\/(o.length=max (dig m).length (dig n).length+1/\c=0))
  (hg:o.length<max (dig m).length (dig n).length\/c≠0):o.length+1=max (dig m).length (dig n).length+1->4294967296 ^ (o.length+1-1)<=m+n:=by
 intro h;rw [take_all J,take_all J] at hv;have:4294967296 ^ o.length*1<=4294967296 ^ o.length*c:=fx _ J;rw [df];omega
theorem len_pow {m:Nat} (h:0<(dig m).length):4294967296 ^ ((dig m).length-1)<=m:=by
 rcases cu m (4294967296 ^ ((dig m).length-1)) with h1 | h1
 ·have:=dig_length_le h1;omega
 exact h1
theorem fadd_len (hc:c<=1) (aP:o.length<=max (dig m).length (dig n).length\/(o.length=max (dig m).length (dig n).length+1/\c=0)) (hg:o.length<max (dig m).length (dig n).length\/c≠0)
  (hs:s=c+(dig m).getD o.length 0+(dig n).getD o.length 0):o.length+1<=max (dig m).length (dig n).length\/(o.length+1=max (dig m).length (dig n).length+1/\s/4294967296=0):=by
 by_cases h:o.length<max (dig m).length (dig n).length
 ·exact gR
 rw [getD_ge (dig m) _ J,getD_ge (dig n) _ J] at hs;exact .inr ⟨J,J⟩
theorem fadd_end (hc:c<=1) (aC:Lim o) (aP:o.length<=max (dig m).length (dig n).length\/(o.length=max (dig m).length (dig n).length+1/\c=0)) (hv:val o+4294967296 ^ o.length*c=val ((dig m).take o.length)+val ((dig n).take o.length))
  (fe:o.length=max (dig m).length (dig n).length+1->4294967296 ^ (o.length-1)<=m+n) (hg:¬ (o.length<max (dig m).length (dig n).length\/c≠0)):dig (m+n)=o:=by
 rw [take_all J,take_all J,show c=0 by omega] at hv;refine(dig_of aC J ?_).symm;by_cases h0:o.length=0
 ·exact .inl h0
 refine .inr ?_;rcases aP with h | h
 ·rcases aac (dig m).length (dig n).length with hh | hh
  ·have:=len_pow (m:=n) J;rw [show o.length=(dig n).length by omega];omega
  have:=len_pow (m:=m) J;rw [show o.length=(dig m).length by omega];omega
 exact fe h.1
end
theorem sub_invF {k br y2 nE x:Nat} {a b o:List Nat} (aP:k<o.length) (aC:Lim o) (fW:br<=1) (rL:a.getD k 0<4294967296) (ot:b.getD k 0<4294967296) (hv:val (o.take k)+val (b.take k)=val (a.take k)+4294967296 ^ k*br) (hx:x=br+b.getD k 0)
  (h:(a.getD k 0<x/\y2=a.getD k 0+4294967296/\nE=1)\/(x<=a.getD k 0/\y2=a.getD k 0/\nE=0)) :
  x<=y2/\nE<=1/\Lim (o.set k ((y2-x) % 4294967296))/\val ((o.set k ((y2-x) % 4294967296)).take (k+1))+val (b.take (k+1))=val (a.take (k+1))+4294967296 ^ (k+1)*nE:=by
 rcases h with⟨h1,rfl,rfl⟩ | ⟨h1,rfl,rfl⟩
 ·refine⟨J,J,lim_set aC _ _ J,?_⟩;rw [show (a.getD k 0+4294967296-x) % 4294967296=4294967296+a.getD k 0-x by omega];exact sub_inv1 aP hv hx h1 J
 refine⟨J,J,lim_set aC _ _ J,?_⟩;rw [cV (by omega:a.getD k 0-x<4294967296)];exact sub_inv0 aP hv hx h1
namespace H_c_FTrim
theorem zSm {p q:Prop} (k:q) (e:p=q:=by simp only [sNF,ar,au,aq,ej,ek,dflt,List.take_zero,aZ,aR,kills_map u32E,LV.kill];exact rfl):p:=e.mpr k
end H_c_FTrim
open H_c_FTrim in
theorem c_FTrim (l:List Nat) (h:Lim l) (hl:l.length<=4398046511104):CallP aa 176 [limL l] (magL (val l)):=by
 unfold limL magL;rw [<-trimL_dig h];unfold trimL;refine fnP Tryz.func176 ?_;have ej:True:=trivial;have ek:True:=trivial;refine zg14 ?_;refine lp1 (fun(k:Nat) L=>(mS L [] [(3,nI64 k),(0,.list 1 (l.map u32L))])) (fun k=>k<=l.length/\trimN l.length l=trimN k l) (fun k=>k) l.length ⟨an _,rfl⟩ ?_;rintro k L1 ⟨hk,mG⟩;refine zg6 ?_;refine op_if 8 rfl ?_ ?_<;>intro gM h8
 ·obtain⟨j,rfl⟩:∃ j,k=j+1:=⟨k-1,J⟩;have ej:(((j+1:Nat):Int)-1).toNat=j:=J;have ek:(((j+1:Nat):Int)-1)=j:=J;refine zg9 ?_;refine wl_if rfl ?_ ?_<;>intro il fc
  ·refine zg10 ?_;exact nx1 j ⟨J,mG.trans (by simp only [trimN];rw [if_pos (by simpa using fc)])⟩
  refine zg10 ?_;refine st_pure rfl tq ?_;refine st_store rfl ach ?_;refine zg4 ?_;rw [mG,trimN,if_neg (show ¬ l.getD j 0=0 by omega)];exact ret1f [22] rfl rfl (imm_refm u32E rfl rfl rfl)
 have ew:k=0:=J;subst ew;refine zg20 ?_;refine st_pure rfl tq ?_;refine st_store rfl ach ?_;refine zg4 ?_;rw [mG,show trimN 0 l=0 from rfl];exact ret1f [22] rfl rfl (imm_refm u32E rfl rfl rfl)
open H0 in
theorem c_FOf (n:Nat) (hn:n<18446744073709551616):CallP aa 130 [nU64 n] (magL n):=by
 have hL:Lim [n % 4294967296,n/4294967296 % 4294967296]:=by
  intro x hx;simp at hx;omega
 have hV:val [n % 4294967296,n/4294967296 % 4294967296]=n:=by rw [val_two];omega
 refine fnP Tryz.func130 ?_;refine zg13 ?_;refine cpf [8] fm1 (c_FTrim _ cM ko) ?_;refine zg4 ?_;exact ret1 rfl (by rw [hV];exact .pure (magL_pure _))
namespace H_c_Fsmall
theorem zSm {p q:Prop} (k:q) (e:p=q:=by simp only [sNF,ar,au,aq,dflt,tz0,tz1];exact rfl):p:=e.mpr k
end H_c_Fsmall
open H_c_Fsmall in
theorem c_Fsmall (m:Nat) (hl:(dig m).length<=1099511627776):CallP aa 234 [magL m] (.tup [nU64 (if m<18446744073709551616 then m else 0),bL (decide (m<18446744073709551616))]):=by
 have dt:=getD_dig_lt m 0;have dV:=getD_dig_lt m 1;refine fnP Tryz.func234 ?_;refine zg20 ?_;refine wl_if rfl ?_ ?_<;>intro nW h6
 ·have hm:m=0:=dig_eq_nil.1 (jB J);refine zg9 ?_;subst hm;exact ret2 rfl (.pure rfl) rfl (.pure rfl)
 refine zg6 ?_;refine wl_if rfl ?_ ?_<;>intro gM h8
 ·have hm:=dig_is1 (n:=m) J;have cL:=dig_len_le1.1 (show (dig m).length<=1 by omega);refine zg13 ?_;rw [if_pos J,decide_eq_true J];refine ret2 (x:=nU64 ((dig m).getD 0 0)) rfl ?_ rfl (.pure rfl);rw [hm.1];exact .pure rfl
 refine zg6 ?_;refine wl_if rfl ?_ ?_<;>intro jg gi
 ·have h2v:m=(dig m).getD 1 0*4294967296+(dig m).getD 0 0:=dig_is2 J;have cL:=dig_len_le2.1 (show (dig m).length<=2 by omega);refine zg1 ?_;refine wl_regD 12 ah ?_;refine zg8 ?_;refine st_pure rfl (.sh rfl rfl (shl32 (by simp only [dflt,tz0,tz1];omega))) ?_;refine st_pure rfl (.bin rfl rfl (orC (by simp only [dflt,tz0,tz1];omega) (by simp only [dflt,tz0,tz1];omega))) ?_;refine zg7 ?_;rw [if_pos cL,decide_eq_true cL];refine ret2 (x:=nU64 ((dig m).getD 1 0*4294967296+(dig m).getD 0 0)) rfl ?_ rfl (.pure rfl);rw [<-h2v];exact .pure rfl
 have cL:¬ m<18446744073709551616:=fun h=>by have:=dig_len_le2.2 h;omega
 refine zg10 ?_;rw [if_neg cL,decide_eq_false cL];exact ret2 rfl (.pure rfl) rfl (.pure rfl)
open H_c_word in
theorem c_FCmp (m n:Nat) (cr:(dig m).length<=1099511627776) (ff:(dig n).length<=1099511627776):CallP aa 45 [magL m,magL n] (iL (cmpN m n)):=by
 refine fnP Tryz.func45 ?_;have ej:True:=trivial;have ek:True:=trivial;refine zg15 ?_;refine wl_if rfl ?_ ?_<;>intro fB iN
 ·refine zg10 ?_;refine wl_if rfl ?_ ?_<;>intro il fc
  ·have hE:=lt_of_len (m:=m) (n:=n) J;refine zg8 ?_
   first | (rw [cmpN_lt hE];exact ret1 rfl (.pure rfl)) | (rw [cmpN_gt hE];exact ret1 rfl (.pure rfl)) | (rw [cmpN_eq hE];exact ret1 rfl (.pure rfl))
  have hE:=lt_of_len (m:=n) (n:=m) J;refine zg9 ?_
  first | (rw [cmpN_lt hE];exact ret1 rfl (.pure rfl)) | (rw [cmpN_gt hE];exact ret1 rfl (.pure rfl)) | (rw [cmpN_eq hE];exact ret1 rfl (.pure rfl))
 have hlen:(dig m).length=(dig n).length:=J;clear iN fB;refine zg12 ?_;refine lp1 (fun(k:Nat) L=>(mS L [] [(5,iL ((k:Int)-1)),(1,magL n),(0,magL m)])) (fun k=>k<=(dig m).length/\(dig m).drop k=(dig n).drop k) (fun k=>k) ((dig m).length) ⟨an _,by rw [uk,ep J]⟩ ?_;rintro k L1 ⟨hk,hd⟩;refine zg7 ?_;refine wl_if rfl ?_ ?_<;>intro py oA
 ·obtain⟨j,rfl⟩:∃ j,k=j+1:=⟨k-1,J⟩;have ej:(((j+1:Nat):Int)-1).toNat=j:=J;have ek:(((j+1:Nat):Int)-1)=j:=J;refine zg6 ?_;refine wl_regD 9 ah ?_;refine zg11 ?_;refine wl_if rfl ?_ ?_<;>intro aaA yD
  ·have hE:=val_lt_of_limb (lim_dig m) (k:=j) J J hd J;rw [val_dig,val_dig] at hE;refine zg12 ?_
   first | (rw [cmpN_lt hE];exact ret1 rfl (.pure rfl)) | (rw [cmpN_gt hE];exact ret1 rfl (.pure rfl)) | (rw [cmpN_eq hE];exact ret1 rfl (.pure rfl))
  refine zg3 ?_;refine wl_regD 9 ah ?_;refine zg11 ?_;refine wl_if rfl ?_ ?_<;>intro xK lD
  ·have hE:=val_lt_of_limb (lim_dig n) (k:=j) J J hd.symm J;rw [val_dig,val_dig] at hE;refine zg11 ?_
   first | (rw [cmpN_lt hE];exact ret1 rfl (.pure rfl)) | (rw [cmpN_gt hE];exact ret1 rfl (.pure rfl)) | (rw [cmpN_eq hE];exact ret1 rfl (.pure rfl))
  refine zg9 ?_;exact nx1 j ⟨J,drop_eq_of J J hd J⟩
 obtain rfl:k=0:=J;rw [dY,dY] at hd;have hE:m=n:=by have:=congrArg val hd;rwa [val_dig,val_dig] at this
 refine zg11 ?_
 first | (rw [cmpN_lt hE];exact ret1 rfl (.pure rfl)) | (rw [cmpN_gt hE];exact ret1 rfl (.pure rfl)) | (rw [cmpN_eq hE];exact ret1 rfl (.pure rfl))
namespace H_c_FAdd
theorem zSm {p q:Prop} (k:q) (e:p=q:=by simp only [sNF,ar,au,aq,dflt,List.take_zero,aZ,aR,kills_map u32E,LV.kill,bA,aQ,bc];exact rfl):p:=e.mpr k
end H_c_FAdd
open H_c_FAdd in
theorem c_FAdd (m n:Nat) (cr:(dig m).length<=1099511627776) (ff:(dig n).length<=1099511627776):CallP aa 99 [magL m,magL n] (magL (m+n)):=by
 refine fnP Tryz.func99 ?_;refine zg22 ?_;refine wl_weak (Weak.own (t:=5) 50 1 rfl rfl) ?_;refine lp2 (fun(o:List Nat) (c:Nat) L=>(mS L [(50,⟨1,o.map u32L,true⟩)] [(7,nI64 o.length),(6,nU64 c),(5,.ref 50 1 0 o.length),(1,magL n),(0,magL m)])) (fun o c=>c<=1/\Lim o/\(o.length<=max (dig m).length (dig n).length\/(o.length=max (dig m).length (dig n).length+1/\c=0))/\val o+4294967296 ^ o.length*c=val ((dig m).take o.length)+val ((dig n).take o.length)/\(o.length=max (dig m).length (dig n).length+1->4294967296 ^ (o.length-1)<=m+n)) (fun o c=>max (dig m).length (dig n).length+2-o.length) ([]) 0 ⟨J,(by intro x hx;cases hx),.inl (az _),by simp [val],by simp⟩ ?_;rintro o c L1 ⟨hc,aC,aP,hv,fe⟩;have kL:=getD_dig_lt m o.length;have uT:=getD_dig_lt n o.length;refine zg2 ?_;refine wl_cut (fun L=>∃ (t:Bool) (L1:St),(t=decide (o.length<max (dig m).length (dig n).length\/c≠0))/\L=(mS L1 [(50,⟨1,o.map u32L,true⟩)] [(21,bL t),(7,nI64 o.length),(6,nU64 c),(5,.ref 50 1 0 o.length),(1,magL n),(0,magL m)])) ?_ ?_
 ·refine zg6 ?_;refine op_if 12 rfl ?_ ?_<;>intro vv wI
  ·refine zg11 ?_;exact⟨true,_,by symm;rw [decide_eq_true_iff];omega,aL⟩
  refine zg6 ?_;refine op_if 18 rfl ?_ ?_<;>intro jU kg
  ·refine zg5 ?_;exact⟨true,_,by symm;rw [decide_eq_true_iff];omega,aL⟩
  refine zg5 ?_;exact⟨((c:Int) != 0),_,by rw [um,bne_iff_ne,decide_eq_true_iff];omega,aL⟩
 rintro _ ⟨t,LR4,ht,rfl⟩;refine zg1 ?_;refine wl_if rfl ?_ ?_<;>intro pX x5
 ·rw [ht,decide_eq_true_iff] at pX;have hg:=pX;refine zg13 ?_;refine wl_cut (fun L=>∃ (s1:Nat) (L1:St),(s1=c+(dig m).getD o.length 0)/\L=(mS L1 [(50,⟨1,o.map u32L,true⟩)] [(7,nI64 o.length),(6,nU64 s1),(5,.ref 50 1 0 o.length),(1,magL n),(0,magL m)])) ?_ ?_
  ·refine wl_if rfl ?_ ?_<;>intro rY th
   ·refine zg11 ?_;exact⟨c+(dig m).getD o.length 0,_,rfl,aL⟩
   refine zg2 ?_;exact⟨c,_,by rw [getD_ge (dig m) o.length J];rfl,aL⟩
  rintro _ ⟨s1,afe,dj,rfl⟩;refine zg10 ?_;refine wl_cut (fun L=>∃ (s:Nat) (L1:St),(s=c+(dig m).getD o.length 0+(dig n).getD o.length 0)/\L=(mS L1 [(50,⟨1,o.map u32L,true⟩)] [(7,nI64 o.length),(6,nU64 s),(5,.ref 50 1 0 o.length),(1,magL n),(0,magL m)])) ?_ ?_
  ·refine wl_if rfl ?_ ?_<;>intro acg wJ
   ·refine zg11 ?_;exact⟨s1+(dig n).getD o.length 0,_,by rw [dj],aL⟩
   refine zg2 ?_;exact⟨s1,_,by rw [dj,getD_ge (dig n) o.length J];rfl,aL⟩
  rintro _ ⟨s,agz,hs,rfl⟩;refine zg7 ?_;refine st_store rfl (.app (news:=[u32L (s % 4294967296)]) rfl rfl rfl rfl rfl aj (.inl rfl) ae gS gS Z179 T179 rfl B179 (.inl ⟨49,0,_,rfl,by decide,rfl,rfl,by simp,rfl,rfl⟩) al al ae) ?_;refine zg3 ?_;refine wl_regW (Weak.kill _ 49) ?_;refine zg12 ?_;exact nx2 (o++[s % 4294967296]) (s/4294967296) ⟨J,lim_snoc aC J,by rw [len_snoc];exact fadd_len hc aP hg hs,by rw [len_snoc];exact fadd_inv hv hs,by rw [len_snoc];exact fadd_ge hv aP hg⟩ (hm:=by rw [len_snoc];omega)
 rw [ht,decide_eq_false_iff_not] at pX;have hN:=fadd_end hc aC aP hv fe pX;refine zg12 ?_
 skip
 exact ret1f [50] rfl rfl (by rw [show magL (m+n)=.list 1 (o.map u32L) by rw [<-hN];rfl];exact imm_refm u32E rfl rfl rfl)
open H_c_Add in
theorem c_Fminus (m n:Nat) (cr:(dig m).length<=1099511627776) (ff:(dig n).length<=1099511627776) (hle:n<=m):CallP aa 179 [magL m,magL n] (magL (m-n)):=by
 have gQ:=len_dig_mono hle;refine fnP Tryz.func179 ?_;refine zg9 ?_;refine st_alloc rfl rfl (.mkE (n:=(dig m).length) (m:=(dig m).length) ml ml om om om) ?_;refine zg15 ?_;refine lp3 (fun(k:Nat) (o:List Nat) (br:Nat) L=>(mS L [(12,⟨1,o.map u32L,true⟩)] [(7,nI64 k),(6,nU64 br),(5,.ref 12 1 0 (dig m).length),(1,magL n),(0,magL m)])) (fun k o br=>k<=(dig m).length/\o.length=(dig m).length/\br<=1/\Lim o/\val (o.take k)+val ((dig n).take k)=val ((dig m).take k)+4294967296 ^ k*br) (fun k o br=>(dig m).length-k) 0 (ai (dig m).length 0) 0 ⟨az _,by simp,J,lim_zeros _,by simp [val]⟩ ?_;rintro k o br L1 ⟨hk,aP,fW,aC,hv⟩;have kL:=getD_dig_lt m k;have uT:=getD_dig_lt n k;refine zg9 ?_;refine wl_if rfl ?_ ?_<;>intro mQ ks
 ·refine zg19 ?_;refine wl_cut (fun L=>∃ (x:Nat) (L1:St),(x=br+(dig n).getD k 0)/\L=(mS L1 [(12,⟨1,o.map u32L,true⟩)] [(8,nU64 x),(7,nI64 k),(6,nU64 br),(5,.ref 12 1 0 (dig m).length),(1,magL n),(0,magL m)])) ?_ ?_
  ·refine wl_if rfl ?_ ?_<;>intro lC kt
   ·refine zg11 ?_;exact⟨br+(dig n).getD k 0,_,rfl,aL⟩
   refine zg2 ?_;exact⟨br,_,by rw [getD_ge _ k J];rfl,aL⟩
  rintro _ ⟨x,ahq,hx,rfl⟩;refine zg24 ?_;refine wl_cut (fun L=>∃ (y2:Nat) (nE:Nat) (L1:St),(((dig m).getD k 0<x/\y2=(dig m).getD k 0+4294967296/\nE=1)\/(x<=(dig m).getD k 0/\y2=(dig m).getD k 0/\nE=0))/\L=(mS L1 [(12,⟨1,o.map u32L,true⟩)] [(9,nU64 y2),(8,nU64 x),(7,nI64 k),(6,nU64 nE),(5,.ref 12 1 0 (dig m).length),(1,magL n),(0,magL m)])) ?_ ?_
  ·refine wl_if rfl ?_ ?_<;>intro acg wJ
   ·refine zg11 ?_;exact⟨(dig m).getD k 0+4294967296,1,_,.inl ⟨J,rfl,rfl⟩,aL⟩
   refine zg2 ?_;exact⟨(dig m).getD k 0,0,_,.inr ⟨J,rfl,rfl⟩,aL⟩
  rintro _ ⟨y2,nE,agz,hf,rfl⟩;obtain⟨nA,gD,lf,tV⟩:=sub_invF J aC fW kL uT hv hx hf;refine zg19 ?_;exact nx3 (k+1) (o.set k ((y2-x) % 4294967296)) nE ⟨J,by simp [aP],gD,lf,tV⟩
 obtain rfl:k=(dig m).length:=J;refine zg8 ?_;refine cpf [12] fm1 (c_FTrim _ cM ko) ?_;refine zg4 ?_;have e:=sub_end (lim_dig m) aC aP gQ (by rw [val_dig,val_dig];exact hle) hv;rw [trimL_dig aC,val_dig,val_dig] at e;have e2:=congrArg val e;rw [val_dig,val_dig] at e2;rw [<-e2];exact bf
open H0 in
theorem c_FSub (m n:Nat) (cr:(dig m).length<=1099511627776) (ff:(dig n).length<=1099511627776):CallP aa 100 [magL m,magL n] (.tup [limL (subL m n),iL (subE m n)]):=by
 refine fnP Tryz.func100 ?_;refine zg11 ?_;refine cp am2 (c_FCmp _ _ J J) ?_;refine zg3 ?_;refine wl_if rfl ?_ ?_<;>intro pz h9
 ·have aG:m<n:=by unfold cmpN at h9;split at h9;assumption;split at h9<;>omega
  refine zg8 ?_;rw [subL,if_pos aG,subE,if_pos aG];exact ret2 rfl (.nil 1) rfl (.pure rfl)
 have hle:n<=m:=by
  rcases cu m n with h | h
  ·rw [cmpN_lt h] at h9;omega
  exact h
 refine zg6 ?_;refine cp am2 (c_Fminus _ _ J J J) ?_;refine zg5 ?_;rw [subL_le hle,subE_0.2 hle];exact ret2 rfl (.pure (magL_pure _)) rfl (.pure rfl)
theorem blen_half {x:Nat} (h:0<x):blen x=blen (x/2 ^ 1)+1:=by
 have:=blen_div (n:=x) (k:=1);rcases cu x 2 with h1 | h1
 ·obtain rfl:x=1:=J;rfl
 rw [this J];omega
open H_c_NMul in
theorem c_FMul (m n:Nat) (cr:(dig m).length<=1099511627776) (ff:(dig n).length<=1099511627776):CallP aa 96 [magL m,magL n] (magL (m*n)):=by
 refine fnP Tryz.func96 ?_;have eu:True:=trivial;refine zg12 ?_;refine st_alloc rfl rfl (.mkE (n:=(dig m).length+(dig n).length) (m:=(dig m).length+(dig n).length) ml ml om om om) ?_;refine zg10 ?_;refine lp2 (fun(i:Nat) (o:List Nat) L=>(mS L [(14,⟨1,o.map u32L,true⟩)] [(6,nI64 i),(5,.ref 14 1 0 ((dig m).length+(dig n).length)),(1,magL n),(0,magL m)])) (fun i o=>i<=(dig m).length/\o.length=(dig m).length+(dig n).length/\Lim o/\val o=val ((dig m).take i)*val (dig n)/\∀ p,i+(dig n).length<=p->o.getD p 0=0) (fun i o=>(dig m).length-i) 0 (ai ((dig m).length+(dig n).length) 0) ⟨az _,by simp,lim_zeros _,by simp [val,val_zeros],fun p _=>getD_zeros _ _⟩ ?_;rintro i o L1 ⟨hi,aP,aC,hv,hz⟩;have oV:=getD_dig_lt m i;refine zg9 ?_;refine wl_if rfl ?_ ?_<;>intro jU kg
 ·refine zg16 ?_;refine lp3 (fun(j:Nat) (o:List Nat) (c:Nat) L=>(mS L [(14,⟨1,o.map u32L,true⟩)] [(8,nI64 j),(7,nU64 c),(6,nI64 i),(5,.ref 14 1 0 ((dig m).length+(dig n).length)),(1,magL n),(0,magL m)])) (fun j o c=>j<=(dig n).length/\o.length=(dig m).length+(dig n).length/\Lim o/\c<4294967296/\val o+4294967296 ^ (i+j)*c=val ((dig m).take i)*val (dig n)+4294967296 ^ i*((dig m).getD i 0*val ((dig n).take j))/\∀ p,i+(dig n).length<=p->o.getD p 0=0) (fun j o c=>(dig n).length-j) 0 o 0 ⟨az _,aP,aC,J,by rw [hv];simp [val],hz⟩ ?_;rintro j o c L2 ⟨hj,aP,aC,hc,hv,hz⟩;have zP:=getD_dig_lt n j;have zx:=getD_lim aC (i+j);have hs:=mul_s_lt hc oV zP zx;have eu:((i:Int)+(j:Int)).toNat=i+j:=J;refine zg9 ?_;refine wl_if rfl ?_ ?_<;>intro nm oC
  ·refine zg5 ?_;refine wl_regD 22 ah ?_;refine zg49 ?_;exact nx3 (j+1) (o.set (i+j) ((c+((dig m).getD i 0*(dig n).getD j 0+o.getD (i+j) 0)) % 4294967296)) ((c+((dig m).getD i 0*(dig n).getD j 0+o.getD (i+j) 0))/4294967296) ⟨J,by simp [aP],lim_set aC _ _ (dO _ J),J,mul_inv J hv rfl,zeros_set J hz⟩
  obtain rfl:j=(dig n).length:=J;have afh:((i:Int)+((dig n).length:Int)).toNat=i+(dig n).length:=J;refine zg24 ?_;exact nx2 (i+1) (o.set (i+(dig n).length) (c % 4294967296)) ⟨J,by simp [aP],lim_set aC _ _ (dO _ J),by rw [cV hc];exact mul_row J J (hz _ (an _)) rfl rfl hv,zeros_end hz⟩
 obtain rfl:i=(dig m).length:=J;refine zg8 ?_;refine cpf [14] fm1 (c_FTrim _ cM ko) ?_;refine zg4 ?_;rw [eZ,val_dig,val_dig] at hv;rw [<-hv];exact bf
open H0 in
theorem c_Ftimes (m d:Nat) (cr:(dig m).length<=549755813888) (hd:d<4294967296):CallP aa 239 [magL m,nU32 d] (magL (m*d)):=by
 have hld:(dig d).length<=1:=dig_len_le1.2 hd;refine fnP Tryz.func239 ?_;refine zg10 ?_;refine cp am1 (c_FOf _ J) ?_;refine cp am2 (c_FMul _ _ J J) ?_;refine zg4 ?_;exact bf
open H_c_word in
theorem c_FbyLimb (m d:Nat) (cr:(dig m).length<=1099511627776) (dt:0<d) (hd:d<4294967296):CallP aa 235 [magL m,nU32 d] (.tup [magL (m/d),nU32 (m % d)]):=by
 refine fnP Tryz.func235 ?_;have ej:True:=trivial;have ek:True:=trivial;refine zg10 ?_;refine st_alloc rfl rfl (.mkE (n:=(dig m).length) (m:=(dig m).length) ml ml om om om) ?_;refine zg18 ?_;refine lp3 (fun(k:Nat) (q:List Nat) (r:Nat) L=>(mS L [(11,⟨1,q.map u32L,true⟩)] [(8,iL ((k:Int)-1)),(7,nU64 r),(6,.ref 11 1 0 (dig m).length),(1,nU32 d),(0,magL m)])) (fun k q r=>k<=(dig m).length/\q.length=(dig m).length/\Lim q/\r<d/\val (q.drop k)*d+r=val ((dig m).drop k)) (fun k q r=>k) ((dig m).length) (ai (dig m).length 0) 0 ⟨an _,by simp,lim_zeros _,dt,by simp [val]⟩ ?_;rintro k q r L1 ⟨hk,ey,gh,hr,hv⟩;refine zg7 ?_;refine wl_if rfl ?_ ?_<;>intro mQ ks
 ·obtain⟨j,rfl⟩:∃ j,k=j+1:=⟨k-1,J⟩;have ej:(((j+1:Nat):Int)-1).toNat=j:=J;have ek:(((j+1:Nat):Int)-1)=j:=J;have hxj:=getD_dig_lt m j;refine zg24 ?_;refine st_pure rfl uj ?_;refine zg20 ?_;exact nx3 j (q.set j ((r*4294967296+(dig m).getD j 0)/d % 4294967296)) ((r*4294967296+(dig m).getD j 0) % d) ⟨J,by simp [ey],lim_set gh _ _ (dO _ J),dO _ dt,by rw [cV (small_lt hr hxj)];exact small_inv J ey hv rfl⟩
 obtain rfl:k=0:=J;refine zg8 ?_;refine cpf [11] fm1 (c_FTrim _ cM ko) ?_;refine zg7 ?_;obtain⟨E1,E2⟩:=small_end dt hr gh hv;rw [trimL_dig gh] at E1;have E3:=congrArg val E1;rw [val_dig,val_dig,val_dig] at E3;rw [val_dig] at E2;rw [<-E3,<-E2];have E4:r % 4294967296=r:=cV J;refine ret2 rfl (.pure (magL_pure _)) rfl ?_;show Imm _ (nU32 (r % 4294967296)) (nU32 r);rw [E4];exact .pure rfl
open H_c_NValid in
theorem c_FBits (m:Nat) (cr:(dig m).length<=1099511627776):CallP aa 236 [magL m] (iL (blen m)):=by
 refine fnP Tryz.func236 ?_;have ej:True:=trivial;refine zg13 ?_;refine wl_if rfl ?_ ?_<;>intro zo h7
 ·have hz:m=0:=dig_eq_nil.1 (jB J);subst hz;refine zg7 ?_;exact bf
 have gC:0<(dig m).length:=J;have ej:(((dig m).length:Int)-1).toNat=(dig m).length-1:=J;have hz:=blen_dig gC;have rF:=getD_dig_lt m ((dig m).length-1);have aaM:blen ((dig m).getD ((dig m).length-1) 0)<=32:=blen_le.2 rF;refine zg24 ?_;refine lp2 (fun(x q:Nat) L=>(mS L [] [(4,nU32 x),(3,nI64 q)])) (fun x q=>q+blen x=blen m/\x<4294967296/\blen m<=35184372088832) (fun x q=>x) ((dig m).getD ((dig m).length-1) 0) (32*((dig m).length-1)) ⟨hz,rF,J⟩ ?_;rintro x q L1 ⟨hq,hx,hbm⟩;refine zg7 ?_;refine wl_if rfl ?_ ?_<;>intro wP xU
 ·have lq:0<x:=J;refine zg13 ?_;refine st_pure rfl (.sh rfl rfl (shrC (m:=1) ae)) ?_;refine zg3 ?_;exact nx2 (x/2 ^ 1) (q+1) ⟨by have:=blen_half lq;omega,J,hbm⟩
 obtain rfl:x=0:=J;have bC:blen 0=0:=rfl;obtain rfl:q=blen m:=J;refine zg12 ?_;exact bf
end Go.Proofs.YtlipjipfpkbppaaGreat
namespace Go.Lg
open Go.Proofs.YtlipjipfpkbppaaGreat in
theorem Weak.mv {L:St} {t b sz off len:Nat} {blk:Blk} (d:Nat) (bC:b≠0) (dt:d≠0) (cm:b≠d) (h:L.slot t=.ref b sz off len) (hb:L.heap b=some blk) (hd:L.heap d=none) :
  Weak L (((L.kill b).setB d (some ⟨blk.sz,kills b blk.vals,blk.mt⟩)).put (some t) (.ref d sz off len)):=by
 rintro n W X Z0 a w ⟨bj,hsz,μ,Z,hc,hr⟩;have vN:=mu_none hc hd;have hk:=hc.kill b bC;have lA:=kill_rep b hr
 let av:Nat->Option Nat:=fun c=>if c=d then μ b else drop1 μ b c
 have hm:∀ c id,drop1 μ b c=some id->av c=some id:=fun c id hh=>by
  have:c≠d:=by
   rintro rfl;unfold drop1 at hh;split at hh
   ·cases hh
   rw [vN] at hh;cases hh
  simp only [av,if_neg this];exact hh
 have hinv:∀ c id,av c=some id->(c=d/\μ b=some id)\/(c≠d/\drop1 μ b c=some id):=fun c id hh=>by
  simp only [av] at hh;split at hh
  ·rename_i e;exact .inl ⟨e,hh⟩
  rename_i e;exact .inr ⟨e,hh⟩
 have cd:∀ c id,drop1 μ b c=some id->c≠b/\μ c=some id:=fun c id h=>by
  unfold drop1 at h;split at h
  ·cases h
  exact⟨by assumption,h⟩
 have hbb:∀ id,drop1 μ b b=some id->False:=fun id hh=>(cd b id hh).1 rfl;have aa0:∀ {bk:Blk} {id:Nat},BlkRep Z (drop1 μ b) w bk id->BlkRep Z av w bk id:=fun hh=>BlkRep.mono (fun _ h=>h) hm (Frame.refl _ _ _) rfl hh;refine⟨bj,hsz,av,Z,?_,fun s=>?_⟩
 ·rw [put_heap];refine⟨hc.keep,hc.zone,hc.zsup,hc.zsub,?_,?_,?_,hc.xlt,?_,?_,?_,?_⟩
  ·intro c c' id h1 h2;rcases hinv c id h1 with⟨e1,g1⟩ | ⟨e1,g1⟩<;>rcases hinv c' id h2 with⟨e2,g2⟩ | ⟨e2,g2⟩
   ·rw [e1,e2]
   ·have:=cd c' id g2;exact absurd (hc.inj _ _ id this.2 g1) this.1
   ·have:=cd c id g1;exact absurd (hc.inj _ _ id this.2 g2) this.1
   exact hc.inj c c' id (cd c id g1).2 (cd c' id g2).2
  ·intro c id h1;rcases hinv c id h1 with⟨e1,g1⟩ | ⟨e1,g1⟩
   ·exact hc.own b id g1
   exact hc.own c id (cd c id g1).2
  ·intro c id h1 hx;rcases hinv c id h1 with⟨e1,g1⟩ | ⟨e1,g1⟩
   ·exact absurd (hc.x0 b id g1 hx) bC
   exact hc.x0 c id (cd c id g1).2 hx
  ·intro id hx;have h0:=hk.x1 id hx;exact hm 0 id h0
  ·intro c id bk h1 dP bE;rcases hinv c id h1 with⟨e1,g1⟩ | ⟨e1,g1⟩
   ·subst e1;simp only [St.setB,if_true,bF] at dP;subst dP;exact hc.mutz b id blk g1 hb bE
   simp only [St.setB,if_neg e1] at dP;exact hk.mutz c id bk g1 dP bE
  ·intro c id bk h1 dP bE;rcases hinv c id h1 with⟨e1,g1⟩ | ⟨e1,g1⟩
   ·subst e1;simp only [St.setB,if_true,bF] at dP;subst dP;exact hc.frz b id blk g1 hb bE
   simp only [St.setB,if_neg e1] at dP;exact hk.frz c id bk g1 dP bE
  intro c id h1;rcases hinv c id h1 with⟨e1,g1⟩ | ⟨e1,g1⟩
  ·subst e1;obtain⟨bk,q1,cc,T,part,rest,q2,q3,q4⟩:=hc.heap b id g1;rw [hb] at q1;cases q1;refine⟨⟨blk.sz,kills b blk.vals,blk.mt⟩,by simp [St.setB],aa0 ⟨cc,T,part,rest,q2,q3,?_⟩⟩;exact RepAll.kill (fun _ h=>h) (fun k id hk h=>by simp [drop1,hk,h]) (Frame.refl _ _ _) _ _ q4
  obtain⟨bk,q1,q2⟩:=hk.heap c id g1;exact⟨bk,by simp only [St.setB,if_neg e1];exact q1,aa0 q2⟩
 rw [put_slot];split
 ·rename_i ba;subst ba;have e:=hr s;rw [h] at e;refine⟨by simp [LV.isAgg],fun hh=>?_⟩;have e2:=e.2 rfl;simp only [Rep] at e2 ⊢;rcases e2 with e2 | ⟨id,cap,c,T,fz,q1,q2,q3⟩
  ·exact .inl e2
  exact .inr ⟨id,cap,c,T,fz,q1,by simp only [av,if_true];exact q2,q3⟩
 exact RepV.mono (fun _ h=>h) hm (Frame.refl _ _ _) (lA s)
end Go.Lg
namespace Go.Proofs.YtlipjipfpkbppaaGreat
open Go.Lg
theorem quo_s {s:Nat} (h:s<32):binI .quo .i64 (s:Nat) 32=some (.int .i64 0):=by
 have:((s:Int)).tdiv 32=0:=by rw [Int.tdiv_eq_ediv_of_nonneg J];omega
 simp [binI,this,IntWalk.i64_in]
theorem rem_s {s:Nat} (h:s<32):binI .rem .i64 (s:Nat) 32=some (.int .i64 (s:Nat)):=by
 have:((s:Int)).tmod 32=s:=by rw [Int.tmod_eq_emod_of_nonneg J];omega
 simp [binI,this]
theorem up_inv {m s c x:Nat} {o:List Nat} (hv:val o+4294967296 ^ o.length*c=val ((dig m).take o.length)*2 ^ s) (hx:x=(dig m).getD o.length 0*2 ^ s+c) :
  val (o++[x % 4294967296])+4294967296 ^ (o.length+1)*(x/4294967296)=val ((dig m).take (o.length+1))*2 ^ s:=by
 rw [val_snoc,val_take_succ',dz,cI,bW (4294967296 ^ o.length) ((dig m).getD o.length 0)];have h1:=carry_step (4294967296 ^ o.length) x;have h2:4294967296 ^ o.length*x=4294967296 ^ o.length*((dig m).getD o.length 0*2 ^ s)+4294967296 ^ o.length*c:=by rw [hx,bm]
 omega
theorem up_end {m s c:Nat} {o:List Nat} (hv:val o+4294967296 ^ o.length*c=val ((dig m).take o.length)*2 ^ s) (ho:o.length=(dig m).length) (hc:c<4294967296):val (o++[c % 4294967296])=m*2 ^ s:=by
 rw [val_snoc,cV hc,hv,take_all J]
theorem half2 {s x y:Nat} (hs:s<32) (hx:x<4294967296):(y*4294967296+x)/2 ^ s % 4294967296=x/2 ^ s+y % 2 ^ s*2 ^ (32-s):=by
 have hd:4294967296=2 ^ (32-s)*2 ^ s:=by rw [<-fh,show 32-s+s=32 by omega]
 have hp:0<2 ^ s:=dU J;obtain⟨_,h2⟩:=half_lt (z:=y) (show s<=32 by omega) hx;have e1:(y*4294967296+x)/2 ^ s=y*2 ^ (32-s)+x/2 ^ s:=by
  rw [show y*4294967296+x=x+(y*2 ^ (32-s))*2 ^ s by rw [bW,<-hd];omega,Nat.add_mul_div_right _ _ hp];omega
 have e2:y*2 ^ (32-s)=y % 2 ^ s*2 ^ (32-s)+4294967296*(y/2 ^ s):=by
  have e3:y*2 ^ (32-s)=(2 ^ s*(y/2 ^ s)+y % 2 ^ s)*2 ^ (32-s):=by rw [n7]
  rw [e3,cI,hd,Nat.mul_right_comm,bz (2 ^ s) (2 ^ (32-s))];omega
 rw [e1,e2,show y % 2 ^ s*2 ^ (32-s)+4294967296*(y/2 ^ s)+x/2 ^ s=(y % 2 ^ s*2 ^ (32-s)+x/2 ^ s)+4294967296*(y/2 ^ s) by omega,Nat.add_mul_mod_self_left,cV h2];omega
theorem dn_inv {i s:Nat} {w o:List Nat} (hi:i<w.length) (hs:s<32) (hv:2 ^ s*val (w.take i)=val (o.take i)+4294967296 ^ i*(o.getD i 0 % 2 ^ s)) :
  2 ^ s*val ((w.set i (o.getD i 0/2 ^ s+o.getD (i+1) 0 % 2 ^ s*2 ^ (32-s))).take (i+1))=val (o.take (i+1))+4294967296 ^ (i+1)*(o.getD (i+1) 0 % 2 ^ s):=by
 have hd:4294967296=2 ^ s*2 ^ (32-s):=by rw [<-fh,show s+(32-s)=32 by omega]
 rw [val_set_take _ _ _ hi,bm,hv,val_take_succ',dz];have h1:=n7 (o.getD i 0) (2 ^ s);generalize o.getD i 0/2 ^ s=q at *
 generalize o.getD i 0 % 2 ^ s=t at *
 generalize o.getD (i+1) 0 % 2 ^ s=u at *
 generalize 4294967296 ^ i=p at *
 rw [<-h1];have e1:2 ^ s*(p*(q+u*2 ^ (32-s)))=p*(2 ^ s*q)+p*4294967296*u:=by
  rw [hd,bm,bm];simp only [bW,Nat.mul_left_comm,bz]
 rw [e1,bm];omega
theorem dn_end {r s:Nat} {o:List Nat} (aP:o.length=(dig (r*2 ^ s)).length) (hv:2 ^ s*val (o.take (dig (r*2 ^ s)).length)=val ((dig (r*2 ^ s)).take (dig (r*2 ^ s)).length)+4294967296 ^ (dig (r*2 ^ s)).length*((dig (r*2 ^ s)).getD (dig (r*2 ^ s)).length 0 % 2 ^ s)):val o=r:=by
 rw [getD_ge _ _ (an _),acz,oR,iH,eZ,<-aP,eZ,val_dig,bz r] at hv;exact Nat.eq_of_mul_eq_mul_left (dU J) hv
theorem zer_take (k:Nat):((ai k 0).map u32L).take k=(ai k 0).map u32L:=by rw [aH aj]
theorem dig_shift {m:Nat} (k:Nat) (h:0<(dig m).length):dig (m*4294967296 ^ k)=ai k 0++dig m:=by
 have hv:val (ai k 0++dig m)=m*4294967296 ^ k:=by rw [val_append,val_zeros,val_dig];simp [bz]
 refine(dig_of (lim_append (lim_zeros k) (lim_dig m)) hv (.inr ?_)).symm;have:=len_pow h;simp only [cZ,List.length_replicate];rw [show k+(dig m).length-1=(dig m).length-1+k by omega,fh];exact bw _ this
open H_c_FAdd in
theorem c_Fup (m s:Nat) (cr:(dig m).length<=549755813888) (hs:s<32):CallP aa 237 [magL m,nI64 s] (magL (m*2 ^ s)):=by
 obtain⟨dx,kJ⟩:=pow_s hs;refine fnP Tryz.func237 ?_;refine zg8 ?_;refine st_pure rfl (.bin rfl rfl (quo_s hs)) ?_;refine st_alloc rfl rfl (.mkE (n:=0) (m:=0) ml ml om om om) ?_;refine zg15 ?_;refine wl_weak (Weak.mv (t:=5) (b:=10) 31 ae ae ae rfl rfl rfl) ?_;refine lp2 (fun(o:List Nat) (c:Nat) L=>(mS L [(31,⟨1,o.map u32L,true⟩)] [(7,nI64 o.length),(6,nU64 c),(5,.ref 31 1 0 o.length),(1,nI64 s),(0,magL m)])) (fun o c=>o.length<=(dig m).length/\c<2 ^ s/\Lim o/\val o+4294967296 ^ o.length*c=val ((dig m).take o.length)*2 ^ s) (fun o c=>(dig m).length-o.length) ([]) 0 ⟨az _,kJ,(by intro x hx;cases hx),by simp [val]⟩ ?_;rintro o c L1 ⟨aP,hc,aC,hv⟩;have kL:=getD_dig_lt m o.length;have ma:=shl_lt kL dx;refine zg9 ?_;refine wl_if rfl ?_ ?_<;>intro jg gi
 ·refine zg13 ?_;refine st_pure rfl (.bin rfl rfl (rem_s hs)) ?_;refine st_pure rfl (.sh rfl rfl (shlV J (by(try simp only [t1,dflt]);omega))) ?_;refine st_pure rfl (.bin rfl rfl (orV hc (by(try simp only [t1,dflt]);omega))) ?_;refine zg9 ?_;refine st_store rfl (.app (news:=[u32L (((dig m).getD o.length 0*2 ^ s+c) % 4294967296)]) rfl rfl rfl rfl rfl aj (.inl rfl) ae gS gS Z179 T179 rfl B179 (.inl ⟨30,0,_,rfl,by decide,rfl,rfl,by simp,rfl,rfl⟩) al al ae) ?_;refine zg3 ?_;refine wl_regW (Weak.kill _ 30) ?_;refine zg12 ?_;exact nx2 (o++[((dig m).getD o.length 0*2 ^ s+c) % 4294967296]) (((dig m).getD o.length 0*2 ^ s+c)/4294967296) ⟨by rw [len_snoc];omega,carry_lt kL hc,lim_snoc aC J,by rw [len_snoc];exact up_inv hv rfl⟩ (hm:=by rw [len_snoc];omega)
 have hoe:o.length=(dig m).length:=J;have hV:=up_end hv hoe (show c<4294967296 by omega);refine zg11 ?_;refine st_store rfl (.app (news:=[u32L (c % 4294967296)]) rfl rfl rfl rfl rfl aj (.inr rfl) ae gS gS Z179 T179 rfl B179 (.inl ⟨37,0,_,rfl,by decide,rfl,rfl,by simp,rfl,rfl⟩) al al ae) ?_;simp only [kills_map u32E,bA,aQ,bc];refine cpf [38] fm1 (c_FTrim (o++[c % 4294967296]) (lim_snoc aC J) (by rw [len_snoc];omega)) ?_;refine zg4 ?_;rw [<-hV];exact bf
namespace H_c_Fdown
theorem zSm {p q:Prop} (k:q) (e:p=q:=by simp only [sNF,ar,au,aq,dflt,List.drop_zero,gw,eyy];exact rfl):p:=e.mpr k
end H_c_Fdown
open H_c_Fdown in
theorem c_Fdown (r s:Nat) (cr:(dig (r*2 ^ s)).length<=549755813888) (hs:s<32):CallP aa 240 [magL (r*2 ^ s),nI64 s] (magL r):=by
 obtain⟨dx,kJ⟩:=pow_s hs;have mw:=low_bits (l:=dig (r*2 ^ s)) (r:=r) (show s<=32 by omega) (val_dig _);refine fnP Tryz.func240 ?_;have gw:True:=trivial;have eyy:True:=trivial;refine zg9 ?_;refine st_pure rfl (.bin rfl rfl (quo_s hs)) ?_;refine zg5 ?_;refine wl_if rfl ?_ ?_<;>intro vv wI
 ·have hm:r*2 ^ s=0:=dig_eq_nil.1 (jB J);have fH:r=0:=by rcases Nat.mul_eq_zero.1 hm with h | h<;>omega
  subst fH;refine zg7 ?_;exact ret1 rfl (.nil 1)
 refine zg6 ?_;refine st_pure rfl (.bin rfl rfl (quo_s hs)) ?_;refine st_pure rfl (.sliceLl (a:=0) u32E rfl gS T179 rfl om) ?_;refine zg7 ?_;refine st_alloc rfl rfl (.mkE (n:=(dig (r*2 ^ s)).length) (m:=(dig (r*2 ^ s)).length) ml ml om om om) ?_;refine zg10 ?_;refine lp2 (fun(i:Nat) (o:List Nat) L=>(mS L [(19,⟨1,o.map u32L,true⟩)] [(6,nI64 i),(5,.ref 19 1 0 (dig (r*2 ^ s)).length),(1,nI64 s),(0,magL (r*2 ^ s))])) (fun i o=>i<=(dig (r*2 ^ s)).length/\o.length=(dig (r*2 ^ s)).length/\Lim o/\2 ^ s*val (o.take i)=val ((dig (r*2 ^ s)).take i)+4294967296 ^ i*((dig (r*2 ^ s)).getD i 0 % 2 ^ s)) (fun i o=>(dig (r*2 ^ s)).length-i) 0 (ai (dig (r*2 ^ s)).length 0) ⟨az _,by simp,lim_zeros _,by rw [mw];simp [val]⟩ ?_;rintro i o L1 ⟨hi,aP,aC,hv⟩;have gw:((i:Int)+1).toNat=i+1:=J;have oV:=getD_dig_lt (r*2 ^ s) i;have hyi:=getD_dig_lt (r*2 ^ s) (i+1);obtain⟨hh1,hh2⟩:=half_lt (z:=(dig (r*2 ^ s)).getD (i+1) 0) (show s<=32 by omega) oV;refine zg9 ?_;refine wl_if rfl ?_ ?_<;>intro lC kt
 ·refine zg24 ?_;refine wl_cut (fun L=>∃ (y:Nat) (L1:St),(y=(dig (r*2 ^ s)).getD (i+1) 0*4294967296+(dig (r*2 ^ s)).getD i 0)/\L=(mS L1 [(19,⟨1,o.map u32L,true⟩)] [(7,nU64 y),(6,nI64 i),(5,.ref 19 1 0 (dig (r*2 ^ s)).length),(1,nI64 s),(0,magL (r*2 ^ s))])) ?_ ?_
  ·refine wl_if rfl ?_ ?_<;>intro nx nT
   ·refine zg8 ?_;refine st_pure rfl (.sh rfl rfl (shl32 (by(try simp only [t1,dflt,gw]);omega))) ?_;refine st_pure rfl (.bin rfl rfl (orC (by(try simp only [t1,dflt]);omega) (by(try simp only [t1,dflt,gw]);omega))) ?_;refine zg3 ?_;exact⟨(dig (r*2 ^ s)).getD (i+1) 0*4294967296+(dig (r*2 ^ s)).getD i 0,_,rfl,aL⟩
   refine zg2 ?_;exact⟨(dig (r*2 ^ s)).getD i 0,_,by rw [getD_ge _ (i+1) J,jm,cJ],aL⟩
  rintro _ ⟨y,ah4,hy,rfl⟩;have eyy:y/2 ^ s % 4294967296=((dig (r*2 ^ s)).getD i 0/2 ^ s+(dig (r*2 ^ s)).getD (i+1) 0 % 2 ^ s*2 ^ (32-s)):=by rw [hy];exact half2 hs oV
  refine zg6 ?_;refine st_pure rfl (.bin rfl rfl (rem_s hs)) ?_;refine st_pure rfl (.sh rfl rfl (shrC (m:=s) (by show s<=64;omega))) ?_;refine zg12 ?_;exact nx2 (i+1) (o.set i ((dig (r*2 ^ s)).getD i 0/2 ^ s+(dig (r*2 ^ s)).getD (i+1) 0 % 2 ^ s*2 ^ (32-s))) ⟨J,by simp [aP],lim_set aC _ _ J,dn_inv J hs hv⟩
 obtain rfl:i=(dig (r*2 ^ s)).length:=J;refine zg8 ?_;refine cpf [19] fm1 (c_FTrim _ cM ko) ?_;refine zg4 ?_;have hV:=dn_end aP hv;rw [<-hV];exact bf
namespace H_c_Fshifted
theorem zSm {p q:Prop} (k:q) (e:p=q:=by simp only [sNF,ar,au,aq,List.take_zero,aZ,aR,kills_map u32E,LV.kill,bA,aQ,bc,zer_take,<-List.map_append];exact rfl):p:=e.mpr k
end H_c_Fshifted
open H_c_Fshifted in
theorem c_Fshifted (m k:Nat) (cr:(dig m).length<=1099511627776) (hk:k<=1099511627776):CallP aa 238 [magL m,nI64 k] (magL (m*4294967296 ^ k)):=by
 refine fnP Tryz.func238 ?_;refine zg13 ?_;refine wl_if rfl ?_ ?_<;>intro zo h7
 ·have hm:m=0:=dig_eq_nil.1 (jB J);subst hm;refine zg7 ?_;rw [jm];exact ret1 rfl (.nil 1)
 have hE:=dig_shift k (show 0<(dig m).length by omega);refine zg5 ?_;refine st_alloc rfl rfl (.mkE (n:=k) (m:=k) ml ml om om om) ?_;refine zg1 ?_;refine st_store rfl (.app (news:=(dig m).map u32L) rfl rfl rfl rfl rfl aj (.inr rfl) ae gS gS Z179 T179 rfl B179 (.inr (.inl rfl)) al al ae) ?_;refine zg4 ?_;rw [show magL (m*4294967296 ^ k)=.list 1 ((ai k 0++dig m).map u32L) by rw [<-hE];rfl];exact ret1f [11] rfl rfl (imm_refm u32E rfl rfl aj)
theorem val_split_any (l:List Nat) (k:Nat):val l=val (l.take k)+4294967296 ^ k*val (l.drop k):=by
 rcases aac k l.length with h | h
 ·exact val_split l k h
 rw [aH h,ep h];simp [val]
theorem val_drop_any (l:List Nat) (k:Nat):val (l.drop k)=l.getD k 0+4294967296*val (l.drop (k+1)):=by
 rcases cu k l.length with h | h
 ·exact val_drop h
 rw [ep h,ep J,getD_ge _ _ h];rfl
theorem sub1N {a:Nat} (h:1<=a) (h2:a<=9223372036854775807):binI .sub .i64 (a:Nat) 1=some (.int .i64 ((a-1:Nat):Int)):=by
 rw [sub64 J J];congr 2;omega
theorem drop_last {n:Nat} (h:0<(dig n).length):(dig n).drop ((dig n).length-1)=dig ((dig n).getD ((dig n).length-1) 0):=by
 have h1:=can_getLast (can_dig n) h;have h2:=getD_dig_lt n ((dig n).length-1);rw [dig_small J h2];rw [List.drop_eq_getElem_cons J,ep J,ao,aB J];rfl
theorem fd_top {R V n j:Nat} (hn:(dig V).length=n+1) (aG:R<V*4294967296 ^ (j+1)) (hv:0<(dig V).getD n 0) :
  R/4294967296 ^ j/V<=min (((dig R).getD (j+(n+1)) 0*4294967296+(dig R).getD (j+n) 0)/(dig V).getD n 0) 4294967295:=by
 have ef:0<V:=ll (fun h=>by rw [h,dig_zero] at hn;cases hn);have wg:V<4294967296 ^ (n+1):=dig_length_ge J;have hz:=kn_zero (ul:=dig R) (n:=n+1) (j:=j) wg (by rw [val_dig];exact aG);have tj:R/4294967296 ^ j/V<4294967296:=by
  rw [fP ef,fP (powpos j),bz 4294967296,bW,<-Nat.pow_succ'];exact aG
 refine Nat.le_min.2 ⟨?_,J⟩;rw [nO hv];have hVs:=val_split (dig V) n J;have hVd:val ((dig V).drop n)=(dig V).getD n 0:=by
  rw [val_drop J,ep J];simp [val]
 rw [hVd,val_dig] at hVs;have hR:R/4294967296 ^ (j+n)=(dig R).getD (j+(n+1)) 0*4294967296+(dig R).getD (j+n) 0:=by
  have e:=val_split_any (dig R) (j+n);rw [val_dig] at e;have hl:val ((dig R).take (j+n))<4294967296 ^ (j+n):=val_lt_len (lim_take (lim_dig R) _) al;have hd:val ((dig R).drop (j+n))=(dig R).getD (j+(n+1)) 0*4294967296+(dig R).getD (j+n) 0:=by
   have z:val ((dig R).drop (j+n+2))=0:=val_all_zero (fun p=>by rw [getD_drop];exact hz _ J);rw [val_drop_any,val_drop_any,z,show j+n+1=j+(n+1) by omega];omega
  rw [<-hd]
  conv=>lhs;rw [e]
  rw [Nat.add_mul_div_left _ _ (powpos _),qm hl,cJ]
 rw [<-hR,fh,<-Nat.div_div_eq_div_mul,nO (powpos n),bW];refine aw (fx _ ?_) (abY (R/4294967296 ^ j) V);rw [bz];omega
theorem fd_gt {R V j d:Nat} (hV:0<V) (h:R<V*d*4294967296 ^ j):R/4294967296 ^ j/V<d:=by
 rw [fP hV,fP (powpos j),bz d V];exact h
theorem fd_le {R V j d:Nat} (hV:0<V) (h:V*d*4294967296 ^ j<=R):d<=R/4294967296 ^ j/V:=by
 rw [nO hV,nO (powpos j),bz d V];exact h
theorem fd_next {R V j d A:Nat} {ql:List Nat} (hV:0<V) (hd:d=R/4294967296 ^ j/V) (hp:V*d*4294967296 ^ j<=R) (hj:j<ql.length) (hv:R+V*4294967296 ^ (j+1)*val (ql.drop (j+1))=A) :
  R-V*d*4294967296 ^ j+V*4294967296 ^ j*val ((ql.set j d).drop j)=A/\R-V*d*4294967296 ^ j<V*4294967296 ^ j:=by
 have:=kn_next (ul:=dig (R-V*d*4294967296 ^ j)) (ul0:=dig R) (ql:=ql) (x:=d) (j:=j) (U0:=A) hV (by rw [val_dig];exact hd) (by rw [val_dig,val_dig,bz d V,bz (4294967296 ^ j)];omega) hj (by rw [val_dig];exact hv);rw [val_dig] at this;exact this
theorem fd_start {m n L K s:Nat} (hL:(dig (n*2 ^ s)).length=L) (h0:0<L) (hK:K+L=(dig (m*2 ^ s)).length+1):m*2 ^ s<n*2 ^ s*4294967296 ^ K:=by
 have h1:m*2 ^ s<4294967296 ^ (dig (m*2 ^ s)).length:=dig_length_ge (an _);have h2:=len_pow (m:=n*2 ^ s) J;refine rI h1 ?_;rw [show (dig (m*2 ^ s)).length=(L-1)+K by omega,fh,<-hL];exact bw _ h2
theorem len_shl {m s k:Nat} (h:(dig m).length<=k) (hs:s<32):(dig (m*2 ^ s)).length<=k+1 :=
 len_mul h (dig_len_le1.2 (by have:=pow_s hs;omega))
theorem len_pow1 (k:Nat):(dig (4294967296 ^ k)).length<=k+1:=dig_length_le (Nat.pow_lt_pow_right J J)
theorem fd_dec {V j d:Nat} (h:1<=d):V*d*4294967296 ^ j-V*4294967296 ^ j=V*(d-1)*4294967296 ^ j:=by
 obtain⟨e,rfl⟩:∃ e,d=e+1:=⟨d-1,J⟩;rw [df,bm,dA,cI];omega
theorem fd_le3 {V j d:Nat} (h:1<=d):V*4294967296 ^ j<=V*d*4294967296 ^ j:=by
 refine bw _ ?_;have:=fx V h;omega
namespace H_c_FDiv
theorem zSm {p q:Prop} (k:q) (e:p=q:=by simp only [sNF,ar,au,aq,dflt,val_dig,eln,edz,vV,uS,eLn,yW,ek,gO,gj,vH,ed,tz0,edd,es];exact rfl):p:=e.mpr k
end H_c_FDiv
open H_c_FDiv in
theorem c_FDiv (m n:Nat) (cr:(dig m).length<=68719476736) (ff:(dig n).length<=68719476736) (dE:0<n):CallP aa 178 [magL m,magL n] (.tup [magL (m/n),magL (m % n),iL 0]):=by
 refine fnP Tryz.func178 ?_;have eln:True:=trivial;have edz:True:=trivial;have vV:True:=trivial;have uS:True:=trivial;have eLn:True:=trivial;have yW:True:=trivial;have ek:True:=trivial;have gO:True:=trivial;have gj:True:=trivial;have vH:True:=trivial;have ed:True:=trivial;have edd:True:=trivial;have es:True:=trivial;refine zg15 ?_;refine wl_if rfl ?_ ?_<;>intro pX x5
 ·have jD:=dig_eq_nil.1 (jB (show (dig n).length=0 by omega));omega
 refine zg7 ?_;refine cp am2 (c_FCmp _ _ J J) ?_;refine zg3 ?_;refine wl_if rfl ?_ ?_<;>intro vF n6
 ·have aG:m<n:=by unfold cmpN at n6;split at n6;assumption;split at n6<;>omega
  refine zg3 ?_;refine cp am1 (c_FTrim _ cM J) ?_;refine zg7 ?_;rw [qm aG,cV aG];exact ret3f [] rfl rfl (.nil 1) rfl (.pure (magL_pure _)) rfl (.pure rfl)
 have fe:n<=m:=by
  rcases cu m n with h | h
  ·rw [cmpN_lt h] at n6;omega
  exact h
 have aa0:=len_dig_mono fe;refine zg6 ?_;refine cp am1 (c_Fsmall _ J) ?_;refine zg12 ?_;refine wl_if rfl ?_ ?_<;>intro si h33
 ·have aeW:m<18446744073709551616:=by simpa using si
  have vV:(if m<18446744073709551616 then m else 0)=m:=if_pos aeW;have uS:(if n<18446744073709551616 then n else 0)=n:=if_pos J;have ahw:m/n<=m:=lr _ _;have ag0:=dO m dE;refine zg3 ?_;refine cp am1 (c_Fsmall _ J) ?_;refine zg8 ?_;refine wl_regD 11 ah ?_;refine zg2 ?_;refine st_pure rfl uj ?_;refine cp am1 (c_FOf _ J) ?_;refine zg2 ?_;refine st_pure rfl (.bin rfl rfl (remU J)) ?_;refine cp am1 (c_FOf _ J) ?_;refine zg7 ?_;exact uN
 refine zg10 ?_;refine wl_if rfl ?_ ?_<;>intro tX tt
 ·have eW:=dig_is1 (n:=n) J;have eLn:=eW.1;have fy:=dig_len_le1.1 (show (dig n).length<=1 by omega);have bG:=dO m dE;refine zg6 ?_;simp only [tz0,dflt,eLn];refine cp am2 (c_FbyLimb m n J dE fy) ?_;refine zg12 ?_;refine cp am1 (c_FOf _ J) ?_;refine zg7 ?_;exact uN
 obtain⟨ln,hL⟩:∃ ln,(dig n).length=ln+1:=⟨(dig n).length-1,J⟩;have vH:(dig n).length-1=ln:=J;have eX:=drop_last (n:=n) J;rw [vH] at eX;have aaE:=can_getLast (can_dig n) (show 0<(dig n).length by omega);rw [vH] at aaE;have uL:=getD_dig_lt n ln;have htb:blen ((dig n).getD ln 0)<=32:=blen_le.2 uL;have ag8:(dig ((dig n).getD ln 0)).length<=1:=dig_len_le1.2 uL;obtain⟨s,hs⟩:∃ s,s=32-blen ((dig n).getD ln 0):=⟨_,rfl⟩;have es:(32:Int)-((blen ((dig n).getD ln 0):Nat):Int)=((s:Nat):Int):=by rw [s_eq htb,hs]
 obtain⟨kC,dL,xI,lQ⟩:=kn_norm (n:=ln) hL hs;have ef:0<n*2 ^ s:=eN dE (dU J);have kQ:0<(dig (n*2 ^ s)).getD ln 0:=by have:=kn_vt dL xI;omega
 have hUl:=len_shl cr kC;have hUV:(dig (n*2 ^ s)).length<=(dig (m*2 ^ s)).length:=len_dig_mono (bw _ fe);obtain⟨K,hK⟩:∃ K,K+ln=(dig (m*2 ^ s)).length:=⟨(dig (m*2 ^ s)).length-ln,J⟩;have ba:=fd_start (m:=m) (n:=n) (s:=s) (K:=K) dL J J;refine zg7 ?_;refine fG ?_;refine st_pure rfl (.sliceLl (a:=(dig n).length-1) u32E rfl gS T179 rfl om) ?_;rw [vH,eX];refine cp am1 (c_FBits _ J) ?_;refine zg8 ?_;refine cp am2 (c_Fup _ _ J kC) ?_;refine zg2 ?_;refine cp am2 (c_Fup _ _ J kC) ?_;refine zg18 ?_;refine st_alloc rfl rfl (.mkE (n:=K) (m:=K) ml ml om om om) ?_;refine zg14 ?_;refine lp3 (fun(k R:Nat) (ql:List Nat) L=>(mS L [(82,⟨1,ql.map u32L,true⟩)] [(15,iL ((k:Int)-1)),(5,magL R),(14,nI64 (ln+1)),(13,nI64 s),(4,.ref 82 1 0 K),(1,magL (n*2 ^ s))])) (fun k R ql=>k<=K/\ql.length=K/\Lim ql/\R<=m*2 ^ s/\R+(n*2 ^ s)*4294967296 ^ k*val (ql.drop k)=m*2 ^ s/\R<(n*2 ^ s)*4294967296 ^ k) (fun k R ql=>k) K (m*2 ^ s) (ai K 0) ⟨an _,by simp,lim_zeros _,an _,by rw [ep aj];simp [val],ba⟩ ?_;rintro k R ql L1 ⟨hk,ey,gh,hRU,hv,aG⟩;refine zg7 ?_;refine wl_if rfl ?_ ?_<;>intro af1 tJ
 ·obtain⟨j,rfl⟩:∃ j,k=j+1:=⟨k-1,J⟩;have ek:(((j+1:Nat):Int)-1)=(j:Int):=J;have gO:((j:Int)+((ln+1:Nat):Int)).toNat=j+(ln+1):=J;have gj:((j:Int)+((ln+1:Nat):Int)-1).toNat=j+ln:=J;have hRl:=len_dig_mono hRU;have eln:(((ln+1:Nat):Int)-1).toNat=ln:=J;have bG:=getD_dig_lt R (j+(ln+1));have ir:=getD_dig_lt R (j+ln);have ac1:=fd_top (R:=R) (n:=ln) (j:=j) dL aG kQ;have iU:=getD_dig_lt (n*2 ^ s) ln;refine zg20 ?_;refine wl_cut (fun L=>∃ (hi:Nat) (L1:St),(hi=(dig R).getD (j+(ln+1)) 0)/\L=(mS L1 [(82,⟨1,ql.map u32L,true⟩)] [(16,nU64 hi),(15,iL (((j+1:Nat):Int)-1)),(5,magL R),(14,nI64 (ln+1)),(13,nI64 s),(4,.ref 82 1 0 K),(1,magL (n*2 ^ s))])) ?_ ?_
  ·refine wl_if rfl ?_ ?_<;>intro agU h96
   ·refine zg11 ?_;exact⟨(dig R).getD (j+(ln+1)) 0,_,rfl,aL⟩
   refine zg2 ?_;exact⟨0,_,(getD_ge _ _ J).symm,aL⟩
  rintro _ ⟨hi,agE,dg,rfl⟩;refine zg13 ?_;refine wl_cut (fun L=>∃ (top:Nat) (L1:St),(top=((dig R).getD (j+(ln+1)) 0*4294967296+(dig R).getD (j+ln) 0))/\L=(mS L1 [(82,⟨1,ql.map u32L,true⟩)] [(16,nU64 top),(15,iL (((j+1:Nat):Int)-1)),(5,magL R),(14,nI64 (ln+1)),(13,nI64 s),(4,.ref 82 1 0 K),(1,magL (n*2 ^ s))])) ?_ ?_
  ·refine wl_if rfl ?_ ?_<;>intro ahk agM
   ·refine zg2 ?_;refine st_pure rfl (.sh rfl rfl (shl32 J)) ?_;refine zg8 ?_;refine st_pure rfl (.bin rfl rfl (orU (by simp only [t1,dflt,gj];omega) J)) ?_;refine zg3 ?_;exact⟨hi*4294967296+(dig R).getD (j+ln) 0,_,by rw [dg],aL⟩
   refine zg2 ?_;refine st_pure rfl (.sh rfl rfl (shl32 J)) ?_;refine zg3 ?_;exact⟨hi*4294967296,_,by rw [dg,getD_ge (dig R) (j+ln) J];exact(iH _).symm,aL⟩
  rintro _ ⟨top,ahQ,xL,rfl⟩;have ah6:top/(dig (n*2 ^ s)).getD ln 0<=top:=lr _ _;have yW:(if (4294967295:Int)<((top/(dig (n*2 ^ s)).getD ln 0:Nat):Int) then(4294967295:Int) else((top/(dig (n*2 ^ s)).getD ln 0:Nat):Int))=((min (top/(dig (n*2 ^ s)).getD ln 0) 4294967295:Nat):Int):=by split<;>omega
  subst xL;obtain⟨d0,dt⟩:∃ d0,d0=min (((dig R).getD (j+(ln+1)) 0*4294967296+(dig R).getD (j+ln) 0)/(dig (n*2 ^ s)).getD ln 0) 4294967295:=⟨_,rfl⟩;rw [<-dt] at ac1 yW;have hdz:d0<4294967296:=by rw [dt];exact jW (abg _ _) ae
  clear dt;have edz:d0 % 4294967296=d0:=cV hdz;have hlz:=len_mul (tM dL) (dig_len_le1.2 hdz);refine zg10 ?_;refine st_pure rfl (.bin rfl rfl (quoU (by simp only [t1,dflt,eln];omega) J)) ?_;refine zg9 ?_;refine cp am2 (c_Ftimes _ _ J J) ?_;refine zg1 ?_;refine cp am2 (c_Fshifted _ _ (by rw [edz];omega) J) ?_;refine zg5 ?_;refine lp1 (fun(d:Nat) L=>(mS L [(82,⟨1,ql.map u32L,true⟩)] [(18,magL ((n*2 ^ s)*d*4294967296 ^ j)),(17,nU64 d),(15,iL (((j+1:Nat):Int)-1)),(5,magL R),(14,nI64 (ln+1)),(13,nI64 s),(4,.ref 82 1 0 K),(1,magL (n*2 ^ s))])) (fun d=>R/4294967296 ^ j/(n*2 ^ s)<=d/\d<4294967296) (fun d=>d) d0 ⟨ac1,hdz⟩ ?_;rintro d L2 ⟨hdq,hdB⟩;have en:=len_mul (tM dL) (dig_len_le1.2 hdB);have gI:=len_mul en (len_pow1 j);have ky:=len_mul (tM dL) (len_pow1 j);refine zg5 ?_;refine cp am2 (c_FCmp _ _ J J) ?_;refine zg3 ?_;refine wl_if rfl ?_ ?_<;>intro ag9 xH
  ·have hgt:R<n*2 ^ s*d*4294967296 ^ j:=by unfold cmpN at xH;split at xH;omega;split at xH;assumption;omega
   have hdq:=fd_gt ef hgt;have dt:1<=d:=jW (az _) hdq;have zS:=fd_le3 (V:=n*2 ^ s) (j:=j) dt;have edd:=fd_dec (V:=n*2 ^ s) (j:=j) dt;refine zg14 ?_;refine cp am2 (c_Fshifted _ _ J J) ?_;refine cp am2 (c_Fminus _ _ J J zS) ?_;refine zg4 ?_;exact nx1 (d-1) ⟨J,J⟩
  have dW:n*2 ^ s*d*4294967296 ^ j<=R:=by
   rcases cu R (n*2 ^ s*d*4294967296 ^ j) with h | h
   ·rw [cmpN_gt h] at xH;omega
   exact h
  have zU:=Nat.le_antisymm (fd_le ef dW) hdq;obtain⟨eW,fy⟩:=fd_next ef zU dW (show j<ql.length by omega) hv;have ed:d % 4294967296=d:=cV hdB;refine zg18 ?_;refine cp am2 (c_Fminus _ _ J J dW) ?_;refine zg10 ?_;exact nx3 j (R-(n*2 ^ s)*d*4294967296 ^ j) (ql.set j d) ⟨J,by simp [ey],lim_set gh _ _ hdB,aw (wD _ _) hRU,eW,fy⟩
 obtain rfl:k=0:=J;rw [dY,nI,dA] at hv;rw [nI,dA] at aG;have hRl:=len_dig_mono hRU;obtain⟨hqf,hRf⟩:=kn_end (ul:=dig R) (ql:=ql) (A:=m) (s:=s) dE (by rw [val_dig];exact hv) (by rw [val_dig];exact aG);rw [val_dig] at hRf;refine zg8 ?_;refine cpf [82] fm1 (c_FTrim _ cM J) ?_;refine zg2 ?_;rw [hRf];refine cp am2 (c_Fdown (m % n) s (by rw [<-hRf];omega) kC) ?_;refine zg6 ?_;rw [<-hqf];exact uN
namespace H_c_FGcd
theorem zSm {p q:Prop} (k:q) (e:p=q:=by simp only [sNF,ar,au,aq,dflt,val_dig,vV,uS];exact rfl):p:=e.mpr k
end H_c_FGcd
open H_c_FGcd in
theorem c_FGcd (m n:Nat) (cr:(dig m).length<=68719476736) (ff:(dig n).length<=68719476736):CallP aa 177 [magL m,magL n] (magL (bI m n)):=by
 refine fnP Tryz.func177 ?_;have vV:True:=trivial;have uS:True:=trivial;refine zg8 ?_;refine cp am1 (c_FTrim _ (lim_dig _) J) ?_;refine zg1 ?_;refine cp am1 (c_FTrim _ (lim_dig _) J) ?_;refine zg6 ?_;refine lp2 (fun(x y:Nat) L=>(mS L [] [(1,magL y),(0,magL x)])) (fun x y=>bI x y=bI m n/\(dig x).length<=68719476736/\(dig y).length<=68719476736) (fun x y=>y) m n ⟨rfl,cr,ff⟩ ?_;rintro x y L1 ⟨hg,hx,hy⟩;refine zg8 ?_;refine wl_if rfl ?_ ?_<;>intro jU kg
 ·have iG:0<y:=ll (fun h=>by rw [h,dig_zero] at kg;simp at kg);refine zg6 ?_;refine cp am1 (c_Fsmall _ J) ?_;refine zg10 ?_;refine cp am1 (c_Fsmall _ J) ?_;refine zg9 ?_;refine wl_cut (fun L=>∃ (t:Bool) (L1:St),(t=decide (x<18446744073709551616/\y<18446744073709551616))/\L=(mS L1 [] [(32,bL t),(7,nU64 (if y<18446744073709551616 then y else 0)),(5,nU64 (if x<18446744073709551616 then x else 0)),(1,magL y),(0,magL x)])) ?_ ?_
  ·refine zg3 ?_;refine op_if 30 rfl ?_ ?_<;>intro aaP rp
   ·refine zg4 ?_;exact⟨decide (y<18446744073709551616),_,by rw [decide_eq_decide];omega,aL⟩
   refine zg4 ?_;exact⟨false,_,by symm;rw [decide_eq_false_iff_not];omega,aL⟩
  rintro _ ⟨t,zg,ht,rfl⟩;refine zg1 ?_;refine wl_if rfl ?_ ?_<;>intro uB h32
  ·rw [ht,decide_eq_true_iff] at uB;obtain⟨aej,ab4⟩:=uB;have vV:(if x<18446744073709551616 then x else 0)=x:=if_pos aej;have uS:(if y<18446744073709551616 then y else 0)=y:=if_pos ab4;refine zg2 ?_;refine lp2 (fun(p q:Nat) L=>(mS L [] [(7,nU64 q),(5,nU64 p)])) (fun p q=>bI p q=bI m n/\p<18446744073709551616/\q<18446744073709551616) (fun p q=>q) x y ⟨hg,aej,ab4⟩ ?_;rintro p q L2 ⟨l7,hm,hn⟩;refine zg7 ?_;refine wl_if rfl ?_ ?_<;>intro vy oO
   ·refine zg3 ?_;refine wl_regD 6 ah ?_;refine zg9 ?_;exact nx2 q (p % q) ⟨by rw [iJ,<-ug,iJ];exact l7,hn,by have:=dO p (show q > 0 by omega);omega⟩ (hm:=dO _ J)
   obtain rfl:q=0:=J;refine zg8 ?_;refine cp am1 (c_FOf _ J) ?_;refine zg9 ?_;rw [<-l7,uY];exact bf
  refine zg6 ?_;refine cp am2 (c_FDiv _ _ J J (by first | assumption | omega)) ?_;refine zg17 ?_;exact nx2 y (x % y) ⟨by rw [iJ,<-ug,iJ];exact hg,hy,aw (len_dig_mono (lE (dO x iG))) hy⟩ (hm:=dO _ iG)
 have iG:y=0:=dig_eq_nil.1 (jB J);refine zg12 ?_;subst iG;rw [<-hg,uY];exact bf
section
variable {q a b:Rat}
theorem neg_lt0:(-q<0)↔0<q:=ay
theorem len_pos {n:Nat}:0<(dig n).length↔0<n:=by
 constructor
 ·intro h;exact ll (fun e=>by rw [e,dig_zero] at h;cases h)
 intro h;exact List.length_pos_iff.2 (fun e=>by have:=dig_eq_nil.1 e;omega)
theorem pos_iff:0<q↔0<q.num:=by rw [acQ];simp
theorem neg1 (h:(!decide (q<0))=true):decide (((dig q.num.natAbs).length:Int) > 0)=decide (-q<0):=by
 rw [decide_eq_decide,neg_lt0,pos_iff];have h1:¬ q<0:=dX;rw [rat_lt0] at h1;have:=len_pos (n:=q.num.natAbs);omega
theorem neg2 (h:(!decide (q<0))=false):false=decide (-q<0):=by
 have h1:q<0:=dX;symm;rw [decide_eq_false_iff_not];grind
theorem ratL_neg' (s:Bool) (h:s=decide (-q<0)):ratL (-q)=.agg [.v (.bool s),magL q.num.natAbs,magL (denN q)]:=by
 rw [ratL_eq,h,denN_eq,denN_eq,aaU,y7,zn]
theorem rat_ext':a=b↔decide (a<0)=decide (b<0)/\a.num.natAbs=b.num.natAbs/\denN a=denN b:=by
 constructor
 ·rintro rfl;exact⟨rfl,rfl,rfl⟩
 rintro⟨h1,h2,h3⟩;have hd:a.den=b.den:=denN_inj (by rw [h3]);rw [<-qv_self a,<-qv_self b,h1,h2,hd]
theorem cmp0 {m n:Nat}:(cmpN m n==0)=decide (m=n):=by
 rw [um,beq_iff_eq,decide_eq_true_iff];unfold cmpN;split
 ·omega
 split<;>omega
theorem same1 (h:(decide (a<0)==decide (b<0))=false):false=decide (a=b):=by
 symm;rw [decide_eq_false_iff_not,rat_ext'];intro h2;rw [h2.1] at h;simp at h
theorem same2 (h2:(cmpN a.num.natAbs b.num.natAbs==0)=false):false=decide (a=b):=by
 rw [cmp0] at h2;symm;rw [decide_eq_false_iff_not,rat_ext'];intro h3;rw [decide_eq_false_iff_not] at h2;exact h2 h3.2.1
theorem same3 (h:(decide (a<0)==decide (b<0))=true) (h2:(cmpN a.num.natAbs b.num.natAbs==0)=true):(cmpN (denN a) (denN b)==0)=decide (a=b):=by
 rw [cmp0] at h2 ⊢;rw [decide_eq_decide,rat_ext'];exact⟨fun h3=>⟨eq_of_beq h,of_decide_eq_true h2,h3⟩,fun h3=>h3.2.2⟩
end
end Go.Proofs.YtlipjipfpkbppaaGreat
namespace Go.Lg
open Go.Proofs.YtlipjipfpkbppaaGreat in
theorem OpT.stNegR {P:Program} {L:St} {dst:Option Nat} {T:TypeId} {p x:Operand} {b:Nat} {q:Rat} {s:Bool} (hp:L.ev p=.eptr b 3 0 0) (hb:L.heap b=some ⟨3,[ratL q],true⟩) (hx:L.ev x=.v (.bool s)) (hT:TyIs P T 1 false)
  (hs:s=decide (-q<0)):OpT P L dst (.store T p x) ((L.setB b (some ⟨3,[ratL (-q)],true⟩)).put dst .any):=by
 have h0:LV.put (ratL q) 0 (L.ev x)=some (ratL (-q)):=by
  rw [hx,ratL_neg' s hs,ratL_eq q];have e1:∀ n,(magL n).csize=1:=fun _=>rfl;simp [LV.put,putFs,csizes,LV.csize,LV.isAgg]
 exact OpT.store (P:=P) (dst:=dst) (T:=T) (p:=p) (x:=x) (y:=ratL q) (y':=ratL (-q)) hp hb rfl rfl rfl (ratE.csize _) h0 (by rw [hx];exact hT) (by rw [hx];exact⟨(fun h=>by cases h),(fun _ h=>by cases h)⟩)
end Go.Lg
namespace Go.Proofs.YtlipjipfpkbppaaGreat
open Go.Lg
theorem neg_wrap {n:Int} (h1:-9223372036854775808<=n) (h2:n<0):IntKind.i64.wrap (0-(n+1))=(((-(n+1)).toNat:Nat):Int):=by
 rw [IntWalk.i64_in _ J];omega
open H0 in
theorem c_FDen (q:Rat):CallP aa 97 [ratL q] (magL q.den):=by
 refine fnP Tryz.func97 ?_;refine zg15 ?_;refine wl_if rfl ?_ ?_<;>intro nW h6
 ·have dV:=denN_zero (show (dig (denN q)).length=0 by omega);refine zg8 ?_;rw [dV,show magL 1=.list 1 ([1].map u32L) from rfl];exact ret1f [7] rfl rfl (imm_refm u32E rfl rfl rfl)
 have dV:=denN_pos (q:=q) J;refine zg10 ?_;rw [<-dV];exact bf
namespace H_c_Freduce
theorem zSm {p q:Prop} (k:q) (e:p=q:=by simp only [sNF,ar,au,aq,dflt,val_dig,tz0];exact rfl):p:=e.mpr k
end H_c_Freduce
open H_c_Freduce in
theorem c_Freduce (s:Bool) (m n:Nat) (cr:(dig m).length<=68719476736) (ff:(dig n).length<=68719476736) (dE:0<n):CallP aa 98 [bL s,magL m,magL n] (ratL (qv s m n)):=by
 refine fnP Tryz.func98 ?_;refine zg8 ?_;refine cp am1 (c_FTrim _ (lim_dig _) J) ?_;refine zg1 ?_;refine cp am1 (c_FTrim _ (lim_dig _) J) ?_;refine zg12 ?_;refine wl_if rfl ?_ ?_<;>intro jg gi
 ·have hm:m=0:=dig_eq_nil.1 (jB J);refine zg8 ?_;rw [hm,qv_zero,ratL_zero];exact ui
 have dH:0<m:=len_pos.1 J;have hg:0<bI m n:=aaz _ dH;have hE:=ratL_qv s dH dE;have rm:(dig (bI m n)).length<=68719476736:=aw (len_dig_mono (sj dH (qh _ _))) cr;have hqa:(dig (m/bI m n)).length<=68719476736:=aw (len_dig_mono (lr _ _)) cr;have pT:(dig (n/bI m n)).length<=68719476736:=aw (len_dig_mono (lr _ _)) ff;have afc:=dig_is1 (n:=bI m n);refine zg6 ?_;refine cp am2 (c_FGcd _ _ J J) ?_;refine zg5 ?_;refine wl_cut (fun L=>∃ (t:Bool) (L1:St),(t=decide (bI m n≠1))/\L=(mS L1 [(6,⟨3,[.agg [.v (.bool false),.list 1 [],.list 1 []]],true⟩)] [(27,bL t),(7,magL (bI m n)),(6,.eptr 6 3 0 0),(2,magL n),(1,magL m),(0,bL s)])) ?_ ?_
 ·refine zg5 ?_;refine op_if 22 rfl ?_ ?_<;>intro uC sL
  ·refine zg7 ?_;exact⟨true,_,by symm;rw [decide_eq_true_iff];intro e;rw [e,dig_one] at sL;exact sL rfl,aL⟩
  refine zg7 ?_;exact⟨(((dig (bI m n)).getD 0 0:Int) != 1),_,by have:=(afc J).1;rw [um,bne_iff_ne,decide_eq_true_iff];omega,aL⟩
 rintro _ ⟨t,zg,ht,rfl⟩;refine zg1 ?_;refine wl_cut (fun L=>∃ (x:Nat) (y:Nat) (L1:St),(x=m/bI m n/\y=n/bI m n)/\L=(mS L1 [(6,⟨3,[.agg [.v (.bool false),.list 1 [],.list 1 []]],true⟩)] [(6,.eptr 6 3 0 0),(2,magL y),(1,magL x),(0,bL s)])) ?_ ?_
 ·refine wl_if rfl ?_ ?_<;>intro rY th
  ·refine zg4 ?_;refine cp am2 (c_FDiv _ _ J J hg) ?_;refine zg10 ?_;refine cp am2 (c_FDiv _ _ J J hg) ?_;refine zg7 ?_;exact⟨m/bI m n,n/bI m n,_,⟨rfl,rfl⟩,aL⟩
  have eH:bI m n=1:=by rw [ht,decide_eq_false_iff_not] at rY;omega
  refine zg2 ?_;exact⟨m,n,_,⟨by rw [eH,u7],by rw [eH,u7]⟩,aL⟩
 rintro _ ⟨x,y,afe,⟨hx,hy⟩,rfl⟩;rw [<-hx,<-hy] at hE;have iG:0<y:=by rw [hy];exact xm (sj dE (aag _ _)) hg
 refine zg8 ?_;refine op_if 45 rfl ?_ ?_<;>intro agq h45
 ·refine zg7 ?_;refine wl_if rfl ?_ ?_<;>intro ag7 h50
  ·have jN:y=1:=by have:=(dig_is1 (n:=y) J).1;omega
   refine zg14 ?_;rw [hE,if_pos jN];exact retC [] rfl rfl rfl rfl rfl T32 (.agg (.cons (.pure rfl) (.cons (.pure (magL_pure _)) (.cons (.nil 1) .nil))))
  have jN:y≠1:=by have:=(dig_is1 (n:=y) J).1;omega
  refine zg12 ?_;rw [hE,if_neg jN];exact vg
 have jN:y≠1:=fun e=>by rw [e,dig_one] at h45;exact h45 rfl
 refine zg20 ?_;rw [hE,if_neg jN];exact vg
open H0 in
theorem c_Fsize (n:Int) (h1:-9223372036854775808<=n) (h2:n<=9223372036854775807):CallP aa 62 [iL n] (.tup [magL n.natAbs,bL (decide (n<0))]):=by
 refine fnP Tryz.func62 ?_;refine zg13 ?_;refine wl_if rfl ?_ ?_<;>intro h5r h5
 ·refine zg4 ?_;refine st_pure rfl (.neg rfl) ?_;refine st_pure rfl (.cv64 (n:=(-(n+1)).toNat) xM xT (by simp only [e1,p1,p2,aq];rw [neg_wrap h1 h5]) J) ?_;refine st_pure rfl (.bin rfl rfl (addU (show (-(n+1)).toNat+1<18446744073709551616 by omega))) ?_;refine cp am1 (c_FOf ((-(n+1)).toNat+1) J) ?_;refine zg6 ?_;rw [decide_eq_true h5,show n.natAbs=(-(n+1)).toNat+1 by omega];exact ret2 rfl (.pure (magL_pure _)) rfl (.pure rfl)
 refine zg5 ?_;refine st_pure rfl (.cv64 (n:=n.natAbs) xM xT (by simp only [e1,p1,p2,aq];rw [show ((n.natAbs:Nat):Int)=n by omega];rfl) J) ?_;refine cp am1 (c_FOf n.natAbs J) ?_;refine zg5 ?_;rw [decide_eq_false h5];exact ret2 rfl (.pure (magL_pure _)) rfl (.pure rfl)
open H0 in
theorem c_FMake (n d:Int) (h1:-9223372036854775808<=n) (h2:n<=9223372036854775807) (h3:-9223372036854775808<=d) (h4:d<=9223372036854775807) (hd:d≠0):CallP aa 61 [iL n,iL d] (.tup [ratL ((n:Rat)/(d:Rat)),iL 0]):=by
 refine fnP Tryz.func61 ?_;refine zg13 ?_;refine wl_if rfl ?_ ?_<;>intro wy qo
 ·exact absurd qo hd
 refine zg5 ?_;refine cp am1 (c_Fsize _ J J) ?_;refine zg10 ?_;refine cp am1 (c_Fsize _ J J) ?_;refine zg14 ?_;refine cp am3 (c_Freduce (decide (n<0) != decide (d<0)) n.natAbs d.natAbs (aw (dig_len_le2.2 J) J) (aw (dig_len_le2.2 J) J) J) ?_;refine zg5 ?_;rw [<-qv_ints];exact vi
open H0 in
theorem c_FFrac (n d:Int) (h1:-9223372036854775808<=n) (h2:n<=9223372036854775807) (h3:-9223372036854775808<=d) (h4:d<=9223372036854775807) (hd:d≠0):CallP aa 20 [iL n,iL d] (ratL ((n:Rat)/(d:Rat))):=by
 refine fnP Tryz.func20 ?_;refine zg9 ?_;refine cp am2 (c_FMake _ _ J J J J J) ?_;refine zg15 ?_;exact cy
open H0 in
theorem c_FInt (n:Int) (h1:-9223372036854775808<=n) (h2:n<=9223372036854775807):CallP aa 21 [iL n] (ratL (n:Rat)):=by
 refine fnP Tryz.func21 ?_;refine zg8 ?_;refine cp am1 (c_Fsize _ J J) ?_;refine zg16 ?_;rw [<-qv_int n];have hz:n.natAbs=0\/0<n.natAbs:=J;rcases hz with hz | hz
 ·obtain rfl:n=0:=J;rw [show qv (decide ((0:Int)<0)) (0:Int).natAbs 1=0 from qv_zero _ _,ratL_zero];exact ui
 rw [ratL_qv _ hz J,Nat.gcd_one_right,u7,if_pos J];exact retC [] rfl rfl rfl rfl rfl T32 (.agg (.cons (.pure rfl) (.cons (.pure (magL_pure _)) (.cons (.pure rfl) .nil))))
open H0 in
theorem c_FSame (a b:Rat) (h:rl a+rl b<=1099511627776):CallP aa 13 [ratL a,ratL b] (bL (decide (a=b))):=by
 have a1:=rl_num a;have a3:=rl_denN a;have c1:=rl_num b;have c3:=rl_denN b;refine fnP Tryz.func13 ?_;refine zg15 ?_;refine op_if 10 rfl ?_ ?_<;>intro fB iN
 ·refine zg4 ?_;refine cp am2 (c_FCmp _ _ J J) ?_;refine zg3 ?_;refine op_if 18 rfl ?_ ?_<;>intro jU kg
  ·refine zg4 ?_;refine cp am2 (c_FCmp _ _ J J) ?_;refine zg6 ?_;rw [<-same3 fB jU];exact bf
  refine zg11 ?_;rw [<-same2 jU];exact bf
 refine zg19 ?_;rw [<-same1 fB];exact bf
open H0 in
theorem c_FSign (q:Rat):CallP aa 95 [ratL q] (iL (sgnR q)):=by
 have hq:=sgnR_eq q;refine fnP Tryz.func95 ?_;refine zg15 ?_;refine wl_if rfl ?_ ?_<;>intro nW h6
 ·have hz:q.num.natAbs=0:=dig_eq_nil.1 (jB J);refine zg7 ?_;rw [hq,if_pos hz];exact bf
 have hz:q.num.natAbs≠0:=fun e=>by rw [e,dig_zero] at h6;exact h6 rfl
 refine zg9 ?_;refine wl_if rfl ?_ ?_<;>intro gM h8
 ·refine zg7 ?_;rw [hq,if_neg hz,if_pos h8];exact bf
 refine zg8 ?_;rw [hq,if_neg hz,if_neg h8];exact bf
open H0 in
theorem c_FNeg (q:Rat):CallP aa 101 [ratL q] (ratL (-q)):=by
 refine fnP Tryz.func101 ?_;refine zg12 ?_;refine op_if 6 rfl ?_ ?_<;>intro nW h6
 ·refine zg6 ?_;refine st_store rfl (.stNegR rfl rfl rfl T4 (by first | exact neg1 nW | exact neg2 nW)) ?_;refine zg9 ?_;exact cy
 refine zg6 ?_;refine st_store rfl (.stNegR rfl rfl rfl T4 (by first | exact neg1 nW | exact neg2 nW)) ?_;refine zg9 ?_;exact cy
open H0 in
theorem c_FRMul (a b:Rat) (h:rl a+rl b<=34359738368):CallP aa 42 [ratL a,ratL b] (ratL (a*b)):=by
 have a1:=rl_num a;have a2:=rl_den a;have a3:=rl_denN a;have c1:=rl_num b;have c2:=rl_den b;have c3:=rl_denN b;have a0:=a.den_pos;have c0:=b.den_pos;have m1:=len_mul a1 c2;have m2:=len_mul c1 a2;have m3:=len_mul a2 c2;have m4:=len_mul a1 c1;have m5:=len_mul a2 c1;have m6:=len_mul c2 a2;have np:=eN a0 c0;have hE:=qv_mul (decide (a<0)) (decide (b<0)) a.num.natAbs a.den b.num.natAbs b.den;rw [qv_self,qv_self] at hE;refine fnP Tryz.func42 ?_;refine zg8 ?_;refine wl_regD 16 ah ?_;refine zg9 ?_;refine cp am2 (c_FMul _ _ J J) ?_;refine zg1 ?_;refine cp am1 (c_FDen _) ?_;refine zg1 ?_;refine rA ?_;refine cp am3 (c_Freduce _ _ _ J J np) ?_;refine zg4 ?_;rw [hE];exact cy
open H0 in
theorem c_FRQuo (a b:Rat) (h:rl a+rl b<=34359738368):CallP aa 210 [ratL a,ratL b] (.tup [ratL (a/b),iL (if b=0 then 3 else 0)]):=by
 have a1:=rl_num a;have a2:=rl_den a;have a3:=rl_denN a;have c1:=rl_num b;have c2:=rl_den b;have c3:=rl_denN b;have a0:=a.den_pos;have c0:=b.den_pos;have m1:=len_mul a1 c2;have m2:=len_mul c1 a2;have m3:=len_mul a2 c2;have m4:=len_mul a1 c1;have m5:=len_mul a2 c1;have m6:=len_mul c2 a2;have np:=eN a0 c0;have hE:=qv_div (decide (a<0)) (decide (b<0)) a.num.natAbs a.den b.num.natAbs b.den;rw [qv_self,qv_self] at hE;refine fnP Tryz.func210 ?_;refine zg17 ?_;refine wl_if rfl ?_ ?_<;>intro pz h9
 ·have hz:=num0 (q:=b) J;refine zg9 ?_;subst hz;rw [show a/0=0 by rw [cj];simp,ratL_zero];exact retCT [] rfl rfl rfl rfl rfl T32 (.pure rfl) rfl (.pure rfl)
 have bC:0<b.num.natAbs:=len_pos.1 J;have hz:b≠0:=by rintro rfl;exact absurd bC ae
 refine zg3 ?_;refine wl_regD 16 ah ?_;refine zg8 ?_;refine rA ?_;refine zg1 ?_;refine cp am1 (c_FDen _) ?_;refine zg2 ?_;refine cp am2 (c_FMul _ _ J J) ?_;refine cp am3 (c_Freduce _ _ _ J J (eN a0 bC)) ?_;refine zg5 ?_;rw [hE,if_neg hz];exact vi
open H0 in
theorem c_FOver (a b:Rat) (h:rl a+rl b<=34359738368):CallP aa 127 [ratL a,ratL b] (ratL (a/b)):=by
 refine fnP Tryz.func127 ?_;refine zg11 ?_;refine cp am2 (c_FRQuo _ _ J) ?_;refine zg15 ?_;exact cy
namespace H_c_FRAdd
theorem zSm {p q:Prop} (k:q) (e:p=q:=by simp only [sNF,ar,au,aq,val_dig,qx];exact rfl):p:=e.mpr k
end H_c_FRAdd
open H_c_FRAdd in
theorem c_FRAdd (a b:Rat) (h:rl a+rl b<=34359738368):CallP aa 41 [ratL a,ratL b] (ratL (a+b)):=by
 have a1:=rl_num a;have a2:=rl_den a;have a3:=rl_denN a;have c1:=rl_num b;have c2:=rl_den b;have c3:=rl_denN b;have a0:=a.den_pos;have c0:=b.den_pos;have m1:=len_mul a1 c2;have m2:=len_mul c1 a2;have m3:=len_mul a2 c2;have m4:=len_mul a1 c1;have m5:=len_mul a2 c1;have m6:=len_mul c2 a2;have np:=eN a0 c0;have m7:(dig (a.num.natAbs*b.den+b.num.natAbs*a.den)).length<=rl a+rl b+1:=len_add m1 J;have ls1:(dig (a.num.natAbs*b.den-b.num.natAbs*a.den)).length<=rl a+rl b:=aw (len_dig_mono (wD _ _)) m1;have ls2:(dig (b.num.natAbs*a.den-a.num.natAbs*b.den)).length<=rl b+rl a:=aw (len_dig_mono (wD _ _)) m2;refine fnP Tryz.func41 ?_;have qx:True:=trivial;refine zg16 ?_;refine wl_if rfl ?_ ?_<;>intro il fc
 ·have hz:=num0 (q:=a) J;refine zg8 ?_;rw [hz,Rat.zero_add];exact cy
 refine zg11 ?_;refine wl_if rfl ?_ ?_<;>intro py oA
 ·have hz:=num0 (q:=b) J;refine zg8 ?_;rw [hz,Rat.add_zero];exact cy
 refine zg3 ?_;refine wl_regD 12 ah ?_;refine zg3 ?_;refine rA ?_;refine zg3 ?_;refine rA ?_;refine zg5 ?_;refine wl_regD 6 ah ?_;refine zg1 ?_;refine cp am1 (c_FDen _) ?_;refine zg1 ?_;refine rA ?_;refine zg13 ?_;refine wl_if rfl ?_ ?_<;>intro tD h41
 ·refine zg1 ?_;refine wl_regD 7 ah ?_;refine zg4 ?_;refine cp am2 (c_FAdd _ _ J J) ?_;refine zg1 ?_;refine cp am3 (c_Freduce _ _ _ J J np) ?_;refine zg5 ?_;have E:=add_same (k:=1) (x:=a.num.natAbs*b.den) (y:=b.num.natAbs*a.den) (d:=a.den*b.den) J (dA _) (dA _) (dA _) (eq_of_beq tD);rw [sgR_self,<-eq_of_beq tD] at E;rw [E];exact cy
 refine zg7 ?_;refine cp am2 (c_FCmp _ _ J J) ?_;refine zg3 ?_;refine wl_if rfl ?_ ?_<;>intro ahE xB
 ·have aG:a.num.natAbs*b.den<b.num.natAbs*a.den:=by unfold cmpN at xB;split at xB;assumption;split at xB<;>omega
  have qx:=subL_le (lE aG);refine zg4 ?_;refine cp am2 (c_FSub _ _ J J) ?_;refine zg13 ?_;refine cp am3 (c_Freduce _ _ _ J J np) ?_;refine zg5 ?_;have E:=add_le (k:=1) (x:=a.num.natAbs*b.den) (y:=b.num.natAbs*a.den) (d:=a.den*b.den) J (dA _) (dA _) (dA _) (beq_ne_of tD) (lE aG);rw [sgR_self] at E;rw [E];exact cy
 have hle:b.num.natAbs*a.den<=a.num.natAbs*b.den:=by
  rcases cu (a.num.natAbs*b.den) (b.num.natAbs*a.den) with h | h
  ·rw [cmpN_lt h] at xB;omega
  exact h
 have qx:=subL_le hle;refine zg6 ?_;refine cp am2 (c_FSub _ _ J J) ?_;refine zg13 ?_;refine cp am3 (c_Freduce _ _ _ J J np) ?_;refine zg4 ?_;have E:=add_ge (k:=1) (x:=a.num.natAbs*b.den) (y:=b.num.natAbs*a.den) (d:=a.den*b.den) J (dA _) (dA _) (dA _) (beq_ne_of tD) hle;rw [sgR_self] at E;rw [E];exact cy
open H0 in
theorem c_FRSub (a b:Rat) (h:rl a+rl b<=34359738368):CallP aa 44 [ratL a,ratL b] (ratL (a-b)):=by
 refine fnP Tryz.func44 ?_;refine zg8 ?_;refine wl_regD 4 ah ?_;refine zg2 ?_;refine cp am1 (c_FNeg _) ?_;refine cp am2 (c_FRAdd _ _ (by rw [rl_neg];omega)) ?_;refine zg4 ?_;rw [ado];exact cy
open H0 in
theorem c_FRCmp (a b:Rat) (h:rl a+rl b<=34359738368):CallP aa 40 [ratL a,ratL b] (iL (cmpR a b)):=by
 have a1:=rl_num a;have a2:=rl_den a;have a3:=rl_denN a;have c1:=rl_num b;have c2:=rl_den b;have c3:=rl_denN b;have a0:=a.den_pos;have c0:=b.den_pos;have m1:=len_mul a1 c2;have m2:=len_mul c1 a2;have m3:=len_mul a2 c2;have m4:=len_mul a1 c1;have m5:=len_mul a2 c1;have m6:=len_mul c2 a2;have np:=eN a0 c0;refine fnP Tryz.func40 ?_;refine zg9 ?_;refine wl_regD 6 ah ?_;refine zg1 ?_;refine cp am1 (c_FSign _) ?_;refine zg1 ?_;refine cp am1 (c_FSign _) ?_;refine zg11 ?_;refine wl_if rfl ?_ ?_<;>intro jg gi
 ·refine zg8 ?_;refine wl_if rfl ?_ ?_<;>intro ng kf
  ·refine zg8 ?_;rw [cmp_slt kf];exact bf
  refine zg9 ?_;rw [cmp_sgt J];exact bf
 have gf:sgnR a=sgnR b:=J;obtain⟨c,hc⟩:∃ c,c=cmpN (a.num.natAbs*b.den) (b.num.natAbs*a.den):=⟨_,rfl⟩;refine zg3 ?_;refine wl_regD 12 ah ?_;refine zg3 ?_;refine rA ?_;refine zg3 ?_;refine rA ?_;refine cp am2 (c_FCmp _ _ J J) ?_;refine zg10 ?_;refine wl_if rfl ?_ ?_<;>intro aaP rp
 ·refine zg9 ?_;rw [cmp_same gf,if_pos rp,<-wrap_negc rfl];exact bf
 refine zg9 ?_;rw [cmp_same gf,if_neg rp];exact bf
end Go.Proofs.YtlipjipfpkbppaaGreat
namespace Go.Lg
open Go.Proofs.YtlipjipfpkbppaaGreat in
theorem OpP.build0 {P:Program} {H:Heap} {ρ:Operand->LV} {T:TypeId} (hT:StructLay P T [(1,false),(1,false),(1,false)]) (hz:ZeroOK P T (.agg [.v (.bool false),.list 1 [],.list 1 []])):OpP P H ρ (.build T #[]) (ratL 0):=by
 rw [ratL_zero];exact OpP.build (zs:=[.v (.bool false),.list 1 [],.list 1 []]) (ps:=#[]) hT hz (by intro p hp;cases hp)
end Go.Lg
namespace Go.Proofs.YtlipjipfpkbppaaGreat
open Go.Lg
theorem dfq:(default:Rat)=0:=rfl
def stp (t:Rat):List Rat->List Rat
 | x :: y :: r=>((1-t)*x+t*y) :: stp t (y :: r)
 | _=>[]
theorem stp_len (t:Rat):∀ p:List Rat,(stp t p).length=p.length-1
 | []=>rfl
 | [_]=>rfl
 | x :: y :: r=>by simp [stp,stp_len t (y :: r)]
theorem stp_get (t:Rat):∀ (p:List Rat) (i:Nat),i+1<p.length->(stp t p).getD i 0=(1-t)*p.getD i 0+t*p.getD (i+1) 0
 | [],i,h=>by simp at h
 | [_],i,h=>by simp at h
 | x :: y :: r,0,_=>by simp [stp]
 | x :: y :: r,i+1,h=>by
   have:=stp_get t (y :: r) i dX;simpa [stp] using this
theorem getD_mem {p:List Rat} {i:Nat} (h:i<p.length):p.getD i 0∈p:=by
 rw [ao,aB h];exact List.getElem_mem h
theorem mem_getD {p:List Rat} {x:Rat} (h:x∈p):∃ i,i<p.length/\p.getD i 0=x:=by
 obtain⟨i,hi,rfl⟩:=List.getElem_of_mem h;exact⟨i,hi,by rw [ao,aB hi];rfl⟩
def loF (t:Rat):Nat->List Rat->List Rat
 | 0,_=>[]
 | k+1,p=>p.getD 0 0 :: loF t k (stp t p)
def hiF (t:Rat):Nat->List Rat->List Rat->List Rat
 | 0,q,tl=>q++tl
 | k+1,q,tl=>hiF t k (stp t q) (q.getD k 0 :: tl)
def loP (p:List Rat) (t:Rat):List Rat:=loF t p.length p
def hiP (p:List Rat) (t:Rat):List Rat:=hiF t p.length p []
theorem loF_len (t:Rat):∀ (k:Nat) (p:List Rat),(loF t k p).length=k
 | 0,_=>rfl
 | k+1,p=>by simp [loF,loF_len t k]
theorem set_mid {α:Type} (A B:List α) (x v:α) {n:Nat} (h:n=A.length):(A++x :: B).set n v=A++v :: B:=by subst h;simp
theorem getD_app1 {α:Type} (A B:List α) (d:α) {i:Nat} (h:i<A.length):(A++B).getD i d=A.getD i d:=by simp [ao,List.getElem?_append_left h]
theorem getD_app2 {α:Type} (A B:List α) (d:α) {i:Nat} (h:A.length<=i):(A++B).getD i d=B.getD (i-A.length) d:=by simp [ao,List.getElem?_append_right h]
theorem getD_dropR (l:List Rat) (k p:Nat):(l.drop k).getD p 0=l.getD (k+p) 0:=by
 rw [ao,ao,List.getElem?_drop]
theorem stp_sz {t:Rat} {q:List Rat} {C M k:Nat} (hC:rl (1-t)+rl t+1<=C) (h:∀ x∈q,(rl x+C)*2 ^ (k+1)<=M):∀ x∈stp t q,(rl x+C)*2 ^ k<=M:=by
 intro x hx;obtain⟨i,hi,rfl⟩:=mem_getD hx;rw [stp_len] at hi;rw [stp_get t q i J];have h1:=h _ (getD_mem (p:=q) (i:=i) J);have h2:=h _ (getD_mem (p:=q) (i:=i+1) J);have e1:=rl_add ((1-t)*q.getD i 0) (t*q.getD (i+1) 0);have e2:=rl_mul (1-t) (q.getD i 0);have e3:=rl_mul t (q.getD (i+1) 0);rw [dz] at h1 h2;have hle:rl ((1-t)*q.getD i 0+t*q.getD (i+1) 0)+C<=(rl (q.getD i 0)+C)+(rl (q.getD (i+1) 0)+C):=J;have:=bw (2 ^ k) hle;have e6:=cI (rl (q.getD i 0)+C) (rl (q.getD (i+1) 0)+C) (2 ^ k);have e4:(rl (q.getD i 0)+C)*(2 ^ k*2)=(rl (q.getD i 0)+C)*2 ^ k*2:=by rw [bW]
 have e5:(rl (q.getD (i+1) 0)+C)*(2 ^ k*2)=(rl (q.getD (i+1) 0)+C)*2 ^ k*2:=by rw [bW]
 omega
theorem cp_take {o p:List Rat} {k:Nat} (hk:k<p.length) (aP:o.length=p.length) (ht:o.take k=p.take k):(o.set k (p.getD k 0)).take (k+1)=p.take (k+1):=by
 rw [tc (by simpa [aP] using hk),tc hk,List.take_set_of_le (an _),ht];congr 1;simp [ao,aB hk]
theorem sz_rl {x:Rat} {C M k:Nat} (h:(rl x+C)*2 ^ k<=M):rl x+C<=M:=by
 have:1<=2 ^ k:=dU J;exact aw (mq _ this) h
theorem sz_len {p:List Rat} {C:Nat} (hC:1<=C) (h:∀ x∈p,(rl x+C)*2 ^ p.length<=1073741824):p.length<=30:=by
 cases p with
 | nil=>simp
 | cons x r =>
  have h1:=h x aj;have h2:1*2 ^ (x :: r).length<=(rl x+C)*2 ^ (x :: r).length:=bw _ J;rcases cu 30 (x :: r).length with h3 | h3
  ·have h4:2 ^ 31<=2 ^ (x :: r).length:=gg J h3;omega
  exact h3
namespace H_c_copiedO
theorem zSm {p q:Prop} (k:q) (e:p=q:=by simp only [sNF,ar,au,aq,dfq,Rat.add_zero,kills_map ratE,ratL_kill,LV.kill,kills];exact rfl):p:=e.mpr k
end H_c_copiedO
open H_c_copiedO in
theorem c_copiedO (p:List Rat) (hl:p.length<=1048576) (dC:∀ x∈p,rl x<=274877906944):CallOK aa 193 [.list 3 (p.map ratL)] (.ref 1 3 0 p.length) [⟨3,p.map ratL,true⟩]:=by
 refine fnO Tryz.func193 ?_;refine zg9 ?_;refine st_alloc rfl rfl (.mkE (n:=p.length) (m:=p.length) ml ml om om om) ?_;refine zg12 ?_;refine lp2 (fun(k:Nat) (o:List Rat) L=>(mS L [(8,⟨3,o.map ratL,true⟩)] [(11,nI64 k),(10,nI64 p.length),(9,.list 3 (p.map ratL)),(3,.ref 8 3 0 p.length)])) (fun k o=>k<=p.length/\o.length=p.length/\o.take k=p.take k) (fun k o=>p.length-k) 0 (ai p.length 0) ⟨az _,by simp,rfl⟩ ?_;rintro k o L1 ⟨hk,aP,ht⟩;refine zg6 ?_;refine wl_if rfl ?_ ?_<;>intro vv wI
 ·have dk:k<p.length:=J;have hrk:=dC _ (getD_mem dk);refine zg18 ?_;refine fu ?_;refine cp am2 (c_RAdd (p.getD k 0) 0 (by rw [show rl 0=1 from rfl];omega)) ?_;refine zg5 ?_;refine wl_regW (Weak.kill _ 5) ?_;refine zg4 ?_;exact nx2 (k+1) (o.set k (p.getD k 0)) ⟨J,by simp [aP],cp_take dk aP ht⟩
 obtain rfl:k=p.length:=J;rw [eZ,<-aP,eZ] at ht;refine zg12 ?_;subst ht;exact ret1own rfl rfl (pures_map ratE _)
def diceL (l:List Int) (k:Nat):LV:=.agg [.list 1 (l.map i64L),.v (.int .i64 (k:Nat))]
theorem dice_pure (l:List Int) (k:Nat):pures [diceL l k]=true:=by simp [pures,diceL,LV.pure,pures_map i64E]
theorem rem64 {a b:Int} (h:b≠0):binI .rem .i64 a b=some (.int .i64 (a.tmod b)):=by simp [binI,h]
theorem dfi:(default:Int)=0:=rfl
def nxV (l:List Int) (k:Nat) (n:Int):Int:=if k<l.length then l.getD k 0 % n else 0
def nxK (l:List Int) (k:Nat):Nat:=if k<l.length then k+1 else k
theorem nxV_lt {l:List Int} {k:Nat} {n:Int} (h:0<n):0<=nxV l k n/\nxV l k n<n:=by
 unfold nxV;split
 ·exact⟨nL _ J,nB _ h⟩
 omega
theorem mod_fix {a m:Int} (hm:0<m):a % m=if a.tmod m<0 then a.tmod m+m else a.tmod m:=by
 have h1:=nL a (show m≠0 by omega);have h2:=nB a hm;rw [Int.tmod_eq_emod];split<;>split<;>omega
theorem retMC {P:Program} {L:St} {a:Nat} {T:TypeId} {b sz:Nat} {x y:LV} {m:Bool} {n:Nat} {ag:Bool} {blk:Blk} (h:L.slot a=.eptr b sz 0 0) (hb:L.heap b=some ⟨sz,[x],m⟩)
  (hx:x.csize=sz) (gB:x.at 0 n ag=some x) (hT:TyIs P T n ag) (hi:Imm L.heap x y) (h0:L.heap 0=some blk) (hm:blk.mt=true) (hp:pures blk.vals=true):RetM P [.cell a T] L y blk :=
 ⟨[x],[y],L.heap,.cons ⟨b,sz,0,0,_,x,n,ag,h,hb,rfl,rfl,hx,gB,hT⟩ .nil,Heap.le_refl _,.cons (.imm hi) .nil,h0,hm,hp,rfl⟩
theorem retMf {P:Program} {L:St} {t:Nat} {x y:LV} {blk:Blk} (bs:List Nat) (h0:bs.contains 0=false) (h:L.slot t=x) (hi:Imm (L.frz bs).heap x y) (hb:(L.frz bs).heap 0=some blk) (hm:blk.mt=true) (hp:pures blk.vals=true):RetM P [.tmp t] L y blk :=
 ⟨[x],[y],(L.frz bs).heap,.cons h .nil,frz_le bs h0,.cons (.imm hi) .nil,hb,hm,hp,rfl⟩
def nbV (l:List Int) (k:Nat):Rat × Nat :=
 if nxV l (nxK l k) 4=3 then(((nxV l k 13-6:Int):Rat)/((1+nxV l (nxK l (nxK l k)) 4:Int):Rat),nxK l (nxK l (nxK l k))) else(((nxV l k 13-6:Int):Rat),nxK l (nxK l k))
theorem rl_ints {n d:Int} (h1:n.natAbs<4294967296) (h2:d.natAbs<4294967296):rl ((n:Rat)/(d:Rat))<=1:=by
 rw [<-qv_ints];have:=rl_qv (k:=1) (decide (n<0) != decide (d<0)) (by simpa using h1) (by simpa using h2);omega
theorem rl_int {n:Int} (h1:n.natAbs<4294967296):rl (n:Rat)<=1:=by
 have:=rl_ints (n:=n) (d:=1) h1 ae;rwa [show ((1:Int):Rat)=1 from rfl,cj,show (1:Rat)⁻¹=1 by grind,Rat.mul_one] at this
theorem nb_rl (l:List Int) (k:Nat):rl (nbV l k).1<=1:=by
 have h1:=nxV_lt (l:=l) (k:=k) (n:=13) ae;have h2:=nxV_lt (l:=l) (k:=nxK l (nxK l k)) (n:=4) ae;unfold nbV;split
 ·exact rl_ints J J
 exact rl_int J
theorem ret1ptr {P:Program} {L:St} {t b sz:Nat} {blk:Blk} (h:L.slot t=.eptr b sz 0 0) (hb:L.heap b=some blk) (hp:pures blk.vals=true):RetL P [.tmp t] L (.eptr 1 sz 0 0) [blk] :=
 ⟨[.eptr b sz 0 0],[.eptr 1 sz 0 0],L.heap,[b],.cons h .nil,Heap.le_refl _,.cons (.ptr (k:=0) rfl) .nil,by simp,rfl,fun k c hk=>by
  cases k with
  | zero=>simp at hk;subst hk;exact⟨blk,hb,rfl,hp⟩
  | succ k=>simp at hk,rfl⟩
theorem nxK_le {l:List Int} {k:Nat} (hl:l.length<=500) (hk:k<=500):nxK l k<=500:=by unfold nxK;split<;>omega
theorem nbK_le {l:List Int} {k:Nat} (hl:l.length<=500) (hk:k<=500):(nbV l k).2<=500:=by
 have h1:=nxK_le (l:=l) hl hk;have h2:=nxK_le (l:=l) hl h1;unfold nbV;split
 ·exact nxK_le hl h2
 exact h2
theorem dice_kill (l:List Int) (k b:Nat):(diceL l k).kill b=diceL l k:=LV.kill_pure b _ (by simp [diceL,LV.pure,pures,pures_map i64E])
open H0 in
theorem c_Mod (n m:Int) (hm:0<m) (cL:m<=4611686018427387904):CallP aa 10 [iL n,iL m] (iL (n % m)):=by
 have hE:=mod_fix (a:=n) hm;have hb:=Int.tmod_lt_of_pos n hm;have nN:=Int.lt_tmod_of_pos n hm;refine fnP Tryz.func10 ?_;refine zg9 ?_;refine st_pure rfl (.bin rfl rfl (rem64 J)) ?_;refine zg10 ?_;refine wl_cut (fun L=>∃ (r:Int) (L1:St),(r=n % m)/\L=(mS L1 [] [(0,iL r)])) ?_ ?_
 ·refine wl_if rfl ?_ ?_<;>intro pz h9
  ·refine zg3 ?_;refine st_pure rfl mo ?_;refine zg3 ?_;exact⟨n.tmod m+m,_,by rw [hE,if_pos h9],aL⟩
  refine zg2 ?_;exact⟨n.tmod m,_,by rw [hE,if_neg h9],aL⟩
 rintro _ ⟨r,LC9,hr,rfl⟩;refine zg8 ?_;rw [<-hr];exact bf
open H0 in
theorem c_Light (l:List Int) (h:l.length<=9223372036854775807):CallP aa 5 [.list 1 (l.map i64L)] (bL (decide (l.length<=500))):=by
 refine fnP Tryz.func5 ?_;refine zg14 ?_;refine ret1 (x:=.v (.bool (decide (((l.length:Nat):Int)<=500)))) rfl ?_;rw [show decide (((l.length:Nat):Int)<=500)=decide (l.length<=500) by rw [decide_eq_decide];omega];exact .pure rfl
open H0 in
theorem c_Roll (l:List Int):CallOK aa 24 [.list 1 (l.map i64L)] (.eptr 1 2 0 0) [⟨2,[diceL l 0],true⟩]:=by
 refine fnO Tryz.func24 ?_;refine zg8 ?_;refine st_pure rfl (.build (zs:=[.v (.slice none 0 0),.v (.int .i64 0)]) SL131 Z131 (by simp only [List.forall_mem_cons];exact⟨⟨_,rfl,rfl,ne0⟩,fun _ h=>by cases h⟩)) ?_;refine st_alloc rfl rfl (.box ne0) ?_;refine zg4 ?_;exact ret1ptr rfl rfl (dice_pure l 0)
namespace H_c_Next
theorem zSm {p q:Prop} (k:q) (e:p=q:=by simp only [sNF,ar,au,aq,l1,wh,dfi];exact rfl):p:=e.mpr k
end H_c_Next
open H_c_Next in
theorem c_Next (l:List Int) (k:Nat) (n:Int) (hl:l.length<=500) (hk:k<=500) (hn:0<n) (fy:n<=1000):CallOKM aa 26 ⟨2,[diceL l k],true⟩ [.eptr 0 2 0 0,iL n] (iL (nxV l k n)) ⟨2,[diceL l (nxK l k)],true⟩:=by
 refine fnM Tryz.func26 ?_;have wh:True:=trivial;refine zg7 ?_;refine wl_regD 10 ah ?_;refine zg12 ?_;refine wl_if rfl ?_ ?_<;>intro jg gi
 ·have fR:¬ k<l.length:=J;refine zg7 ?_;rw [nxV,if_neg fR,nxK,if_neg fR];exact retM1 rfl (.imm (.pure rfl)) rfl rfl (dice_pure l _)
 have fR:k<l.length:=J;have wh:(((k+1:Nat):Int)-1).toNat=k:=J;refine zg11 ?_;refine st_store rfl (.store (y:=diceL l k) (y':=diceL l (k+1)) rfl rfl rfl rfl rfl rfl rfl T3 ne0) ?_;refine zg3 ?_;refine wl_regD 14 ah ?_;refine zg8 ?_;refine st_pure rfl (.bin rfl rfl (sub64 (by first | omega | (simp;omega)) (by first | omega | (simp;omega)))) ?_;refine zg3 ?_;refine cp am2 (c_Mod _ _ J J) ?_;refine zg4 ?_;rw [nxV,if_pos fR,nxK,if_pos fR];exact retM1 rfl (.imm (.pure rfl)) rfl rfl (dice_pure l _)
namespace H_c_number
theorem zSm {p q:Prop} (k:q) (e:p=q:=by simp only [sNF,ar,au,aq,l1];exact rfl):p:=e.mpr k
end H_c_number
open H_c_number in
theorem c_number (l:List Int) (k:Nat) (hl:l.length<=500) (hk:k<=500):CallOKM aa 212 ⟨2,[diceL l k],true⟩ [.eptr 0 2 0 0] (ratL (nbV l k).1) ⟨2,[diceL l (nbV l k).2],true⟩:=by
 have k1:=nxK_le (l:=l) hl hk;have k2:=nxK_le (l:=l) hl k1;have mT:=nxV_lt (l:=l) (k:=k) (n:=13) ae;have nN:=nxV_lt (l:=l) (k:=nxK l (nxK l k)) (n:=4) ae;refine fnM Tryz.func212 ?_;refine zg8 ?_;refine st_callM 0 rfl rfl rfl (dice_pure l _) (.cons .ptr (.cons (.imm (.pure rfl)) .nil)) .ptr (c_Next l k 13 J J ae ae) rfl (dice_pure l _) ?_;refine zg7 ?_;refine st_callM 0 rfl rfl rfl (dice_pure l _) (.cons .ptr (.cons (.imm (.pure rfl)) .nil)) .ptr (c_Next l (nxK l k) 4 J J ae ae) rfl (dice_pure l _) ?_;refine zg3 ?_;refine wl_if rfl ?_ ?_<;>intro gM h8
 ·refine zg3 ?_;refine st_pure rfl kA ?_;refine zg1 ?_;refine st_callM 0 rfl rfl rfl (dice_pure l _) (.cons .ptr (.cons (.imm (.pure rfl)) .nil)) .ptr (c_Next l (nxK l (nxK l k)) 4 J J ae ae) rfl (dice_pure l _) ?_;refine st_pure rfl mo ?_;refine cp am2 (c_FFrac (nxV l k 13-6) (1+nxV l (nxK l (nxK l k)) 4) J J J J J) ?_;refine zg5 ?_;rw [nbV,if_pos h8];exact retMC rfl rfl (ratE.csize _) (ratL_all _) T32 (.pure (ratE.pure _)) rfl rfl (dice_pure l _)
 refine zg5 ?_;refine st_pure rfl kA ?_;refine cp am1 (c_FInt (nxV l k 13-6) J J) ?_;refine zg4 ?_;rw [nbV,if_neg h8];exact retMC rfl rfl (ratE.csize _) (ratL_all _) T32 (.pure (ratE.pure _)) rfl rfl (dice_pure l _)
theorem denN_ne1 (q:Rat):denN q≠1:=by rw [denN_eq];split<;>omega
theorem c_NValidD (n:Nat) (h:(dig n).length<=4611686018427387904):CallP aa 132 [magL n] (bL true):=by
 have:=c_NValid (dig n) h;rwa [decide_eq_true] at this;by_cases h0:(dig n).length=0
 ·exact .inl h0
 exact .inr (can_getLast (can_dig n) J)
theorem gcd1 {q:Rat} (h:0<(dig (denN q)).length):bI q.num.natAbs (denN q)=1:=by
 rw [denN_pos h];exact q.reduced
end Go.Proofs.YtlipjipfpkbppaaGreat
namespace Go.Lg
end Go.Lg
namespace Go.Proofs.YtlipjipfpkbppaaGreat
open Go.Lg
namespace H_c_RValid
theorem zSm {p q:Prop} (k:q) (e:p=q:=by simp only [sNF,ar,au,aq,val_dig,dflt,tz0];exact rfl):p:=e.mpr k
end H_c_RValid
open H_c_RValid in
theorem c_RValid (q:Rat) (h:rl q<=1099511627776):CallP aa 72 [ratL q] (bL true):=by
 have a1:=rl_num q;have a2:=rl_den q;have a3:=rl_denN q;have ak:=denN_ne1 q;refine fnP Tryz.func72 ?_;refine zg11 ?_;refine cp am1 (c_NValidD _ J) ?_;refine zg4 ?_;refine cp am1 (c_NValidD _ J) ?_;refine zg8 ?_;refine op_if 18 rfl ?_ ?_<;>intro jU kg
 ·refine zg9 ?_;refine wl_if rfl ?_ ?_<;>intro vF n6
  ·exfalso;have:=(dig_is1 (n:=denN q) J).1;omega
  refine zg11 ?_;refine wl_if rfl ?_ ?_<;>intro pg nY
  ·refine zg6 ?_;refine op_if 33 rfl ?_ ?_<;>intro si h33
   ·have hz:=num0 (q:=q) J;subst hz;refine zg10 ?_;exact bf
   exfalso;have hz:=num0 (q:=q) J;subst hz;revert si;decide
  refine zg9 ?_;refine op_if 43 rfl ?_ ?_<;>intro aft h43
  ·refine zg5 ?_
   first | simp only [val_dig,eH] | skip
   refine zg7 ?_;exact bf
  have eH:=gcd1 (q:=q) J;refine zg4 ?_;refine cp am2 (c_NGcd _ _ (lim_dig _) (lim_dig _) J J) ?_
  first | simp only [val_dig,eH] | skip
  refine cp am1 (c_NBits (dig 1) (lim_dig _) ae) ?_;refine zg6 ?_;exact bf
 refine zg21 ?_;refine wl_if rfl ?_ ?_<;>intro pg nY
 ·refine zg6 ?_;refine op_if 33 rfl ?_ ?_<;>intro si h33
  ·have hz:=num0 (q:=q) J;subst hz;refine zg10 ?_;exact bf
  exfalso;have hz:=num0 (q:=q) J;subst hz;revert si;decide
 refine zg9 ?_;refine op_if 43 rfl ?_ ?_<;>intro aft h43
 ·refine zg5 ?_
  first | simp only [val_dig,eH] | skip
  refine zg7 ?_;exact bf
 have eH:=gcd1 (q:=q) J;refine zg4 ?_;refine cp am2 (c_NGcd _ _ (lim_dig _) (lim_dig _) J J) ?_
 first | simp only [val_dig,eH] | skip
 refine cp am1 (c_NBits (dig 1) (lim_dig _) ae) ?_;refine zg6 ?_;exact bf
def HS (p:List Rat) (t:Rat):Prop:=∃ cc,rl (1-t)+rl t+1<=cc/\cc<=1073741824/\∀ x∈p,(rl x+cc)*2 ^ p.length<=1073741824
theorem HS.len {p:List Rat} {t:Rat} (h:HS p t):p.length<=30:=by
 obtain⟨cc,h1,h2,h3⟩:=h;exact sz_len (aw (Nat.le_add_left 1 _) h1) h3
theorem HS.rl {p:List Rat} {t:Rat} (h:HS p t):rl t<=1073741824/\∀ x∈p,Go.Lg.rl x<=1073741824:=by
 obtain⟨cc,h1,h2,h3⟩:=h;exact⟨J,fun x hx=>by have:=sz_rl (h3 x hx);omega⟩
def evP (p:List Rat) (t:Rat):Rat:=(loP p t).getD (p.length-1) 0
theorem set_getD (o:List Rat) (i x:Nat) (v:Rat) (hi:i<o.length):(o.set i v).getD x 0=if x=i then v else o.getD x 0:=by
 rw [ao,ao,zB];by_cases h:i=x
 ·subst h;simp [hi]
 rw [if_neg h,if_neg (fun e=>h e.symm)]
def chs:Nat->Nat->Nat
 | _,0=>1
 | 0,_+1=>0
 | n+1,k+1=>chs n k+chs n (k+1)
theorem chs_gt:∀ {n k:Nat},n<k->chs n k=0
 | 0,k+1,_=>rfl
 | n+1,k+1,h=>by rw [chs,chs_gt J,chs_gt J]
theorem chs_self:∀ n,chs n n=1
 | 0=>rfl
 | n+1=>by rw [chs,chs_self n,chs_gt J]
theorem chs_zero (n:Nat):chs n 0=1:=by cases n<;>rfl
theorem chs_le:∀ n k,chs n k<=2 ^ n
 | n,0=>by rw [chs_zero];exact dU J
 | 0,k+1=>by simp [chs]
 | n+1,k+1=>by
   have h1:=chs_le n k;have h2:=chs_le n (k+1);rw [chs,dz];omega
theorem chs_pos:∀ {n k:Nat},k<=n->0<chs n k
 | n,0,_=>by rw [chs_zero];omega
 | n+1,k+1,h=>by have:=chs_pos (n:=n) (k:=k) J;rw [chs];omega
theorem chs_40 {n:Nat} (k:Nat) (h:n<=40):chs n k<=1099511627776:=aw (chs_le n k) (gg (n:=2) J h)
def rowI (n:Nat):List Int:=(b9 (n+1)).map fun x=>(chs n x:Int)
def chR (n:Nat):List Rat:=(b9 (n+1)).map fun x=>((chs n x:Int):Rat)
theorem rowI_len (n:Nat):(rowI n).length=n+1:=by simp [rowI]
theorem chR_len (n:Nat):(chR n).length=n+1:=by simp [chR]
theorem rowI_get {n x:Nat} (h:x<=n):(rowI n).getD x 0=(chs n x:Int):=by
 rw [ao,aB (by rw [rowI_len];omega)];simp [rowI]
theorem chR_get {n x:Nat} (h:x<=n):(chR n).getD x 0=((chs n x:Int):Rat):=by
 rw [ao,aB (by rw [chR_len];omega)];simp [chR]
theorem extI {p q:List Int} (hl:p.length=q.length) (h:∀ i,i<p.length->p.getD i 0=q.getD i 0):p=q:=by
 apply lX hl;intro i h1 h2;have:=h i h1;rw [ao,ao,aB h1,aB h2] at this;exact this
theorem set_getI (o:List Int) (i x:Nat) (v:Int) (hi:i<o.length):(o.set i v).getD x 0=if x=i then v else o.getD x 0:=by
 rw [ao,ao,zB];by_cases h:i=x
 ·subst h;simp [hi]
 rw [if_neg h,if_neg (fun e=>h e.symm)]
def PasC (k i:Nat) (o:List Int):Prop:=o.length=k+2/\∀ x,x<k+2->o.getD x 0=if i<x/\x<=k then(chs (k+1) x:Int) else if x<=k then(chs k x:Int) else 1
theorem pas_init (k:Nat):PasC k k (rowI k++[1]):=by
 refine⟨by simp [rowI_len],fun x hx=>?_⟩;rw [if_neg J];by_cases h:x<=k
 ·rw [if_pos h,getD_app1 _ _ _ (by rw [rowI_len];omega),rowI_get h]
 rw [if_neg h,getD_app2 _ _ _ (by rw [rowI_len];omega),rowI_len,show x-(k+1)=0 by omega];rfl
theorem pas_step {k i:Nat} {o:List Int} (h:PasC k (i+1) o) (hi:i+1<=k):PasC k i (o.set (i+1) (o.getD (i+1) 0+o.getD i 0)):=by
 obtain⟨h1,h2⟩:=h;refine⟨by simp [h1],fun x hx=>?_⟩;rw [set_getI _ _ _ _ J];by_cases oV:x=i+1
 ·subst oV;rw [if_pos rfl,if_pos ⟨J,hi⟩,h2 _ J,h2 _ J,if_neg J,if_pos J,if_neg J,if_pos J,chs];simp;omega
 rw [if_neg oV,h2 x hx];by_cases h3:i+1<x/\x<=k
 ·rw [if_pos h3,if_pos ⟨J,h3.2⟩]
 rw [if_neg h3,if_neg (show ¬ (i<x/\x<=k) by omega)]
theorem pas_end {k:Nat} {o:List Int} (h:PasC k 0 o):o=rowI (k+1):=by
 obtain⟨h1,h2⟩:=h;refine extI (by rw [rowI_len,h1]) (fun x hx=>?_);rw [h2 x J,rowI_get J];by_cases h3:0<x/\x<=k
 ·rw [if_pos h3]
 rw [if_neg h3];by_cases h4:x<=k
 ·obtain rfl:x=0:=J;rw [if_pos h4,chs_zero,chs_zero]
 obtain rfl:x=k+1:=J;rw [if_neg h4,chs_self];rfl
theorem pas_bd {k i:Nat} {o:List Int} (h:PasC k i o) (hk:k<=39) {x:Nat} (hx:x<k+2):0<=o.getD x 0/\o.getD x 0<=1099511627776:=by
 rw [h.2 x hx];have h1:=chs_40 (n:=k+1) x J;have h2:=chs_40 (n:=k) x J;split
 ·omega
 split<;>omega
theorem chR_rl {n:Nat} (hn:n<=40):∀ x∈chR n,rl x<=2:=by
 intro x hx;simp only [chR,List.mem_map] at hx;obtain⟨k,_,rfl⟩:=hx;have h:=chs_40 k hn;rw [<-qv_int];have:=rl_qv (k:=2) (decide ((chs n k:Int)<0)) (n:=(chs n k:Int).natAbs) (d:=1) J ae;omega
theorem set_takeR {o p:List Rat} {k:Nat} {v:Rat} (hk:k<p.length) (aP:o.length=p.length) (ht:o.take k=p.take k) (hv:v=p.getD k 0):(o.set k v).take (k+1)=p.take (k+1):=by subst hv;exact cp_take hk aP ht
theorem rtake (n:Nat) (f:Int->LV):((rowI n).map f).take (n+1)=(rowI n).map f:=by rw [aH (by simp [rowI_len])]
theorem ge_zero {p:List Rat} {k:Nat} (h:p.length<=k):p.getD k 0=0:=by
 rw [ao,px h];rfl
theorem ext0 {a b:List Rat} (h:a.length=b.length) (h2:∀ k,k<a.length->a.getD k 0=b.getD k 0):a=b:=by
 refine lX h fun k h1 h3=>?_;have:=h2 k h1;rw [ao,ao,aB h1,aB h3] at this;exact this
theorem set_get0 (o:List Rat) (i:Nat) (v:Rat) (k:Nat) (h:i<o.length):(o.set i v).getD k 0=if i=k then v else o.getD k 0:=by
 rw [ao,ao,zB];split
 ·rename_i e;subst e;first | rw [if_pos h];rfl | rfl
 rfl
theorem getD_rl {o:List Rat} {S:Nat} (h1:1<=S) (h:∀ x∈o,rl x<=S) (k:Nat):rl (o.getD k 0)<=S:=by
 rcases cu k o.length with hk | hk
 ·exact h _ (getD_mem hk)
 rw [ao,px hk];show rl 0<=S;rw [show rl 0=1 from rfl];exact h1
theorem set_rl {o:List Rat} {S:Nat} {i:Nat} {v:Rat} (h:∀ x∈o,rl x<=S) (hv:rl v<=S):∀ x∈o.set i v,rl x<=S:=fun x hx=>by
 rcases List.mem_or_eq_of_mem_set hx with h1 | h1
 ·exact h x h1
 rw [h1];exact hv
theorem add64N {a b:Nat} (h:a+b<=9223372036854775807):binI .add .i64 (a:Nat) (b:Nat)=some (.int .i64 ((a+b:Nat):Int)):=by
 rw [add64 J J];congr 2
theorem add1N {a:Nat} (h:a+1<=9223372036854775807):binI .add .i64 (a:Nat) 1=some (.int .i64 ((a+1:Nat):Int)):=by
 rw [add64 J J];congr 2
theorem set_get_self {o:List Rat} {i:Nat} {v:Rat} (h:i<o.length):(o.set i v).getD i 0=v:=by rw [set_getD _ _ _ _ h,if_pos rfl]
def rowM (x:Rat) (i:Nat) (y:List Rat) (q:List Rat) (o:List Rat):Nat->List Rat
 | 0=>o
 | j+1=>(rowM x i y q o j).set (i+j) ((rowM x i y q o j).getD (i+j) 0+x*(y.getD j 0*q.getD j 0))
def allM (p q:List Rat):Nat->List Rat
 | 0=>ai (p.length-1+(q.length-1)+1) 0
 | i+1=>rowM ((chR (p.length-1)).getD i 0*p.getD i 0) i (chR (q.length-1)) q (allM p q i) q.length
def mulP (p q:List Rat):List Rat:=(b9 (p.length-1+(q.length-1)+1)).map fun k=>(allM p q p.length).getD k 0/(chR (p.length-1+(q.length-1))).getD k 0
theorem mulP_len (p q:List Rat):(mulP p q).length=p.length-1+(q.length-1)+1:=by simp [mulP]
theorem rowM_rl {x:Rat} {i R S:Nat} {y q o:List Rat} (hS:1<=S) (ho:∀ v∈o,rl v<=S) (hx:rl x<=R+2) (hy:∀ v∈y,rl v<=2) (hq:∀ v∈q,rl v<=R) (hR:1<=R):∀ j,∀ v∈rowM x i y q o j,rl v<=S+j*(2*R+5)
 | 0,v,hv=>by have:=ho v hv;omega
 | j+1,v,hv=>by
   have ih:=rowM_rl (i:=i) hS ho hx hy hq hR j;refine set_rl (S:=S+(j+1)*(2*R+5)) (fun w hw=>?_) ?_ v hv
   ·have:=ih w hw;rw [cB];omega
   have h1:=getD_rl J ih (i+j);have h2:=getD_rl J hy j;have h3:=getD_rl J hq j;have e1:=rl_mul (y.getD j 0) (q.getD j 0);have e2:=rl_mul x (y.getD j 0*q.getD j 0);have e3:=rl_add ((rowM x i y q o j).getD (i+j) 0) (x*(y.getD j 0*q.getD j 0));rw [cB];omega
theorem allM_rl {p q:List Rat} {R:Nat} (dW:p.length<=41) (ey:q.length<=41) (hR:1<=R) (dQ:∀ v∈p,rl v<=R) (yt:∀ v∈q,rl v<=R):∀ i,∀ v∈allM p q i,rl v<=1+i*(q.length*(2*R+5))
 | 0,v,hv=>by
   simp only [allM,List.mem_replicate] at hv;rw [hv.2];show rl 0<=_;rw [show rl 0=1 from rfl];omega
 | i+1,v,hv=>by
   have ih:=allM_rl dW ey hR dQ yt i;have hx:rl ((chR (p.length-1)).getD i 0*p.getD i 0)<=R+2:=by
    have h1:=getD_rl J (chR_rl (n:=p.length-1) J) i;have h2:=getD_rl hR dQ i;have:=rl_mul ((chR (p.length-1)).getD i 0) (p.getD i 0);omega
   have:=rowM_rl J ih hx (chR_rl (n:=q.length-1) J) yt hR q.length v hv;rw [cB];omega
theorem repl_get (n x:Nat):(ai n (0:Rat)).getD x 0=0:=by
 rw [ao,acZ];split<;>rfl
def difP (p:List Rat):List Rat:=if p.length<2 then [0] else(b9 (p.length-1)).map fun i=>(((p.length-1:Nat):Int):Rat)*(p.getD (i+1) 0-p.getD i 0)
theorem difP_len {p:List Rat}:(difP p).length=if p.length<2 then 1 else p.length-1:=by unfold difP;split<;>simp
theorem difP_get {p:List Rat} {i:Nat} (h:i+1<p.length):(difP p).getD i 0=(((p.length-1:Nat):Int):Rat)*(p.getD (i+1) 0-p.getD i 0):=by
 unfold difP;rw [if_neg J,ao,aB al];simp
theorem difP_rl {p:List Rat} {R:Nat} (hR:1<=R) (hl:p.length<=1000) (h:∀ x∈p,rl x<=R):∀ x∈difP p,rl x<=2*R+4:=by
 intro x hx;obtain⟨k,hk,rfl⟩:=mem_getD hx;rw [difP_len] at hk;by_cases h2:p.length<2
 ·rw [if_pos h2] at hk;have:difP p=[0]:=by unfold difP;rw [if_pos h2]
  rw [this];obtain rfl:k=0:=J;show rl 0<=_;rw [show rl 0=1 from rfl];omega
 rw [if_neg h2] at hk;rw [difP_get J];have h3:=rl_int (n:=((p.length-1:Nat):Int)) J;have h4:=h _ (getD_mem (i:=k) J);have h5:=h _ (getD_mem (i:=k+1) J);have h6:=rl_sub (p.getD (k+1) 0) (p.getD k 0);have h7:=rl_mul (((p.length-1:Nat):Int):Rat) (p.getD (k+1) 0-p.getD k 0);omega
namespace H_c_Diff
theorem zSm {p q:Prop} (k:q) (e:p=q:=by simp only [sNF,ar,au,aq,dfq,List.length_set,kills_map ratE,ratL_kill,spL_kill,LV.kill,kills];exact rfl):p:=e.mpr k
end H_c_Diff
open H_c_Diff in
theorem c_Diff (p:List Rat) (hl:p.length<=1000) (dC:∀ x∈p,rl x<=1073741824):CallP aa 232 [.list 3 (p.map ratL)] (.list 3 ((difP p).map ratL)):=by
 refine fnP Tryz.func232 ?_;refine zg13 ?_;refine wl_if rfl ?_ ?_<;>intro gM h8
 ·have hE:difP p=[0]:=by unfold difP;rw [if_pos J]
  refine zg2 ?_;refine fu ?_;refine zg6 ?_;rw [hE];exact ret1f [10] rfl rfl (imm_refm ratE rfl rfl rfl)
 have eX:(difP p).length=p.length-1:=by rw [difP_len,if_neg J]
 refine zg6 ?_;refine fG ?_;refine cp am1 (c_RInt ((p.length-1:Nat):Int) J J) ?_;refine zg8 ?_;refine fG ?_;refine st_alloc rfl rfl (.mkE (n:=(p.length-1)) (m:=(p.length-1)) ml ml om om om) ?_;refine zg12 ?_;refine lp2 (fun(i:Nat) (w:List Rat) L=>(mS L [(3,⟨3,[ratL (((p.length-1:Nat):Int):Rat)],true⟩),(18,⟨3,w.map ratL,true⟩)] [(21,nI64 i),(20,nI64 (p.length-1)),(19,.ref 18 3 0 (p.length-1)),(4,.ref 18 3 0 (p.length-1)),(3,.eptr 3 3 0 0),(0,.list 3 (p.map ratL))])) (fun i w=>i<=p.length-1/\w.length=p.length-1/\w.take i=(difP p).take i) (fun i w=>p.length-1-i) 0 (ai (p.length-1) 0) ⟨az _,by simp,rfl⟩ ?_;rintro i w L1 ⟨hi,cS,iM⟩;refine zg6 ?_;refine wl_if rfl ?_ ?_<;>intro uC sL
 ·have hi2:i<p.length-1:=J;have bG:=dC _ (getD_mem (i:=i) J);have ir:=dC _ (getD_mem (i:=i+1) J);have tK:=rl_sub (p.getD (i+1) 0) (p.getD i 0);have xV:=rl_int (n:=((p.length-1:Nat):Int)) J;refine zg10 ?_;refine wl_regD 15 ah ?_;refine zg5 ?_;refine cG ?_;refine zg6 ?_;refine cp am2 (c_RSub (p.getD (i+1) 0) (p.getD i 0) J) ?_;refine cp am2 (c_RMul (((p.length-1:Nat):Int):Rat) (p.getD (i+1) 0-p.getD i 0) J) ?_;refine zg10 ?_;exact nx2 (i+1) (w.set i ((((p.length-1:Nat):Int):Rat)*(p.getD (i+1) 0-p.getD i 0))) ⟨J,by simp [cS],set_takeR J J iM (difP_get J).symm⟩
 obtain rfl:i=p.length-1:=J;have hE:w=difP p:=by
  rw [aH J,aH J] at iM;exact iM
 subst hE;refine zg12 ?_;exact ret1f [18] rfl rfl (imm_refm ratE rfl rfl eX.symm)
end Go.Proofs.YtlipjipfpkbppaaGreat
end
