/- Texts K21, K23, K24, K25, K26, LgX, LgC, LgD, LgF, U1, Z1, Z2, U2, U3, U4, U7, A3, Y0 of this proof, joined. -/
import Derived.Test.YtbkmfcmgilhaaaaGreatQW5
set_option linter.unusedVariables false
set_option linter.unusedSimpArgs false
open Array renaming ext'->y6,getD_eq_getD_getElem?->dQ,getElem?_eq_some_iff->lX,replicate->uo
open Bool renaming and_eq_true->jS,not_eq_true->y9,not_eq_true'->yK,or_eq_true->pI
open Go.Proofs.Tryz renaming func233->asY,prog->ai,underlying124->abf,underlying143->pF,underlying153->wa,underlying25->dp,underlying26->mg
open Int renaming toNat_natCast->afi
open List renaming all_eq_true->nU,append_assoc->pn,append_nil->ey,contains_iff_mem->qJ,count_replicate->ayL,drop_append_of_le_length->an4,drop_drop->rZ,drop_eq_getElem_cons->xR,drop_left'->afE,drop_of_length_le->mE,drop_replicate->aC9,drop_succ_cons->xr,drop_zero->jv,ext_getElem->aaW,getD_eq_getElem?_getD->bq,getElem?_cons_zero->o8,getElem?_drop->u6,getElem?_eq_getElem->ck,getElem?_eq_some_iff->qi,getElem?_map->jY,getElem?_range->ayF,getElem?_take->aBp,getElem_drop->apQ,getElem_map->aqt,getElem_range->aox,getElem_take->aqw,length_append->jx,length_cons->dR,length_drop->jD,length_map->cC,length_nil->fX,length_replicate->oG,length_set->lQ,length_take->fH,map_append->wj,map_cons->nK,map_drop->abj,map_nil->gy,map_take->va,mem_append->nC,mem_cons->dS,mem_map->cZ,mem_of_getElem?->vI,mem_of_mem_drop->yF,mem_of_mem_take->yJ,mem_range->rm,mem_replicate->uK,mem_singleton->iM,nil_append->fD,not_mem_nil->jR,range->cN,replicate->av,replicate_succ'->adx,set_cons_succ->du,set_cons_zero->dD,take_append->aCJ,take_append_of_le_length->aoZ,take_left'->alA,take_length->py,take_nil->gU,take_of_length_le->cy,take_succ_cons->qS,take_zero->tn
open List.cons renaming injEq->iF
open Nat renaming beq->oV,beq_eq->uy,le_refl->bF,le_trans->aP,lt_or_ge->g7,lt_succ_iff_lt_or_eq->aoK,lt_trichotomy->ayz,min_eq_left->nM,min_le_left->apI,mul_le_mul->nP,not_lt_zero->ake,pow_le_pow_right->mN,reduceAdd->bp,reduceBEq->bh,reduceEqDiff->dC,reduceMul->bo,sub_self->uz,zero_add->fZ,zero_le->bW,zero_lt_one->azo
open Option.some renaming injEq->gj
open Rat renaming add_zero->oc,div_def->gQ,intCast_pos->aaw,le_of_lt->kL,le_refl->jM,sub_eq_add_neg->aid
section
set_option linter.unusedVariables false
set_option linter.unusedSimpArgs false
set_option maxHeartbeats 8000000
set_option maxRecDepth 100000
attribute [local irreducible] Go.Lg.opsL Go.Lg.c9 Go.Lg.oF Go.Lg.qF
namespace Go.Proofs.YtbkmfcmgilhaaaaGreat
open Go.Lg
def a8(d:Nat)(a b:Rat):List Rat:=av (d+1) a++av (d+1) b
theorem kz(d:Nat)(a b:Rat):(a8 d a b).length=2*(d+1):=by simp[a8];omega
theorem jz(d:Nat)(a b:Rat)(i:Nat)(h:i<2*(d+1)):(a8 d a b).getD i 0=if i<d+1 then a else b:=by
 unfold a8;split
 ·rw[gD1 aQ,xQ J]
 rw[gD2 aQ,oG,xQ J]
theorem ye(d:Nat)(a b:Rat):(a8 d a b).getD 0 0=a:=by rw[jz _ _ _ _ J,if_pos J]
theorem zz(d:Nat)(a b:Rat):(a8 d a b).getD (2*(d+1)-1) 0=b:=by rw[jz _ _ _ _ J,if_neg J]
theorem adG{d:Nat}{a b:Rat}{R:Nat}(ha:rl a<=R)(hb:rl b<=R):∀x∈a8 d a b,rl x<=R:=fun x hx=>by
 rcases nC.1 hx with g|g
 ·rw[(uK.1 g).2];exact ha
 rw[(uK.1 g).2];exact hb
theorem aL4{d m:Nat}{a b:Rat}(h:m<2*(d+1))(h2:m<=d):(a8 d a b).take m++[a]=(a8 d a b).take (m+1):=by
 have e:=jz d a b m h;rw[if_pos J]at e;rw[<-adR (l:=a8 d a b) (k:=m) (by rw[kz];exact h),e]
theorem aIR{d m:Nat}{a b:Rat}(h:m<2*(d+1))(h2:¬m<=d):(a8 d a b).take m++[b]=(a8 d a b).take (m+1):=by
 have e:=jz d a b m h;rw[if_neg J]at e;rw[<-adR (l:=a8 d a b) (k:=m) (by rw[kz];exact h),e]
theorem aO1{a b:Rat}(h:a<b):gg a b=a:=by unfold gg;rw[if_neg ba]
theorem aJm{a b:Rat}(h:a<b):fN a b=b:=by unfold fN;rw[if_pos h]
theorem ale{p:List Rat}{x:Rat}(hl:p.length<=7)(hp:∀y∈p,rl y<=7000000)(hx:rl x<=100000):HS p x:=by
 have h1:=eX 1 x;have h0:rl 1=1:=rfl;refine⟨rl (1-x)+rl x+1,bF _,J,fun y hy=>?_⟩;have h2:=hp y hy;have h3:2^p.length<=2^7:=mN aj hl;have h4:(rl y+(rl (1-x)+rl x+1))*2^p.length<=8000000*2^7:=nP J h3;omega
theorem axc{p:List Rat}{x:Rat}{R S:Nat}(hl:p.length<=7)(hp:∀y∈p,rl y<=R)(hR:1<=R)(hx:rl (1-x)+rl x+1<=S):∀y∈lE p x,rl y<=(R+S)*64:=fun y hy=>by
 obtain⟨j,hj,rfl⟩:=List.mem_iff_getElem.1 hy;have iH:j<p.length:=by rw[aa4]at hj;exact hj
 have e:(lE p x)[j]=(lE p x).getD j 0:=by rw[bq,ck hj];rfl
 rw[e,akn iH];have h1:=ak3 (a:=1-x) (b:=x) (p.length-1-j) (fun i=>p.getD (j+i) 0) R (fun i=>ix hR hp _);have h2:2^(p.length-1-j)<=64:=mN (n:=2) aj (show p.length-1-j<=6 by omega);exact aP h1 (nP J h2)
theorem aF9{n:Nat}(h:2*n<=9223372036854775807):eO .mul .i64 2 (n:Nat)=some (.int .i64 ((2*n:Nat):Int)):=by
 rw[ahM J J];congr 2
theorem amk(d sz:Nat)(x z:LV)(Z:Nat->Prop)(μ:Nat->Option Nat)(w:World)(cs:List Value)(h:aH Z μ w (.agg [x,.v (.slice none 0 0),z]) cs):aH Z μ w (.agg [x,.ref d sz 0 0,z]) cs:=by
 simp only[aH,cP]at h ⊢;obtain⟨c1,c2,e1,e2,e3,c3,c4,e4,e5,e6,c5,c6,e7,e8,e9,e10⟩:=h;exact⟨c1,c2,e1,e2,e3,c3,c4,e4,e5,.inl ⟨e6.1,trivial⟩,c5,c6,e7,e8,e9,e10⟩
namespace axA
theorem aJ{p q:Prop}(k:q)(e:p=q:=by simp only[bD,bo,bp,bh,fw,fg,jt,dR,fX,fD,gy,gU,ey,dD,du,dC,reduceIte,if_true,if_false,dW,LV.kill,bC];exact rfl):p:=e.mpr k
end axA
open axA in
theorem aN3(d:Nat)(kn:List Rat)(po:List aF)(R:Nat)(hR:R<=1000000)(h:uG po d R):an ai 82 [.agg [ah d,.list 3 (kn.map ae),.list 12 (po.map aA)]] (.list 9 ((po.map (·.p)).map aR)):=by
 have hl:=h.hl;have hd:=h.hd;have h6:=h.h6;have dZ:LV.pure (.agg [ah d,.list 3 (kn.map ae),.list 12 (po.map aA)])=true:=eN;refine aL Tryz.func82 (ht:=(fun g=>LV.db g _ (eY cu _ _))) ?_;have fw:True:=trivial;have fg:True:=trivial;refine ab7 ?_;refine iS ((au.kill _ 1).trans (au.own (t:=3) 17 9 rfl rfl)) ?_;refine dy (fun(i:Nat) L=>(mS L [(17,⟨9,((po.map (·.p)).take i).map aR,true⟩)] [(9,ah i),(8,ah po.length),(7,.list 12 (po.map aA)),(3,.ref 17 9 0 i)])) (fun i=>i<=po.length) (fun i=>po.length-i) 0 (bW _) ?_;rintro i L1 hi;refine a6 ?_;refine aD rfl ?_ ?_<;>intro nj pC
 ·have cM:i<po.length:=J;have fg:=yO (·.p) po cM;have zh:((po.map (·.p)).take i).length=i:=by rw[fH,cC];omega
  have fw:(((po.map (·.p)).take i).map aR).take i=((po.map (·.p)).take i).map aR:=cy fW;refine nh ?_;refine cj rfl (.eU (d:=17) (news:=[aR (po.getD i default).p]) rfl rfl rfl rfl aQ (.inl rfl) aj wa wa Z40 jw cs B40 (.inl ⟨16,0,_,rfl,by decide,rfl,rfl,by simp,rfl,by simp[aO,cu.pure]⟩) aQ aQ aj) ?_;refine aK ?_;refine cO ((au.kill _ 5).trans (au.kill _ 16)) ?_;refine eP ?_;exact gM
 obtain rfl:i=po.length:=J;have hE:(po.map (·.p)).take po.length=(po.map (·.p)):=cy aE;refine bG ?_;simp only[hE];exact lZ [17] rfl rfl (da cu rfl rfl aE)
open fc in
theorem aCm(q:aF)(R:Nat)(hR:R<=1000000)(h:oO R q):an ai 143 [aA q] (.agg [ae (q.w*q.p.x),ae (q.w*q.p.y),ae (q.w*q.p.z),ae q.w]):=by
 obtain⟨⟨a1,a2,a3⟩,a4,_⟩:=h;have hA:=lf q.w 0 (by have:rl 0=1:=rfl;omega);rw[oc]at hA;refine aL Tryz.func143 (ht:=(fun g=>LV.db g _ pu)) ?_;refine nn ?_;refine gH ?_;refine aN (jE q.w q.p.x J) ?_;refine aW ?_;refine cO (au.kill _ 5) ?_;refine nR ?_;refine aN (jE q.w q.p.y J) ?_;refine aW ?_;refine cO (au.kill _ 5) ?_;refine nR ?_;refine aN (jE q.w q.p.z J) ?_;refine aW ?_;refine cO (au.kill _ 5) ?_;refine aK ?_;refine pa ?_;refine bM ?_;refine pg ?_;refine cp aC (hA) ?_;refine bN ?_;exact iJ [] rfl rfl rfl cs (cU cs rfl) acY (.pure pu)
namespace aq7
theorem aJ{p q:Prop}(k:q)(e:p=q:=by simp only[bD,bo,bp,bh,aly,alq,aaz,amc,amu,akV,aae,alw,jt,dR,fX,fD,gy,gU,ey,dD,du,dC,reduceIte,if_true,if_false,dW,LV.kill,bC];exact rfl):p:=e.mpr k
end aq7
open aq7 in
theorem akf(d:Nat)(kn:List Rat)(po:List aF)(R:Nat)(hR:R<=1000000)(h:uG po d R):an ai 76 [.agg [ah d,.list 3 (kn.map ae),.list 12 (po.map aA)]] (.agg [.list 3 ((a7 po 0).map ae),.list 3 ((a7 po 1).map ae),.list 3 ((a7 po 2).map ae),.list 3 ((aS po).map ae)]):=by
 have hl:=h.hl;have hd:=h.hd;have h6:=h.h6;have dZ:LV.pure (.agg [ah d,.list 3 (kn.map ae),.list 12 (po.map aA)])=true:=eN;have jJ:=s9 po 0;have nm:=s9 po 1;have ma:=s9 po 2;have xz:=tb po;refine aL Tryz.func76 (ht:=(fun g=>LV.db g _ adf)) ?_;have aly:True:=trivial;have alq:True:=trivial;have aaz:True:=trivial;have amc:True:=trivial;have amu:True:=trivial;have akV:True:=trivial;have aae:True:=trivial;have alw:True:=trivial;refine ab7 ?_;refine iS (((au.kill _ 1).trans (au.cell 3 rfl (fun Z μ w cs h=>ay3 1001 1002 1003 1004 3 Z μ w cs h))).trans ((au.qy _ 1001 3 rfl).trans ((au.qy _ 1002 3 rfl).trans ((au.qy _ 1003 3 rfl).trans (au.qy _ 1004 3 rfl))))) ?_;refine dy (fun(j:Nat) L=>(mS L [(2,⟨4,[.agg [.v (.slice none 0 0),.v (.slice none 0 0),.v (.slice none 0 0),.v (.slice none 0 0)]],true⟩),(3,⟨4,[.agg [.ref 1001 3 0 j,.ref 1002 3 0 j,.ref 1003 3 0 j,.ref 1004 3 0 j]],true⟩),(1001,⟨3,((a7 po 0).take j).map ae,true⟩),(1002,⟨3,((a7 po 1).take j).map ae,true⟩),(1003,⟨3,((a7 po 2).take j).map ae,true⟩),(1004,⟨3,((aS po).take j).map ae,true⟩)] [(11,ah j),(10,ah po.length),(9,.list 12 (po.map aA)),(3,.aB 3 4 0 0),(2,.aB 2 4 0 0)])) (fun j=>j<=po.length) (fun j=>po.length-j) 0 (bW _) ?_;rintro j L1 hj;refine a6 ?_;refine aD rfl ?_ ?_<;>intro acI h12
 ·have iH:j<po.length:=J;have fe:=h.ok _ (qo iH);have amu:(a7 po 0).take j++[(po.getD j default).w*(po.getD j default).p.x]=(a7 po 0).take (j+1):=yO (fun q:aF=>q.w*q.p.at 0) po iH;have akV:(a7 po 1).take j++[(po.getD j default).w*(po.getD j default).p.y]=(a7 po 1).take (j+1):=yO (fun q:aF=>q.w*q.p.at 1) po iH;have aae:(a7 po 2).take j++[(po.getD j default).w*(po.getD j default).p.z]=(a7 po 2).take (j+1):=yO (fun q:aF=>q.w*q.p.at 2) po iH;have alw:(aS po).take j++[(po.getD j default).w]=(aS po).take (j+1):=yO (fun q:aF=>q.w) po iH;have aly:(((a7 po 0).take j).map ae).take j=((a7 po 0).take j).map ae:=cy wB;have alq:(((a7 po 1).take j).map ae).take j=((a7 po 1).take j).map ae:=cy wB;have aaz:(((a7 po 2).take j).map ae).take j=((a7 po 2).take j).map ae:=cy wB;have amc:(((aS po).take j).map ae).take j=((aS po).take j).map ae:=cy wB;refine bf (aCm (po.getD j default) R hR fe) ?_;refine nR ?_;refine dj ?_;refine gE 6 [0] aG ?_;refine a6 ?_
  refine cj rfl (.eU (d:=1001) (news:=[ae ((po.getD j default).w*(po.getD j default).p.x)]) rfl rfl rfl rfl aQ (.inl rfl) aj pF pF jg cS rfl jq (.inl ⟨26,0,_,rfl,by decide,rfl,rfl,by simp,rfl,by simp[aO,ao.pure]⟩) aQ aQ aj) ?_;refine aW ?_;refine cO ((au.kill _ 7).trans (au.kill _ 26)) ?_;refine nR ?_;refine dj ?_;refine gE 6 [0] aG ?_;refine a6 ?_;refine cj rfl (.eU (d:=1002) (news:=[ae ((po.getD j default).w*(po.getD j default).p.y)]) rfl rfl rfl rfl aQ (.inl rfl) aj pF pF jg cS rfl jq (.inl ⟨26,0,_,rfl,by decide,rfl,rfl,by simp,rfl,by simp[aO,ao.pure]⟩) aQ aQ aj) ?_;refine aW ?_;refine cO ((au.kill _ 7).trans (au.kill _ 26)) ?_;refine nR ?_;refine dj ?_;refine gE 6 [0] aG ?_;refine a6 ?_;refine cj rfl (.eU (d:=1003) (news:=[ae ((po.getD j default).w*(po.getD j default).p.z)]) rfl rfl rfl rfl aQ (.inl rfl) aj pF pF jg cS rfl jq (.inl ⟨26,0,_,rfl,by decide,rfl,rfl,by simp,rfl,by simp[aO,ao.pure]⟩) aQ aQ aj) ?_;refine aW ?_;refine cO ((au.kill _ 7).trans (au.kill _ 26)) ?_;refine aK ?_;refine xV ?_
  refine a6 ?_;refine qO (b:=_) rfl aj ?_;refine dj ?_;refine gE 6 [0] aG ?_;refine a6 ?_;refine cj rfl (.eU (d:=1004) (news:=[ae ((po.getD j default).w)]) rfl rfl rfl rfl aQ (.inl rfl) aj pF pF jg cS rfl jq (.inl ⟨26,0,_,rfl,by decide,rfl,rfl,by simp,rfl,by simp[aO,ao.pure]⟩) aQ aQ aj) ?_;refine aW ?_;refine cO ((au.kill _ 7).trans (au.kill _ 26)) ?_;refine aK ?_;refine pa ?_;refine a6 ?_;refine cO (au.kill _ 5) ?_;refine eP ?_;exact yd
 obtain rfl:j=po.length:=J;have hE0:(a7 po 0).take po.length=(a7 po 0):=cy J;have zx:(a7 po 1).take po.length=(a7 po 1):=cy J;have w7:(a7 po 2).take po.length=(a7 po 2):=cy J;have hE3:(aS po).take po.length=(aS po):=cy J;refine bG ?_;simp only[hE0,zx,w7,hE3];exact iJ [1001,1002,1003,1004] rfl rfl rfl cs (cU cs rfl) amP (.agg (.cons (da ao rfl rfl jJ.symm) (.cons (da ao rfl rfl nm.symm) (.cons (da ao rfl rfl ma.symm) (.cons (da ao rfl rfl xz.symm) .nil)))))
namespace aoF
theorem aJ{p q:Prop}(k:q)(e:p=q:=by simp only[bD,bo,bp,bh,cg,gz,cI,jf,cC,dD,du,dC,reduceIte,if_true,if_false,dW,LV.kill,bC];exact rfl):p:=e.mpr k
end aoF
open aoF in
theorem ajR(d:Nat)(a b:Rat)(po:List aF)(ha:rl a<=100)(hb:rl b<=100)(cm:a<b)(h9:d<=6):an ai 29 [.agg [ah d,.list 3 ((a8 d a b).map ae),.list 12 (po.map aA)]] (ar (a,b)):=by
 have gz:=kz d a b;have cI:=ye d a b;have jf:=zz d a b;have dZ:LV.pure (.agg [ah d,.list 3 ((a8 d a b).map ae),.list 12 (po.map aA)])=true:=eN;have hS:=ad4 a b J;rw[aO1 cm,aJm cm]at hS;refine aL Tryz.func29 ?_;refine iR ?_;refine aD rfl ?_ ?_<;>intro y5 h6
 ·omega
 refine dj ?_;refine jc ?_;refine bc ?_
 try simp only[t1,cg,gz,cI,jf,cC]
 refine cp aC (hS) ?_;refine aK ?_;exact mL
open aoF in
theorem af3(d:Nat)(a b:Rat)(po:List aF)(ha:rl a<=100)(hb:rl b<=100)(cm:a<b)(h9:d<=6):an ai 19 [.agg [ah d,.list 3 ((a8 d a b).map ae),.list 12 (po.map aA)]] (ar (a,b)):=by
 have gz:=kz d a b;have cI:=ye d a b;have jf:=zz d a b;have dZ:LV.pure (.agg [ah d,.list 3 ((a8 d a b).map ae),.list 12 (po.map aA)])=true:=eN;refine aL Tryz.func19 ?_;refine nh ?_;refine jc ?_;refine bK ?_;exact mL
open fc in
theorem aqW(d:Nat)(a b:Rat)(po:List aF)(ha:rl a<=100)(hb:rl b<=100)(cm:a<b)(h9:d<=6)(t x:Rat)(ht:rl t<=100)(h1:a<=t)(h2:t<=b)(hx:(t-a)/(b-a)=x)(jh:0<po.length):an ai 74 [.agg [ah d,.list 3 ((a8 d a b).map ae),.list 12 (po.map aA)],ae t] (.aY [ae x,ae (b-a),bL true]):=by
 have gz:=kz d a b;have cI:=ye d a b;have jf:=zz d a b;have dZ:LV.pure (.agg [ah d,.list 3 ((a8 d a b).map ae),.list 12 (po.map aA)])=true:=eN;have ri:=eX t a;have yG:=eX b a;have hD:=ajR d a b po ha hb cm h9;have hW:an ai 154 [ar (a,b)] (ae (b-a)):=aoY (a,b) (by show rl b+rl a<=_;omega);have hQ:an ai 159 [ae (t-a),ae (b-a)] (.aY [ae x,iL 0]):=by
  have:=zp (t-a) (b-a) J;rw[if_neg ba,hx]at this;exact this
 have hH:an ai 86 [ar (a,b),ae t] (bL true):=by
  have:=alZ (a,b) t (by show rl a+rl t<=_;omega) (by show rl t+rl b<=_;omega);unfold ks at this;rw[decide_eq_true h1,decide_eq_true h2]at this;exact this
 refine aL Tryz.func74 (ht:=(ahv (ao.pure _) (ao.pure _) rfl)) ?_;refine bf (hD) ?_;refine bG ?_;refine dU 15 rfl ?_ ?_<;>intro rB n9
 ·omega
 refine aN (hH) ?_;refine aK ?_;refine aD rfl ?_ ?_<;>intro wk h20
 ·first|exact h20.elim|cases wk
 refine bf (hW) ?_;refine aK ?_;refine gE 9 [8] aG ?_;refine aN (ue t a J) ?_;refine aN (hQ) ?_;refine bH ?_;refine ack ?_;refine fx 2 rfl rfl aG (.pure (.move _)) gu fy ?_;refine fx 3 rfl rfl aG (.pure biA) gu fy ?_;refine jy 0 1 _ _ aG rfl rfl ?_ ?_
 ·refine eT ?_;refine jy 1 4 _ _ aG rfl rfl ?_ ?_
  ·refine eT ?_;refine di 4 _ aG rfl ?_;refine eT ?_;refine ac4 ?_;refine pb aG ?_;refine bc ?_;exact aoC
  refine eT ?_;refine di 1 _ aG rfl ?_;refine eT ?_;refine ac4 ?_;refine pb aG ?_;refine bc ?_;exact aoC
 refine eT ?_;refine di 0 _ aG rfl ?_;refine eT ?_;refine di 4 _ aG rfl ?_;refine eT ?_;refine ac4 ?_;refine pb aG ?_;refine bc ?_;exact aoC
namespace aeO
theorem aJ{p q:Prop}(k:q)(e:p=q:=by simp only[bD,bo,bp,bh,List.getD_cons_zero,dD,du,dC,reduceIte,if_true,if_false,dW,LV.kill,bC];exact rfl):p:=e.mpr k
end aeO
open aeO in
theorem awT(n0 n1 n2 w:Rat)(R:Nat)(hR:R<=1000000000)(h0:rl n0<=R)(h1:rl n1<=R)(h2:rl n2<=R)(hw:rl w<=R)(nt:0<w):an ai 79 [.agg [ae n0,ae n1,ae n2,ae w]] (aA ⟨⟨n0/w,n1/w,n2/w⟩,w⟩):=by
 have hA:=lf w 0 (by have:rl 0=1:=rfl;omega);rw[oc]at hA;have aZ:w≠0:=ba;have hQ0:an ai 159 [ae n0,ae w] (.aY [ae (n0/w),iL 0]):=by
  have:=zp n0 w J;rwa[if_neg aZ]at this
 have hQ1:an ai 159 [ae n1,ae w] (.aY [ae (n1/w),iL 0]):=by
  have:=zp n1 w J;rwa[if_neg aZ]at this
 have hQ2:an ai 159 [ae n2,ae w] (.aY [ae (n2/w),iL 0]):=by
  have:=zp n2 w J;rwa[if_neg aZ]at this
 refine aL Tryz.func79 (ht:=(fun g=>LV.db g _ (ez.pure _))) ?_;refine bH ?_
 try simp only[List.getD_cons_zero]
 refine bc ?_;refine pg ?_;refine cp aC (hA) ?_;refine tj (bdW rfl) ?_;refine bN ?_;refine gH ?_;refine b7 ?_;refine gE 12 [9] aG ?_;refine aN (hQ0) ?_;refine ff ?_;refine gH ?_;refine b7 ?_;refine gE 12 [9] aG ?_;refine aN (hQ1) ?_;refine ff ?_;refine gH ?_;refine b7 ?_;refine gE 12 [9] aG ?_;refine aN (hQ2) ?_;refine ff ?_;refine pa ?_;refine bG ?_;exact iJ [] rfl rfl rfl cs (cU cs rfl) oT (.pure pu)
namespace aBJ
theorem aJ{p q:Prop}(k:q)(e:p=q:=by simp only[bD,bo,bp,bh,List.take_zero,fw,aa2,yr,fg,cg,jJ,nm,ma,xz,cC,jt,dR,fX,fD,gy,gU,ey,dD,du,dC,reduceIte,if_true,if_false,dW,LV.kill,bC];exact rfl):p:=e.mpr k
end aBJ
open aBJ in
theorem aGU(d:Nat)(a b:Rat)(po:List aF)(ha:rl a<=100)(hb:rl b<=100)(cm:a<b)(h9:d<=6)(lo hi x y:Rat)(se:rl lo<=100)(vO:rl hi<=100)(k1:a<=lo)(k2:lo<hi)(k3:hi<=b)(hx:(lo-a)/(b-a)=x)(hy:(hi-a)/(b-a)=y)(iT:x<1)(xc:rl (1-x)+rl x+1<=20)(hyr:rl (1-y)+rl y+1<=20)(R:Nat)(hR:R<=1000000)(h:uG po d R)(hN:∀k,∀z∈a7 po k,rl z<=100000)(hW:∀z∈aS po,rl z<=100000)(lH:0<=x)(ky:0<=y)(qP:y<=1):an ai 31 [.agg [ah d,.list 3 ((a8 d a b).map ae),.list 12 (po.map aA)],ae lo,ae hi] (.aY [.agg [ah d,.list 3 ((a8 d lo hi).map ae),.list 12 ((lT po x y).map aA)],iL 0]):=by
 have hl:=h.hl;have hd:=h.hd;have h6:=h.h6;have dZ:LV.pure (.agg [ah d,.list 3 ((a8 d a b).map ae),.list 12 (po.map aA)])=true:=eN;have hOx:=aqW d a b po ha hb cm h9 lo x se k1 ba hx J;have hOy:=aqW d a b po ha hb cm h9 hi y vO ba k3 hy J;have xW:¬0<=fY lo hi:=fun e=>by have:=xx.1 e;grind
 have hrx:rl x<=20:=J;have hry:rl y<=20:=J;have tY:rl 0=1:=rfl;have hAl:=lf lo 0 J;have hAh:=lf hi 0 J;rw[oc]at hAl hAh;have gz:=kz d lo hi;have hw3:=av1 h;have mK:=ajB h 0;have rR:=ajB h 1;have hq2:=ajB h 2;have jJ:(df (a7 po 0) x y).length=d+1:=by rw[ac9];omega
 have nm:(df (a7 po 1) x y).length=d+1:=by rw[ac9];omega
 have ma:(df (a7 po 2) x y).length=d+1:=by rw[ac9];omega
 have xz:(df (aS po) x y).length=d+1:=by rw[ac9];omega
 have hsy:=eX y x;have km:∀l:List Rat,aO (l.map ae)=true:=fun l=>bm ao l;have ag4:∀q0 vF q2' q3':Rat,LV.pure (.agg [ae q0,ae vF,ae q2',ae q3'])=true:=fun _ _ _ _=>by simp[LV.pure,aO,ao.pure]
 have vv:=eX 1 x;have hdv:=pv (y-x) (1-x);have aZ:1-x≠0:=ba;have hP:∀p:List Rat,p.length=d+1->(∀z∈p,rl z<=100000)->an ai 77 [.list 3 (p.map ae),ae x,ae y] (.list 3 ((df p x y).map ae)):=fun p hp hz=>by
  have:=aJC p x y J J (fun z hh=>aP (hz z hh) aj) J (fun _=>⟨ale J (fun z hh=>aP (hz z hh) aj) J,ale (by rw[aa4];omega) (fun z hh=>aP (axc J hz aj xc z hh) aj) J⟩) (fun e=>absurd e aZ);rwa[avI]at this
 have hP0:=hP (a7 po 0) J (hN 0);have uS:=hP (a7 po 1) J (hN 1);have uD:=hP (a7 po 2) J (hN 2);have hP3:=hP (aS po) J hW;refine aL Tryz.func31 (ht:=(iz eN rfl)) ?_;have fw:True:=trivial;have aa2:True:=trivial;have yr:True:=trivial;have fg:True:=trivial;refine aN (hOx) ?_;refine aN (hOy) ?_;refine nh ?_;refine al oN (.move _) ?_;refine adE ?_;refine bn ?_;refine al oN gJ ?_;refine al oN gJ ?_;refine dN oN (.cons eu (.cons eu .nil)) (pS lo hi J) ?_;refine al oN (.bin rfl rfl rfl) ?_;refine al rfl (.r7 rfl ((rfl))) ?_;refine bc ?_;refine aD rfl ?_ ?_<;>intro aQO h46
 ·first|exact xW h46|omega
 refine bf (akf d (a8 d a b) po R hR h) ?_;refine nR ?_;refine rC (hP0) ?_;refine b7 ?_;refine gH ?_;refine rC (uS) ?_;refine b7 ?_;refine gH ?_;refine rC (uD) ?_;refine b7 ?_;refine gH ?_;refine rC (hP3) ?_;refine b7 ?_;refine pa ?_;refine lV ?_;refine lG ?_;refine al rfl (.bin rfl rfl (aF9 J)) ?_;refine aK ?_;refine iS ((au.cell 17 rfl (fun Z μ w cs h=>amk 83 3 _ _ Z μ w cs h)).trans (au.qy _ 83 3 rfl)) ?_
 refine dy (fun(m:Nat) L=>(mS L [(3,⟨3,[.agg [ah d,.list 3 ((a8 d a b).map ae),.list 12 (po.map aA)]],true⟩),(4,⟨3,[ae lo],true⟩),(5,⟨3,[ae hi],true⟩),(6,⟨3,[.agg [.v (.int .i64 0),.v (.slice none 0 0),.v (.slice none 0 0)]],true⟩),(8,⟨3,[ae x],true⟩),(9,⟨3,[ae (b-a)],true⟩),(11,⟨3,[ae y],true⟩),(12,⟨3,[ae (b-a)],true⟩),(14,⟨4,[.agg [.list 3 ((df (a7 po 0) x y).map ae),.list 3 ((df (a7 po 1) x y).map ae),.list 3 ((df (a7 po 2) x y).map ae),.list 3 ((df (aS po) x y).map ae)]],true⟩),(17,⟨3,[.agg [ah d,.ref 83 3 0 m,.v (.slice none 0 0)]],true⟩),(83,⟨3,((a8 d lo hi).take m).map ae,true⟩)] [(68,ah m),(67,ah (2*(d+1))),(17,.aB 17 3 0 0),(14,.aB 14 4 0 0),(6,.aB 6 3 0 0),(5,.aB 5 3 0 0),(4,.aB 4 3 0 0),(3,.aB 3 3 0 0)])) (fun m=>m<=2*(d+1)) (fun m=>2*(d+1)-m) 0 (bW _) ?_;rintro m L2 hm;refine a6 ?_;refine aD rfl ?_ ?_<;>intro aun h69
 ·have fC:m<2*(d+1):=J;have kX:((a8 d lo hi).take m).length=m:=aab;have fw:(((a8 d lo hi).take m).map ae).take m=((a8 d lo hi).take m).map ae:=cy fW;refine amI ?_;refine aD rfl ?_ ?_<;>intro aRy h75
  ·have zy:¬m<=d:=J;have yr:=aIR (a:=lo) (b:=hi) fC zy;refine b7 ?_
   first|refine cp aC hAl ?_|refine cp aC hAh ?_
   refine bn ?_
   first|refine cj rfl (.app (news:=[ae lo]) rfl rfl rfl rfl rfl fW (.inl rfl) aj dp dp jg cS rfl jq (.inl ⟨82,0,_,rfl,by decide,rfl,rfl,by simp,rfl,by simp[aO,ao.pure]⟩) aQ aQ aj) ?_|refine cj rfl (.app (news:=[ae hi]) rfl rfl rfl rfl rfl fW (.inl rfl) aj dp dp jg cS rfl jq (.inl ⟨82,0,_,rfl,by decide,rfl,rfl,by simp,rfl,by simp[aO,ao.pure]⟩) aQ aQ aj) ?_
   refine aW ?_;refine cO ((au.kill _ 19).trans (au.kill _ 82)) ?_;refine eP ?_;exact ji (m+1) J
  have zy:m<=d:=J;have aa2:=aL4 (a:=lo) (b:=hi) fC zy;refine bK ?_
  first|refine cp aC hAl ?_|refine cp aC hAh ?_
  refine bn ?_
  first|refine cj rfl (.app (news:=[ae lo]) rfl rfl rfl rfl rfl fW (.inl rfl) aj dp dp jg cS rfl jq (.inl ⟨82,0,_,rfl,by decide,rfl,rfl,by simp,rfl,by simp[aO,ao.pure]⟩) aQ aQ aj) ?_|refine cj rfl (.app (news:=[ae hi]) rfl rfl rfl rfl rfl fW (.inl rfl) aj dp dp jg cS rfl jq (.inl ⟨82,0,_,rfl,by decide,rfl,rfl,by simp,rfl,by simp[aO,ao.pure]⟩) aQ aQ aj) ?_
  refine aW ?_;refine cO ((au.kill _ 19).trans (au.kill _ 82)) ?_;refine eP ?_;exact ji (m+1) J
 obtain rfl:m=2*(d+1):=J;have hEk:(a8 d lo hi).take (2*(d+1))=(a8 d lo hi):=cy J;simp only[hEk];refine iR ?_;refine iS ((au.cell 17 rfl (fun Z μ w cs h=>aeB 117 12 _ _ Z μ w cs h)).trans (au.qy _ 117 12 rfl)) ?_;refine dy (fun(j:Nat) L=>(mS L [(3,⟨3,[.agg [ah d,.list 3 ((a8 d a b).map ae),.list 12 (po.map aA)]],true⟩),(4,⟨3,[ae lo],true⟩),(5,⟨3,[ae hi],true⟩),(6,⟨3,[.agg [.v (.int .i64 0),.v (.slice none 0 0),.v (.slice none 0 0)]],true⟩),(8,⟨3,[ae x],true⟩),(9,⟨3,[ae (b-a)],true⟩),(11,⟨3,[ae y],true⟩),(12,⟨3,[ae (b-a)],true⟩),(14,⟨4,[.agg [.list 3 ((df (a7 po 0) x y).map ae),.list 3 ((df (a7 po 1) x y).map ae),.list 3 ((df (a7 po 2) x y).map ae),.list 3 ((df (aS po) x y).map ae)]],true⟩),(17,⟨3,[.agg [ah d,.ref 83 3 0 (2*(d+1)),.ref 117 12 0 j]],true⟩),(83,⟨3,(a8 d lo hi).map ae,true⟩),(117,⟨12,((lT po x y).take j).map aA,true⟩)] [(89,ah j),(88,ah (d+1)),(17,.aB 17 3 0 0),(14,.aB 14 4 0 0),(6,.aB 6 3 0 0),(5,.aB 5 3 0 0),(4,.aB 4 3 0 0),(3,.aB 3 3 0 0)])) (fun j=>j<=d+1) (fun j=>d+1-j) 0 (bW _) ?_;rintro j L3 hj;refine a6 ?_;refine aD rfl ?_ ?_<;>intro aLc h90
 ·have iH:j<d+1:=J;have hpj:=amT h lH iT ky qP (j:=j) J;have kX:((lT po x y).take j).length=j:=by rw[fH,abo];omega
  have fw:(((lT po x y).take j).map aA).take j=((lT po x y).take j).map aA:=cy fW;have fg:(lT po x y).take j++[cpQ po x y j]=(lT po x y).take (j+1):=by
   rw[<-azn (x:=x) (y:=y) (show j<po.length by omega),List.take_add_one,bq,ck (by rw[abo];omega)];rfl
  have hcw:rl ((df (aS po) x y).getD j 0)<=500000000:=by
   rw[ajn h iT J];exact aP (ab3 (R:=100000) xc hyr h6 J fun i=>ix aj hW i) aj
  have aom:rl ((df (a7 po 0) x y).getD j 0)<=500000000:=by
   rw[aep h iT 0 J];exact aP (ab3 (R:=100000) xc hyr h6 J fun i=>ix aj (hN 0) i) aj
  have ao8:rl ((df (a7 po 1) x y).getD j 0)<=500000000:=by
   rw[aep h iT 1 J];exact aP (ab3 (R:=100000) xc hyr h6 J fun i=>ix aj (hN 1) i) aj
  have ap4:rl ((df (a7 po 2) x y).getD j 0)<=500000000:=by
   rw[aep h iT 2 J];exact aP (ab3 (R:=100000) xc hyr h6 J fun i=>ix aj (hN 2) i) aj
  have hFP:an ai 79 [.agg [ae ((df (a7 po 0) x y).getD j 0),ae ((df (a7 po 1) x y).getD j 0),ae ((df (a7 po 2) x y).getD j 0),ae ((df (aS po) x y).getD j 0)]] (aA (cpQ po x y j)):=awT _ _ _ _ 500000000 aj aom ao8 ap4 hcw hpj;refine apq ?_;have aFO:=ag4 ((df (a7 po 0) x y).getD j 0) ((df (a7 po 1) x y).getD j 0) ((df (a7 po 2) x y).getD j 0) ((df (aS po) x y).getD j 0);refine cp cr (hFP) ?_;refine bn ?_;refine cj rfl (.app (news:=[aA (cpQ po x y j)]) rfl rfl rfl rfl rfl fW (.inl rfl) aj mg mg xu oT cs B42 (.inl ⟨116,0,_,rfl,by decide,rfl,rfl,by simp,rfl,by simp[aO,ez.pure]⟩) aQ aQ aj) ?_;refine aW ?_;refine cO (au.kill _ 116) ?_;refine eP ?_;exact yd
 obtain rfl:j=d+1:=J;have hEp:(lT po x y).take (d+1)=(lT po x y):=cy (by rw[abo];omega);refine dj ?_;simp only[hEp];exact wO [83,117] rfl rfl rfl cs (cU cs rfl) fo (.agg (.cons (.pure rfl) (.cons (da (l:=a8 d lo hi) ao rfl rfl gz.symm) (.cons (da (l:=lT po x y) ez rfl rfl (by rw[abo];omega)) .nil)))) rfl (.pure rfl)
namespace avO
theorem aJ{p q:Prop}(k:q)(e:p=q:=by simp only[bD,bo,bp,bh,cL,ik,wP,dR,fX];exact rfl):p:=e.mpr k
end avO
open avO in
theorem aAM(q:Rat)(h:rl q<=68719476736):an ai 96 [ae q] (bL true):=by
 have a1:=nH q;have a2:=pL q;have a3:=oJ q;have aZ:=azR q;have nx:=aDl q;have hG:=azg q.num.natAbs q.den J J;rw[nx]at hG;have hk:¬((ak (jX q)).length=1/\(ak (jX q)).getD 0 0=1):=fun⟨a,b⟩=>by
  have:=(abW (n:=jX q) a).1;omega
 have vH:(ak q.num.natAbs).length=0->(ak (jX q)).length=0/\¬q<0:=fun h=>by
  have hz:=aba h;subst hz;exact⟨by decide,by decide +kernel⟩
 have iG:ak 1=[1]:=adU aj aj;rw[show bu 1=.list 1 ([1].map bR) from by rw[bu,iG]]at hG;refine aL Tryz.func96 ?_;refine bN ?_;refine cp cr (azW _ J) ?_;refine aK ?_;refine cp cr (azW _ J) ?_;refine bH ?_;refine dU 19 rfl ?_ ?_<;>intro ab0 yI
 ·refine bH ?_;refine dU 27 rfl ?_ ?_<;>intro aac h27
  ·exfalso;omega
  refine aW ?_;refine dU 32 rfl ?_ ?_<;>intro ab5 h32
  ·refine atI ?_;refine aK ?_;refine rA (b:=_) rfl (decide_eq_false (by have:=(vH J).1;omega)) ?_;refine bf (ade _) ?_;refine cp aC (hG) ?_;refine ajz ?_;refine aK ?_;exact ee
  refine bf (ade _) ?_;refine cp aC (hG) ?_;refine ajz ?_;refine aK ?_;exact ee
 refine dj ?_;refine dU 32 rfl ?_ ?_<;>intro ab5 h32
 ·refine atI ?_;refine aK ?_;refine rA (b:=_) rfl (decide_eq_false (by have:=(vH J).1;omega)) ?_;refine bf (ade _) ?_;refine cp aC (hG) ?_;refine ajz ?_;refine aK ?_;exact ee
 refine bf (ade _) ?_;refine cp aC (hG) ?_;refine ajz ?_;refine aK ?_;exact ee
namespace awk
theorem aJ{p q:Prop}(k:q)(e:p=q:=by simp only[bD,bo,bp,bh,cg,etm,dD,du,dC,reduceIte,if_true,if_false,dW,LV.kill,bC];exact rfl):p:=e.mpr k
end awk
open awk in
theorem aPv(k:List Rat)(hl:k.length<=1000)(hr:∀x∈k,rl x<=1000000)(t:Rat)(ht:rl t<=1000000):an ai 196 [.list 3 (k.map ae),ae t] (ah (fP k t k.length)):=by
 refine aL Tryz.func196 ?_;have etm:True:=trivial;refine uV ?_;refine dy (fun(i:Nat) L=>(mS L [(3,⟨3,[ae t],true⟩)] [(6,ah i),(5,ah (fP k t i)),(3,.aB 3 3 0 0),(0,.list 3 (k.map ae))])) (fun i=>i<=k.length) (fun i=>k.length-i) 0 (bW _) ?_;rintro i L1 hi;refine bM ?_;refine aD rfl ?_ ?_<;>intro nj pC
 ·have cM:i<k.length:=J;have hx:=hr _ (dJ (i:=i) J);have zh:=af5 k t i;refine aN (aen (k.getD i 0) t J) ?_;refine bc ?_;refine aD rfl ?_ ?_<;>intro re pR
  ·have etm:fP k t (i+1)=fP k t i+1:=by rw[fP,if_pos pR]
   refine bc ?_;refine lG ?_;refine a6 ?_;refine eP ?_;exact gM
  have etm:fP k t (i+1)=fP k t i:=by rw[fP,if_neg pR];rfl
  refine aW ?_;refine eP ?_;exact gM
 obtain rfl:i=k.length:=J;refine bG ?_;exact iB
namespace avm
theorem aJ{p q:Prop}(k:q)(e:p=q:=by simp only[bD,bo,bp,bh,cg,jV,yg,fg,fw,edl,cC,jt,dR,fX,fD,gy,gU,ey,dD,du,dC,reduceIte,if_true,if_false,dW,LV.kill,bC];exact rfl):p:=e.mpr k
end avm
open avm in
theorem aCD(k:List Rat)(hl:k.length<=1000)(hr:∀x∈k,rl x<=1000000):an ai 98 [.list 3 (k.map ae)] (.list 3 ((cT k k.length).map ae)):=by
 refine aL Tryz.func98 ?_;have jV:True:=trivial;have yg:True:=trivial;have fg:True:=trivial;have fw:True:=trivial;have edl:True:=trivial;refine nh ?_;refine iS (au.own (t:=3) 32 3 rfl rfl) ?_;refine dy (fun(i:Nat) L=>(mS L [(32,⟨3,(cT k i).map ae,true⟩)] [(4,ah i),(3,.ref 32 3 0 (cT k i).length),(0,.list 3 (k.map ae))])) (fun i=>i<=k.length) (fun i=>k.length-i) 0 (bW _) ?_;rintro i L1 hi;refine bM ?_;refine aD rfl ?_ ?_<;>intro nX h8
 ·have cM:i<k.length:=J;have hdi:=aqO k i;have hx:=hr _ (dJ (i:=i) J);have iT:=hr _ (dJ (i:=(i-1)) J);refine bM ?_;refine dU 13 rfl ?_ ?_<;>intro zu h13
  ·have hc:i=0\/k.getD i 0≠k.getD (i-1) 0:=.inl J;have fg:cT k i++[k.getD i 0]=cT k (i+1):=by rw[cT,if_pos hc]
   have edl:(cT k (i+1)).length=(cT k i).length+1:=by rw[cT,if_pos hc];simp
   have fw:((cT k i).map ae).take (cT k i).length=(cT k i).map ae:=cy fW;refine amm ?_;refine cj rfl ayr ?_;refine aK ?_;refine cO (au.kill _ 31) ?_;refine nL ?_;exact gM
  have jV:((i:Int)-1).toNat=i-1:=J;refine a6 ?_;refine al (ib (v:=false) rfl rfl (zu) rfl) (.bin rfl rfl (aem J J)) ?_;refine aN (aen (k.getD i 0) (k.getD (i-1) 0) J) ?_;refine aK ?_;refine aD rfl ?_ ?_<;>intro acR qT
  ·have hc:i=0\/k.getD i 0≠k.getD (i-1) 0:=by first|exact .inl J|exact .inr rT|exact .inr (by simpa using rT)|exact .inr qT|exact .inr (by simpa using qT)
   have fg:cT k i++[k.getD i 0]=cT k (i+1):=by rw[cT,if_pos hc]
   have edl:(cT k (i+1)).length=(cT k i).length+1:=by rw[cT,if_pos hc];simp
   have fw:((cT k i).map ae).take (cT k i).length=(cT k i).map ae:=cy fW;refine bK ?_;refine cj rfl ayr ?_;refine aK ?_;refine cO (au.kill _ 31) ?_;refine nL ?_;exact gM
  have fg:cT k (i+1)=cT k i:=by
   rw[cT,if_neg];rintro(e|e)
   ·omega
   first|exact e rT|exact absurd e (by simpa using rT)|exact e qT|exact absurd e (by simpa using qT)
  have edl:True:=trivial;refine bI ?_;refine cO (au.kill _ 31) ?_;refine nL ?_;exact gM
 obtain rfl:i=k.length:=J;refine bG ?_;exact lZ [32] rfl rfl (da ao rfl rfl rfl)
open H0 in
theorem aLP(k:List Rat)(d:Nat)(h:d+1<=k.length)(hl:k.length<=1048576):an ai 198 [.list 3 (k.map ae),ah d] (ah (k.length-d-1)):=by
 refine aL Tryz.func198 ?_;refine b7 ?_;refine al rfl vX ?_;refine al rfl vX ?_;refine aK ?_;refine eG ?_ (.pure rfl);simp only[e1,e2,e3,e4,p1,p2,p3,q1,q2,q3,bh];congr 2;omega
def kx(d:Nat)(T:Rat)(g6:List Rat)(E:Rat):List Rat:=av (d+1) T++(g6++av (d+1) E)
theorem arJ(d:Nat)(T:Rat)(g6:List Rat)(E:Rat):(kx d T g6 E).length=2*(d+1)+g6.length:=by simp[kx];omega
theorem alV(d:Nat)(T:Rat)(g6:List Rat)(E:Rat)(i:Nat)(h:i<2*(d+1)+g6.length):(kx d T g6 E).getD i 0=if i<d+1 then T else if i<d+1+g6.length then g6.getD (i-(d+1)) 0 else E:=by
 unfold kx;split
 ·rw[gD1 aQ,xQ J]
 rw[gD2 aQ,oG];split
 ·rw[gD1 J]
 rw[gD2 J,xQ J]
theorem axg{l:List Rat}{t:Rat}(h:∀x∈l,x≠t):∀i,i<=l.length->fP l t i=0
 |0,_=>rfl
 |i+1,hi=>by rw[fP,axg h i J,if_neg (h _ (dJ J))]
theorem aAC(d:Nat)(T:Rat)(g6:List Rat)(E t:Rat):fP (kx d T g6 E) t (kx d T g6 E).length=(if T=t then d+1 else 0)+(fP g6 t g6.length+(if E=t then d+1 else 0)):=by
 have h:=aiY (av (d+1) T) (g6++av (d+1) E) t (g6.length+(d+1));have h2:=aiY g6 (av (d+1) E) t (d+1);rw[oG]at h;have e:(kx d T g6 E).length=d+1+(g6.length+(d+1)):=by rw[arJ];omega
 rw[e];show fP (av (d+1) T++_) t _=_;rw[h,h2,ahU _ _ _ _ (bF _),ahU _ _ _ _ (bF _)]
structure aqB (d:Nat) (T:Rat) (g6:List Rat) (E:Rat):Prop where
 btw:∀x∈g6,T<x/\x<E
 srt:∀i,i+1<g6.length->g6.getD i 0<=g6.getD (i+1) 0
 tms:∀x∈g6,fP g6 x g6.length<=d
 len:g6.length<=2
 sz:∀x∈g6,rl x<=64
theorem ayR{d:Nat}{T E:Rat}{g6:List Rat}(h1:1<=d)(h6:d<=6)(hT:rl T<=64)(hE:rl E<=64)(hTE:T<E)(h:aqB d T g6 E):kOK (kx d T g6 E) d:=by
 have hl:=arJ d T g6 E;have hn:=h.len;have aZ:T≠E:=ba;have e0:(kx d T g6 E).getD 0 0=T:=by rw[alV _ _ _ _ _ J,if_pos J]
 have e1:(kx d T g6 E).getD ((kx d T g6 E).length-1) 0=E:=by rw[hl,alV _ _ _ _ _ J,if_neg J,if_neg J]
 have hm:∀x∈kx d T g6 E,x=T\/x∈g6\/x=E:=fun x hx=>by
  rcases nC.1 hx with g|g
  ·exact .inl (uK.1 g).2
  rcases nC.1 g with g|g
  ·exact .inr (.inl g)
  exact .inr (.inr (uK.1 g).2)
 refine⟨h1,h6,J,J,fun i hi=>?_,by rw[e0,e1];exact aZ,fun t ht he=>?_,fun t ht g0 g1=>?_,fun x hx=>?_⟩
 ·rw[alV _ _ _ _ _ J,alV _ _ _ _ _ J];by_cases c1:i+1<d+1
  ·rw[if_pos J,if_pos c1];exact jM
  rw[if_neg c1];by_cases c2:i<d+1
  ·rw[if_pos c2];split
   ·exact kL (h.btw _ (dJ J)).1
   exact kL hTE
  rw[if_neg c2];by_cases c3:i+1<d+1+g6.length
  ·rw[if_pos J,if_pos c3,show i+1-(d+1)=i-(d+1)+1 by omega];exact h.srt _ J
  rw[if_neg c3];split
  ·exact kL (h.btw _ (dJ J)).2
  exact jM
 ·rw[aAC];rw[e0,e1]at he;have z:∀s,(s=T\/s=E)->fP g6 s g6.length=0:=fun s hs=>axg (fun x hx e=>by
   have:=h.btw x hx;rcases hs with rfl|rfl
   ·rw[e]at this;exact absurd this.1 ba
   rw[e]at this;exact absurd this.2 ba) _ (bF _)
  rw[z t he];rcases he with rfl|rfl
  ·rw[if_pos rfl,if_neg (fun e=>aZ e.symm)]
  rw[if_neg aZ,if_pos rfl];omega
 ·rw[e0]at g0;rw[e1]at g1;rw[aAC,if_neg (fun e=>g0 e.symm),if_neg (fun e=>g1 e.symm)];rcases hm t ht with e|e|e
  ·exact absurd e g0
  ·have:=h.tms t e;omega
  exact absurd e g1
 rcases hm x hx with rfl|g|rfl
 ·exact hT
 ·exact h.sz x g
 exact hE
open fc in
theorem aHE(d:Nat)(kn:List Rat)(po:List aF)(R:Nat)(hR:R<=1000000)(h:uG po d R):an ai 33 [.agg [ah d,.list 3 (kn.map ae),.list 12 (po.map aA)]] (iq (zH (po.map (·.p)))):=by
 have hl:=h.hl;have hd:=h.hd;have h6:=h.h6;have vy:∀i,i<(po.map (·.p)).length->cG R ((po.map (·.p)).getD i default):=fun i hi=>by
  rw[cC]at hi;rw[amA];exact(h.ok _ (qo hi)).1
 have dZ:LV.pure (.agg [ah d,.list 3 (kn.map ae),.list 12 (po.map aA)])=true:=eN;refine aL Tryz.func33 (ht:=(fun r=>LV.db r _ (ui.pure _))) ?_;refine bf (aN3 d kn po R hR h) ?_;refine cp cr (aK4 (po.map (·.p)) fW fW R hR vy) ?_;refine iR ?_;exact ah1
open fc in
theorem aNJ(a b:Rat)(ha:rl a<=1000)(hb:rl b<=1000):an ai 215 [ae a,ae b] (ae ((a+b)*(1/2))):=by
 have hs:=kO a b;have hh:rl (1/2:Rat)=1:=aG;have hq:an ai 23 [iL 1,iL 2] (ae (1/2)):=by
  have:=aey 1 2 aj aj aj aj aj;exact this
 refine aL Tryz.func215 ?_;refine aN (n6 a b J) ?_;refine cp aC (hq) ?_;refine cp aC (iY (a+b) (1/2) J) ?_;refine aK ?_;exact fO
def nI(l:List Int)(j:Nat):Rat:=((1+gZ l j 3:Int):Rat)/((1+gZ l (cf l j) 2:Int):Rat)
def ia(l:List Int)(d:Nat)(k:List Rat)(j:Nat):Nat:=if k.length=d+1 then j else cf l j
def ux(l:List Int)(d:Nat)(k:List Rat)(t:Rat)(j:Nat):Prop:=k.length=d+1\/0<gZ l j 3\/t=k.getD (k.length-d) 0
instance (l:List Int) (d:Nat) (k:List Rat) (t:Rat) (j:Nat):Decidable (ux l d k t j):=by unfold ux;infer_instance
def q7(l:List Int)(d:Nat):Nat->List Rat->Rat->Nat->List Rat×Rat×Nat
 |0,k,t,j=>(k,t,j)
 |n+1,k,t,j=>if ux l d k t j then q7 l d n (k++[t+nI l (ia l d k j)]) (t+nI l (ia l d k j)) (cf l (cf l (ia l d k j)))else q7 l d n (k++[t]) t (ia l d k j)
theorem afe(l:List Int)(j:Nat):0<nI l j/\rl (nI l j)<=2:=by
 have h1:=rv (l:=l) (k:=j) (n:=3) aj;have h2:=rv (l:=l) (k:=cf l j) (n:=2) aj;have r1:rl ((1+gZ l j 3:Int):Rat)<=1:=aeu J;have r2:rl ((1+gZ l (cf l j) 2:Int):Rat)<=1:=aeu J;have r3:=pv ((1+gZ l j 3:Int):Rat) ((1+gZ l (cf l j) 2:Int):Rat);refine⟨?_,by unfold nI;omega⟩;unfold nI;rw[gQ];exact Rat.mul_pos (aaw.2 J) (Rat.inv_pos.2 (aaw.2 J))
theorem aMo(l:List Int){d n:Nat}{T:Rat}(hd:1<=d)(hn:n<=2)(hT:rl T<=1)(j:Nat):
  ∃g6 t j',q7 l d n (av (d+1) T) T j=(av (d+1) T++g6,t,j')/\g6.length=n/\aqB d T g6 (t+1)/\rl t<=7/\T<t+1:=by
 have fR:rl 1=1:=rfl
 match n,hn with
 |0,_ =>
  refine⟨[],T,j,by rw[ey];rfl,rfl,⟨fun x hx=>(by cases hx),fun i hi=>(by simp at hi),fun x hx=>(by cases hx),by decide,fun x hx=>(by cases hx)⟩,J,by grind⟩
 |1,_ =>
  have hF:=afe l (ia l d (av (d+1) T) j);have hb:ux l d (av (d+1) T) T j:=.inl aE;refine⟨[T+nI l (ia l d (av (d+1) T) j)],T+nI l (ia l d (av (d+1) T) j),cf l (cf l (ia l d (av (d+1) T) j)),by rw[q7,if_pos hb,q7],rfl,?_,?_,?_⟩
  ·generalize nI l _=f at hF;have:=kO T f;refine⟨fun x hx=>?_,fun i hi=>(by simp at hi),fun x hx=>?_,by simp,fun x hx=>?_⟩
   ·rw[iM.1 hx];constructor<;>grind
   ·show fP _ x 1<=d;have:=af5 [T+f] x 1;omega
   rw[iM.1 hx];omega
  ·have:=kO T (nI l (ia l d (av (d+1) T) j));omega
  grind
 |2,_ =>
  have hb:ux l d (av (d+1) T) T j:=.inl aE;have hF:=afe l (ia l d (av (d+1) T) j);rw[q7,if_pos hb];generalize cf l (cf l (ia l d (av (d+1) T) j))=j1;generalize nI l (ia l d (av (d+1) T) j)=f at *
  have a1:=kO T f;rw[q7];by_cases hb2:ux l d (av (d+1) T++[T+f]) (T+f) j1
  ·rw[if_pos hb2,q7];have hG:=afe l (ia l d (av (d+1) T++[T+f]) j1);generalize cf l (cf l (ia l d (av (d+1) T++[T+f]) j1))=j2;generalize nI l (ia l d (av (d+1) T++[T+f]) j1)=g at *
   have a2:=kO (T+f) g;refine⟨[T+f,T+f+g],T+f+g,j2,by rw[pn];rfl,rfl,⟨fun x hx=>?_,fun i hi=>?_,fun x hx=>?_,by simp,fun x hx=>?_⟩,J,by grind⟩
   ·simp only[dS,jR,or_false]at hx;rcases hx with rfl|rfl<;>constructor<;>grind
   ·obtain rfl:i=0:=by simp at hi;omega
    show T+f<=T+f+g;grind
   ·show fP _ x 2<=d;have aZ:T+f≠T+f+g:=ba;have e:fP [T+f,T+f+g] x 2=0+(if T+f=x then 1 else 0)+(if T+f+g=x then 1 else 0):=rfl;rw[e];by_cases c:T+f=x
    ·rw[if_pos c,if_neg (fun e=>aZ (c.trans e.symm))];omega
    rw[if_neg c];split<;>omega
   simp only[dS,jR,or_false]at hx;rcases hx with rfl|rfl<;>omega
  rw[if_neg hb2,q7];have hd2:2<=d:=by
   rcases g7 d 2 with c|c
   ·exfalso;obtain rfl:d=1:=J;refine hb2 (.inr (.inr ?_));rw[show (av (1+1) T++[T+f]).length-1=2 by simp,gD2 aE];simp
   exact c
  refine⟨[T+f,T+f],T+f,ia l d (av (d+1) T++[T+f]) j1,by rw[pn];rfl,rfl,⟨fun x hx=>?_,fun i hi=>?_,fun x hx=>?_,by simp,fun x hx=>?_⟩,J,by grind⟩
  ·simp only[dS,jR,or_false,or_self]at hx;subst hx;constructor<;>grind
  ·obtain rfl:i=0:=by simp at hi;omega
   exact jM
  ·show fP _ x 2<=d;have:=af5 [T+f,T+f] x 2;omega
  simp only[dS,jR,or_false,or_self]at hx;subst hx;omega
def kiN(l:List Int)(k n:Nat):Nat:=(gZ l (cf l k) ((n+1:Nat):Int)).toNat
def kiR(l:List Int)(d k n:Nat):List Rat×Rat×Nat:=q7 l d (kiN l k n) (av (d+1) (od l k)) (od l k) (cf l (cf l k))
def knX(l:List Int)(d k n:Nat):List Rat:=(kiR l d k n).1++av (d+1) ((kiR l d k n).2.1+1)
theorem ajT(l:List Int)(k n:Nat):(kiN l k n:Int)=gZ l (cf l k) ((n+1:Nat):Int)/\kiN l k n<=n:=by
 have h:=rv (l:=l) (k:=cf l k) (n:=((n+1:Nat):Int)) J;unfold kiN;omega
structure kiI (l:List Int) (d N c:Nat) (K:List Rat) (t:Rat) (j:Nat) (R:List Rat×Rat×Nat):Prop where
 hj:j<=500
 hl:K.length+c=d+1+N
 ht:rl t+3*c<=1+3*N
 hK:∀x∈K,rl x<=7
 hR:q7 l d c K t j=R
theorem aAH{K:List Rat}{t:Rat}{R:Nat}(h:∀x∈K,rl x<=R)(ht:rl t<=R):∀x∈K++[t],rl x<=R:=fun x hx=>by
 rcases nC.1 hx with h1|h1
 ·exact h x h1
 rw[iM.1 h1];exact ht
theorem ahw{l:List Int}{d j:Nat}{K:List Rat}(hl:l.length<=500)(hj:j<=500):ia l d K j<=500:=by
 unfold ia;split
 ·exact hj
 exact pE hl hj
theorem kiI.yes{l:List Int}{d N c:Nat}{K:List Rat}{t:Rat}{j:Nat}{R:List Rat×Rat×Nat}(hl:l.length<=500)(hN:N<=2)(h:kiI l d N (c+1) K t j R)(hb:ux l d K t j):
  kiI l d N c (K++[t+nI l (ia l d K j)]) (t+nI l (ia l d K j)) (cf l (cf l (ia l d K j))) R:=by
 have hF:=(afe l (ia l d K j)).2;have h1:=kO t (nI l (ia l d K j));have h2:=h.ht;have h3:=h.hl;have h4:=h.hR;rw[q7,if_pos hb]at h4;exact⟨pE hl (pE hl (ahw hl h.hj)),by simp;omega,J,aAH h.hK J,h4⟩
theorem kiI.no{l:List Int}{d N c:Nat}{K:List Rat}{t:Rat}{j:Nat}{R:List Rat×Rat×Nat}(hl:l.length<=500)(hN:N<=2)(h:kiI l d N (c+1) K t j R)(hb:¬ux l d K t j):
  kiI l d N c (K++[t]) t (ia l d K j) R:=by
 have h2:=h.ht;have h3:=h.hl;have h4:=h.hR;rw[q7,if_neg hb]at h4;exact⟨ahw hl h.hj,by simp;omega,J,aAH h.hK J,h4⟩
namespace ayn
theorem aJ{p q:Prop}(k:q)(e:p=q:=by simp only[bD,bo,bp,bh,l1,aa6,acM,atx,fg,aae,ekb,ekj,eix,cg,cC,ey,List.replicate_zero,Nat.add_zero,jt,dR,fX,fD,List.length_append,List.length_replicate,dD,du,dC,reduceIte,if_true,if_false,aeG,aiC,dO ez,dO ao,kT,qV,LV.kill,bC,aiD];exact rfl):p:=e.mpr k
end ayn
open ayn in
theorem aNA(l:List Int)(k:Nat)(hl:l.length<=500)(d:Nat)(iG:1<=d)(hd:d<=6)(n:Nat)(hn:n<=2)(hk:k<=500):pe ai 49 ⟨2,[jL l k],true⟩ [.aB 0 2 0 0,ah d,ah n] (.list 3 ((knX l d k n).map ae)) ⟨2,[jL l (kiR l d k n).2.2],true⟩:=by
 have k1:=pE (l:=l) hl hk;have k2:=pE (l:=l) hl k1;have hb:=rv (l:=l) (k:=k) (n:=4) aj;obtain⟨nm,ma⟩:=ajT l k n;obtain⟨ht1,ht2⟩:=aBy l k;have h1r:rl 1=1:=rfl;refine fnM Tryz.func49 ?_;have aa6:True:=trivial;have acM:True:=trivial;have atx:True:=trivial;have fg:True:=trivial;have aae:True:=trivial;have ekb:True:=trivial;have ekj:True:=trivial;have eix:True:=trivial;refine bH ?_;refine ub 0 rfl rfl rfl (gC l _) (.cons .ptr (.cons (.dH (.pure rfl)) .nil)) .ptr (zI l k 4 J J J J) rfl (gC l _) rfl ?_;refine al rfl vX ?_;refine cp cr (nZ (gZ l k 4-2) J J) ?_;refine lN ?_;refine iS (au.own (t:=8) 24 3 rfl rfl) ?_;refine dy (fun(i:Nat) L=>(mS L [(0,⟨2,[jL l (cf l k)],true⟩),(7,⟨3,[ae (od l k)],true⟩),(24,⟨3,(av i (od l k)).map ae,true⟩)] [(9,ah i),(8,.ref 24 3 0 i),(2,ah n),(7,.aB 7 3 0 0),(1,ah d),(0,.aB 0 2 0 0)])) (fun i=>i<=d+1) (fun i=>d+1-i) 0 (bW _) ?_;rintro i L1 hi;refine bH ?_;refine aD rfl ?_ ?_<;>intro re pR
 ·have cM:i<=d:=J;have fg:=als i (od l k);have aa6:((av i (od l k)).map ae).take i=(av i (od l k)).map ae:=cy aE;refine bH ?_;refine cj rfl (.eU (d:=24) (news:=[ae ((od l k))]) rfl rfl rfl rfl aE (.inl rfl) aj dp dp jg cS rfl jq (.inl ⟨23,0,_,rfl,by decide,rfl,rfl,by simp,rfl,by simp[aO,ao.pure]⟩) aQ aQ aj) ?_;refine aK ?_;refine cO (au.kill _ 23) ?_;refine nL ?_;exact gM
 obtain rfl:i=d+1:=J;refine b7 ?_;refine lG ?_;refine ub 0 rfl rfl rfl (gC l _) (.cons .ptr (.cons (.dH (.pure rfl)) .nil)) .ptr (zI l (cf l k) ((n+1:Nat):Int) J J J J) rfl (gC l _) rfl ?_;rw[<-nm];refine aK ?_;refine lp4 (fun(c:Nat) (K:List Rat) (t:Rat) (j:Nat) L=>(mS L [(0,⟨2,[jL l j],true⟩),(7,⟨3,[ae t],true⟩),(24,⟨3,K.map ae,true⟩)] [(10,ah c),(8,.ref 24 3 0 K.length),(7,.aB 7 3 0 0),(1,ah d),(0,.aB 0 2 0 0)])) (fun c K t j=>kiI l d (kiN l k n) c K t j (kiR l d k n)) (fun c K t j=>c) (kiN l k n) (av (d+1) (od l k)) (od l k) (cf l (cf l k)) ⟨k2,by simp,J,fun x hx=>by rw[(uK.1 hx).2];omega,rfl⟩ ?_;rintro c K t j L2 hI;refine bK ?_;refine aD rfl ?_ ?_<;>intro abK yq
 ·obtain⟨e,rfl⟩:∃e,c=e+1:=⟨c-1,J⟩;have hj5:=hI.hj;have hjl:=pE (l:=l) hl hj5;have hKl:=hI.hl;have hrt:=hI.ht;have hrK:=hI.hK _ (dJ (p:=K) (i:=K.length-d) J);have atx:(K.map ae).take K.length=K.map ae:=cy aE;have hb3:=rv (l:=l) (k:=j) (n:=3) aj;refine a6 ?_;refine iZ (fun L=>∃  (L1:St),(True)/\L=(mS L1 [(0,⟨2,[jL l (ia l d K j)],true⟩),(7,⟨3,[ae t],true⟩),(24,⟨3,K.map ae,true⟩)] [(53,bL (decide (ux l d K t j))),(10,ah (e+1)),(8,.ref 24 3 0 K.length),(7,.aB 7 3 0 0),(1,ah d),(0,.aB 0 2 0 0)])) ?_ ?_
  ·refine ack ?_;refine arv 0 6 15 rfl aG aG ?_;simp only[jv,xr,qS,tn];refine bI ?_;refine lG ?_;refine bc ?_;refine iy ?_;refine di 6 _ aG rfl ?_;refine dU 38 rfl ?_ ?_<;>intro abv h38
   ·have hL:K.length=d+1:=J;have ekb:decide (ux l d K t j)=true:=decide_eq_true (.inl hL);have ekj:(ia l d K j)=j:=if_pos hL;refine eT ?_;refine agB ?_;refine di 10 _ aG rfl ?_;refine eT ?_;refine arv 11 19 2 rfl aG aG ?_;simp only[jv,xr,qS,tn];refine bH ?_;refine iy ?_;refine di 19 _ aG rfl ?_
    try simp only[t1,cg,afi,fZ]
    refine eT ?_;refine di 20 _ aG rfl ?_;refine eT ?_;refine pb aG ?_;refine bn ?_;exact tT
   have hL:¬K.length=d+1:=J;have ekj:(ia l d K j)=cf l j:=if_neg hL;refine eT ?_;refine di 7 _ aG rfl ?_;refine ub 0 (ib (v:=false) rfl rfl (abv) rfl) rfl rfl (gC l _) (.cons .ptr (.cons (.dH (.pure rfl)) .nil)) .ptr (zI l j 3 J J J J) rfl (gC l _) rfl ?_;refine iy ?_;refine di 8 _ aG rfl ?_;refine eT ?_;refine di 9 _ aG rfl ?_;refine eT ?_;refine di 10 _ aG rfl ?_;refine eT ?_;refine arv 11 19 2 rfl aG aG ?_;simp only[jv,xr,qS,tn];refine dU 43 rfl ?_ ?_<;>intro akt h43
   ·have ekb:decide (ux l d K t j)=true:=decide_eq_true (.inr (.inl J));refine bH ?_;refine iy ?_;refine di 19 _ aG rfl ?_
    try simp only[t1,cg,afi,fZ]
    refine eT ?_;refine di 20 _ aG rfl ?_;refine eT ?_;refine pb aG ?_;refine bn ?_;exact tT
   refine aW ?_;refine al (ib (v:=false) rfl rfl (akt) rfl) (.bin rfl rfl (yM (c:=K.length-d) J J)) ?_;refine bc ?_;refine iy ?_;refine di 19 _ aG rfl ?_
   try simp only[t1,cg,afi,fZ]
   refine cp aC (aen t (K.getD (K.length-d) 0) J) ?_;refine iy ?_;refine di 20 _ aG rfl ?_;have ekb:decide (ux l d K t j)=decide (t=K.getD (K.length-d) 0):=decide_eq_decide.2 ⟨fun h=>by rcases h with h|h|h<;>first|exact h|(exfalso;omega),fun h=>.inr (.inr h)⟩;refine eT ?_;refine pb aG ?_;refine bn ?_;exact tT
  rintro _ ⟨aPZ,-,rfl⟩;refine bn ?_;refine aD rfl ?_ ?_<;>intro aao h53
  ·have hB:ux l d K t j:=by simpa using h53
   have hJ:=ahw (l:=l) (d:=d) (j:=j) (K:=K) hl hj5;have hJ2:=pE (l:=l) hl hJ;have hF:=afe l (ia l d K j);have hbA:=rv (l:=l) (k:=(ia l d K j)) (n:=3) aj;have hbB:=rv (l:=l) (k:=cf l (ia l d K j)) (n:=2) aj;have haF:=kO t (nI l (ia l d K j));refine iZ (fun L=>∃  (L1:St),(True)/\L=(mS L1 [(0,⟨2,[jL l (cf l (cf l (ia l d K j)))],true⟩),(7,⟨3,[ae (t+nI l (ia l d K j))],true⟩),(24,⟨3,K.map ae,true⟩)] [(10,ah (e+1)),(8,.ref 24 3 0 K.length),(7,.aB 7 3 0 0),(1,ah d),(0,.aB 0 2 0 0)])) ?_ ?_
   ·refine ack ?_;refine aj9 1 rfl rfl aG (.move _) ?_;refine aj9 4 rfl rfl aG (.move _) ?_
    repeat' first
     |(refine pb aG ?_;refine bn ?_;exact⟨_,trivial,eW⟩)
     |refine aj9 3 rfl rfl aG (.bin rfl rfl (w6 J J)) ?_
     |refine aj9 6 rfl rfl aG (.bin rfl rfl (w6 J J)) ?_
     |refine jy 0 2 _ _ aG rfl rfl ?_ ?_
     |refine di 2 _ aG rfl ?_
     |refine di 5 _ aG rfl ?_
     |refine di 6 _ aG rfl ?_
     |refine di 7 _ aG rfl ?_
     |refine di 8 _ aG rfl ?_
     |refine di 9 _ aG rfl ?_
     |refine jy 0 5 _ _ aG rfl rfl ?_ ?_
     |refine jy 0 7 _ _ aG rfl rfl ?_ ?_
     |refine di 0 _ aG rfl ?_
     |(refine ub 0 rfl rfl rfl (gC l _) (.cons .ptr (.cons (.dH (.pure rfl)) .nil)) .ptr (zI l (ia l d K j) 3 J J J J) rfl (gC l _) rfl ?_;refine iy ?_)
     |(refine ub 0 rfl rfl rfl (gC l _) (.cons .ptr (.cons (.dH (.pure rfl)) .nil)) .ptr (zI l (cf l (ia l d K j)) 2 J J J J) rfl (gC l _) rfl ?_;refine iy ?_)
     |(refine al rfl (.bin rfl rfl (w6 J J)) ?_;refine iy ?_)
     |(refine cp aC (aey (1+gZ l (ia l d K j) 3) (1+gZ l (cf l (ia l d K j)) 2) J J J J J) ?_;refine iy ?_)
     |(refine cp aC (n6 t (nI l (ia l d K j)) J) ?_;refine iy ?_)
     |(refine bn ?_;refine iy ?_)
     |fail
   rintro _ ⟨aMw,-,rfl⟩;refine aW ?_
   first|refine cj rfl (.eU (d:=24) (news:=[ae ((t+nI l (ia l d K j)))]) rfl rfl rfl rfl aE (.inl rfl) aj dp dp jg cS rfl jq (.inl ⟨65,0,_,rfl,by decide,rfl,rfl,by simp,rfl,by simp[aO,ao.pure]⟩) aQ aQ aj) ?_|refine cj rfl (.eU (d:=24) (news:=[ae (t)]) rfl rfl rfl rfl aE (.inl rfl) aj dp dp jg cS rfl jq (.inl ⟨65,0,_,rfl,by decide,rfl,rfl,by simp,rfl,by simp[aO,ao.pure]⟩) aQ aQ aj) ?_
   refine aK ?_;refine cO (au.kill _ 65) ?_;refine bn ?_;refine jc ?_;refine bI ?_;exact uv e (K++[(t+nI l (ia l d K j))]) (t+nI l (ia l d K j)) (cf l (cf l (ia l d K j))) (hI.yes hl J hB)
  have hB:¬ux l d K t j:=by simpa using h53
  refine a6 ?_
  first|refine cj rfl (.eU (d:=24) (news:=[ae ((t+nI l (ia l d K j)))]) rfl rfl rfl rfl aE (.inl rfl) aj dp dp jg cS rfl jq (.inl ⟨65,0,_,rfl,by decide,rfl,rfl,by simp,rfl,by simp[aO,ao.pure]⟩) aQ aQ aj) ?_|refine cj rfl (.eU (d:=24) (news:=[ae (t)]) rfl rfl rfl rfl aE (.inl rfl) aj dp dp jg cS rfl jq (.inl ⟨65,0,_,rfl,by decide,rfl,rfl,by simp,rfl,by simp[aO,ao.pure]⟩) aQ aQ aj) ?_
  refine aK ?_;refine cO (au.kill _ 65) ?_;refine bn ?_;refine jc ?_;refine bI ?_;exact uv e (K++[t]) t (ia l d K j) (hI.no hl J hB)
 obtain rfl:c=0:=J;have hV:=hI.hR;rw[q7]at hV;have hj5:=hI.hj;have hKl:=hI.hl;have hrt:=hI.ht;have aRe:=kO t 1;refine bf (nZ 1 aj aj) ?_;refine cp aC (n6 t 1 J) ?_;refine b7 ?_;refine dy (fun(i:Nat) L=>(mS L [(0,⟨2,[jL l j],true⟩),(7,⟨3,[ae (t+1)],true⟩),(24,⟨3,(K++av i (t+1)).map ae,true⟩)] [(11,ah i),(8,.ref 24 3 0 (K.length+i)),(7,.aB 7 3 0 0),(1,ah d)])) (fun i=>i<=d+1) (fun i=>d+1-i) 0 (bW _) ?_;rintro i L3 hi;refine bH ?_;refine aD rfl ?_ ?_<;>intro aK9 h72
 ·have cM:i<=d:=J;have aae:K++av i (t+1)++[t+1]=K++av (i+1) (t+1):=by rw[pn,als]
  have acM:((K++av i (t+1)).map ae).take (K.length+i)=(K++av i (t+1)).map ae:=cy aE;refine bH ?_;refine cj rfl (.eU (d:=24) (news:=[ae (t+1)]) rfl rfl rfl rfl aE (.inl rfl) aj dp dp jg cS rfl jq (.inl ⟨77,0,_,rfl,by decide,rfl,rfl,by simp,rfl,by simp[aO,ao.pure]⟩) aQ aQ aj) ?_;refine aK ?_;refine cO (au.kill _ 77) ?_;refine nL ?_;exact gM
 obtain rfl:i=d+1:=J;refine bG ?_;have hE:K++av (d+1) (t+1)=knX l d k n:=by unfold knX;rw[<-hV]
 have w7:j=(kiR l d k n).2.2:=by rw[<-hV]
 rw[<-hE,<-w7];exact aD1 [24] rfl rfl (da ao rfl rfl aE) rfl rfl (gC l _)
end Go.Proofs.YtbkmfcmgilhaaaaGreat
end
section
set_option linter.unusedVariables false
set_option linter.unusedSimpArgs false
namespace Go.Lg
section
variable {P:Program} {W w w':World} {X:XS} {Z0 Z Zr:Nat->Prop} {μ fi:Nat->Option Nat} {H:cd} {a:Act} {L L':St} {n:Nat} {ops:Array Oper}
def acK(P:Program)(ops:Array Oper)(o:Oper)(L L':St):Prop :=
 ∀(n:Nat) (W:World) (X:XS) (Z0:Nat->Prop) (a:Act) (w:World) (K:Act->World->Prop) (Q:Exit->Act->World->Prop),ic n W X Z0 L a w->(∀t,o.dst=some t->t<n) ->
  (∀a' w',ic n W X Z0 L' a' w'->K a' w')->if Region.wanted o (yielded ops a.tmps)then o.wp P a w K Q else K (a.put o.dst undef) w
def aa3(P:Program)(ops:Array Oper):List Oper->St->(St->Prop)->Prop
 | [],L,K=>K L
 |o::r,L,K=>∃L',acK P ops o L L'/\aa3 P ops r L' K
theorem atb{K K':St->Prop}(h:∀L,K L->K' L):∀(l:List Oper) (L:St),aa3 P ops l L K->aa3 P ops l L K'
 | [],L,k=>h L k
 |o::r,L,⟨L',h1,h2⟩=>⟨L',h1,atb h r L' h2⟩
theorem atq{K:St->Prop}:∀(l m:List Oper) (L:St),aa3 P ops l L (fun L'=>aa3 P ops m L' K)->aa3 P ops (l++m) L K
 | [],m,L,h=>h
 |o::r,m,L,⟨L',h1,h2⟩=>⟨L',h1,atq r m L' h2⟩
theorem aoT{dr:Bool}{K:St->Prop}:∀(l:List Oper) (L:St),opsL P dr ops l L K->aa3 P ops l L K
 | [],L,h=>by unfold opsL at h;exact h
 |o::r,L,h=>by
   unfold opsL at h;obtain⟨L',h1,h2⟩:=h;exact⟨L',fun n W X Z0 a w K' Q hs hd hK=>adp hs h1 hd hK,aoT r L' h2⟩
theorem azC{Q:Exit->Act->World->Prop}{K:St->Prop}:∀(l:List Oper) (L:St) (a:Act) (w:World),ic n W X Z0 L a w->aa3 P ops l L K->(∀o∈l,∀t,o.dst=some t->t<n) ->
  (∀L' a' w',K L'->ic n W X Z0 L' a' w'->Q .normal a' w')->wpList P ops Q l a w
 | [],L,a,w,hs,hk,_,hq=>hq L a w hk hs
 |o::r,L,a,w,hs,⟨L',h1,h2⟩,hd,hq=>by
   have:=h1 n W X Z0 a w (wpList P ops Q r) Q hs (hd o aE) (fun a' w' kF=>azC r L' a' w' kF h2 (fun o' ki=>hd o' (by simp[ki])) hq);unfold wpList;split
   ·rename_i h;rw[if_pos h]at this;exact .inl this
   rename_i h;rw[if_neg h]at this;exact this
variable {Q:lR->St->Prop}
def arw(P:Program)(l:List Oper)(k:Nat)(K:St->Prop)(L:St):Prop:=∃o L2,l[k]?=some o/\acK P l.toArray o L L2/\opsL P false l.toArray (l.drop (k+1)) L2 K
theorem aKd{l:List Oper}{id:Nat}(k:Nat)(h:opsL P false l.toArray (l.take k) L (arw P l k (Q .normal))):c9 P (.region id l.toArray false) Q L:=by
 refine ah5 fun n W X Z0 a w hs hd id=>?_;have jC:∀o'∈l,∀t,o'.dst=some t->t<n:=fun o' ho t ht=>by
  simp only[mQ,nU]at hd;have:=hd o' (by simpa using ho);rw[ht]at this;simpa using this
 have hx:aa3 P l.toArray l L (Q .normal):=by
  have h1:aa3 P l.toArray (l.take k++l.drop k) L (Q .normal) :=
   atq (l.take k) _ L (atb (fun L1 ⟨o,L2,h0,h1,h2⟩=>by
    obtain⟨hk,e⟩:=qi.1 h0;rw[xR hk,e];exact⟨L2,h1,aoT _ _ h2⟩) _ _ (aoT _ _ h))
  rwa[List.take_append_drop]at h1
 exact wp_region_list (azC _ _ _ _ hs hx jC (fun L' a' w' hk kF=>⟨L',hk,kF⟩))
theorem aOs{l:List Oper}{id:Nat}{L0:St}(k:Nat)(hw:au L L0)(h:opsL P false l.toArray (l.take k) L0 (arw P l k (Q .normal))):c9 P (.region id l.toArray false) Q L:=by
 have:=aKd (id:=id) (Q:=Q) k h;obtain⟨L1,h1,h2⟩:=this;exact⟨L1,hw.trans h1,h2⟩
theorem aNp{l:List Oper}{k:Nat}{K:St->Prop}{ops:Array Oper}{o:Oper}{L2:St}(h1:l[k]?=some o)(h2:acK P l.toArray o L L2)(h3:opsL P false l.toArray (l.drop (k+1)) L2 K):opsL P false ops [] L (arw P l k K):=by
 unfold opsL;exact⟨o,L2,h1,h2,h3⟩
end
end Go.Lg
namespace Go.Lg
section
variable {P:Program} {W w w':World} {X X0:XS} {Z0 Z Zr:Nat->Prop} {μ fi:Nat->Option Nat} {H H' Hr:cd} {a:Act} {L L':St} {n d:Nat} {ops:Array Oper} {σ:Nat->Nat}
def y8(μ fi:Nat->Option Nat)(d:Nat):Nat->Option Nat:=fun c=>if 1000000+d*16<c/\c<1000000+d*16+16 then(fi (c-(1000000+d*16))).or (μ c)else μ c
theorem Core.aOz(hc:Core W X Z0 μ Z H w)(hr:Core w X0 Z fi Zr Hr w')(yh:∀k id,fi k=some id->k≠0->k<16/\σ k=dv d k/\μ (dv d k)=none)
  (hb:∀id,X0.x id->μ (σ 0)=some id/\¬Z id) (hy:∀id,X0.y id->(∀c,μ c≠some id)/\¬Z id/\(W.heap.size<=id\/X.y id)) (h0:∀id,fi 0=some id->X0.x id) (hH:∀k id blk,fi k=some id->Hr k=some blk->H' (σ k)=some ⟨blk.sz,dL σ blk.vals,blk.mt⟩)
  (hold:∀c id,μ c=some id->¬X0 id->H' c=H c) :
  Core W X Z0 (y8 μ fi d) Zr H' w'/\(∀c id,μ c=some id->y8 μ fi d c=some id)/\Frame Z μ w w'/\(∀k id,fi k=some id->y8 μ fi d (σ k)=some id):=by
 have alg:∀c id,μ c=some id->y8 μ fi d c=some id:=fun c id h=>by
  unfold y8;split
  ·rename_i rM
   cases hq:fi (c-(1000000+d*16))with
   |none=>simpa using h
   |some id' =>
    have:=(yh _ _ hq J).2.2;have e:dv d (c-(1000000+d*16))=c:=by unfold dv;omega
    rw[e,h]at this;cases this
  exact h
 have aLa:∀k id,fi k=some id->k≠0->y8 μ fi d (dv d k)=some id:=fun k id h hk=>by
  have:=(yh _ _ h hk).1;unfold y8 dv;rw[if_pos J];have e:1000000+d*16+k-(1000000+d*16)=k:=J;rw[e,h];rfl
 have nS:∀k id,fi k=some id->y8 μ fi d (σ k)=some id:=fun k id h=>by
  by_cases hk:k=0
  ·subst hk;exact alg _ _ (hb id (h0 id h)).1
  rw[(yh _ _ h hk).2.1];exact aLa k id h hk
 have hinv:∀c id,y8 μ fi d c=some id->(∃k,k≠0/\c=dv d k/\fi k=some id)\/μ c=some id:=fun c id h=>by
  unfold y8 at h;split at h
  ·rename_i rM
   cases hq:fi (c-(1000000+d*16))with
   |none=>rw[hq]at h;exact .inr mA
   |some id' =>
    rw[hq]at h;simp only[Option.some_or,gj]at h;subst h;exact .inl ⟨c-(1000000+d*16),J,by unfold dv;omega,hq⟩
  exact .inr h
 have cI:∀k id,fi k=some id->k≠0->w.heap.size<=id\/X0.y id:=fun k id h hk=>by
  rcases hr.own k id h with h1|h1|h1
  ·exact .inl h1
  ·exact absurd (hr.x0 k id h h1) hk
  exact .inr h1
 have aoO:∀k id c,fi k=some id->k≠0->μ c=some id->False:=fun k id c h hk h1=>by
  rcases cI k id h hk with h2|h2
  ·have:=hc.lt h1;omega
  exact(hy id h2).1 c h1
 have tN:∀k,k<w.heap.size->¬X0 k->w'.heap[k]?=w.heap[k]?:=fun k hk hx=>hr.cV.block k hk hx;have eM:Frame Z μ w w':=by
  refine⟨fun id h=>tN id (hc.m9 id h) (fun e=>e.elim (fun e=>(hb id e).2 h) (fun e=>(hy id e).2.1 h)),fun c id h cc T fz wx=>?_⟩;by_cases e:X0 id
  ·exact hr.cV.yl id e cc T fz wx
  exact⟨cc,(tN id (hc.lt h) e).trans wx,rfl⟩
 have hX:∀k,k<W.heap.size->¬X k->¬X0 k:=fun k hk hx e=>by
  rcases e with e|e
  ·rcases hc.own (σ 0) k (hb k e).1 with h|h
   ·omega
   exact hx h
  rcases(hy k e).2.2 with h|h
  ·omega
  exact hx (.inr h)
 refine⟨⟨?_,hr.m9,fun id h=>hr.kU id (hc.kU id h),?_,?_,?_,?_,hc.pY,fun id h=>alg 0 id (hc.x1 id h),?_,?_,?_⟩,alg,eM,nS⟩
 ·refine⟨hr.cV.os.trans hc.cV.os,hr.cV.tape.trans hc.cV.tape,hr.cV.output.trans hc.cV.output,aP hc.cV.size hr.cV.size,fun k hk hx=>?_,fun k hx c T fz h=>?_⟩
  ·exact(tN k (by have:=hc.cV.size;omega) (hX k hk hx)).trans (hc.cV.block k hk hx)
  obtain⟨c',g1,g2⟩:=hc.cV.yl k hx c T fz h;by_cases e:X0 k
  ·obtain⟨c2,g3,g4⟩:=hr.cV.yl k e c' T fz g1;exact⟨c2,g3,g4.trans g2⟩
  exact⟨c',(tN k (lX.1 g1).1 e).trans g1,g2⟩
 ·intro id h;rcases hr.nc id h with h|h|h
  ·exact hc.nc id h
  ·exact .inr (.inl (aP hc.cV.size h))
  exact .inr (hy id h).2.2
 ·intro c c' id h h';rcases hinv c id h with⟨k,k0,rfl,h1⟩|h1<;>rcases hinv c' id h' with⟨k',k0',rfl,h2⟩|h2
  ·rw[hr.inj k k' id h1 h2]
  ·exact(aoO k id _ h1 k0 h2).elim
  ·exact(aoO k' id _ h2 k0' h1).elim
  exact hc.inj c c' id h1 h2
 ·intro c id h;rcases hinv c id h with⟨k,k0,rfl,h1⟩|h1
  ·rcases cI k id h1 k0 with h2|h2
   ·exact .inl (aP hc.cV.size h2)
   exact(hy id h2).2.2.imp (fun h=>h) .inr
  exact hc.own c id h1
 ·intro c id h hx;rcases hinv c id h with⟨k,k0,rfl,h1⟩|h1
  ·exact(aoO k id 0 h1 k0 (hc.x1 id hx)).elim
  exact hc.x0 c id h1 hx
 all_goals
  have zK:∀c id,y8 μ fi d c=some id->(∃k blk,c=σ k/\fi k=some id/\Hr k=some blk/\xd Zr fi w' blk id)\/(¬X0 id/\μ c=some id):=fun c id h=>by
   rcases hinv c id h with⟨k,k0,rfl,h1⟩|h1
   ·obtain⟨blk,g1,g2⟩:=hr.heap k id h1;exact .inl ⟨k,blk,(yh k id h1 k0).2.1.symm,h1,g1,g2⟩
   by_cases e:X0 id
   ·have e:X0.x id:=e.resolve_right (fun e=>(hy id e).1 c h1);have hc0:=hc.inj c (σ 0) id h1 (hb id e).1;have h2:=hr.x1 id e;obtain⟨blk,g1,g2⟩:=hr.heap 0 id h2;exact .inl ⟨0,blk,hc0,h2,g1,g2⟩
   exact .inr ⟨e,h1⟩
 ·intro c id blk h g gX hz;rcases zK c id h with⟨k,b0,rfl,h1,g1,g2⟩|⟨e,h1⟩
  ·rw[hH k id b0 h1 g1]at g;cases g;exact hr.ku k id b0 h1 g1 gX hz
  rw[hold c id h1 e]at g;rcases hr.nc id hz with hz|hz|hz
  ·exact hc.ku c id blk h1 g gX hz
  ·have:=hc.lt h1;omega
  exact(e (.inr hz)).elim
 ·intro c id blk h g gX;rcases zK c id h with⟨k,b0,rfl,h1,g1,g2⟩|⟨e,h1⟩
  ·rw[hH k id b0 h1 g1]at g;cases g;exact hr.b9 k id b0 h1 g1 gX
  rw[hold c id h1 e]at g;exact hr.kU id (hc.b9 c id blk h1 g gX)
 intro c id h;rcases zK c id h with⟨k,b0,rfl,h1,g1,cc,T,part,rest,q1,q2,q3⟩|⟨e,h1⟩
 ·exact⟨_,hH k id b0 h1 g1,cc,T,part,rest,q1,q2,aT.b8 σ nS _ _ _ q3⟩
 obtain⟨bk,g1,g2⟩:=hc.heap c id h1;exact⟨bk,by rw[hold c id h1 e];exact g1,g2.mono hr.kU alg eM (tN id (hc.lt h1) e)⟩
def sO(blk:aV)(bs:List aV):cd:=fun n=>if n=0 then some blk else bs[n-1]?
def vk(σ:Nat->Nat):Nat->List aV->St->St
 |_,[],L=>L
 |k,b::bs,L=>vk σ (k+1) bs (L.bO (σ k) (some ⟨b.sz,dL σ b.vals,b.mt⟩))
theorem aB4:∀(bs:List aV) (k:Nat) (L:St),(vk σ k bs L).slot=L.slot
 | [],_,_=>rfl
 |b::bs,k,L=>by rw[vk,aB4 bs];rfl
theorem ajC:∀(bs:List aV) (k:Nat) (L:St) (c:Nat),(∀j,k<=j->j<k+bs.length->c≠σ j)->(vk σ k bs L).heap c=L.heap c
 | [],_,_,_,_=>rfl
 |b::bs,k,L,c,h=>by
   rw[vk,ajC bs (k+1) _ c (fun j h1 h2=>h j J (by simp only[dR];omega))];show (if c=σ k then _ else L.heap c)=_;rw[if_neg (h k (bF _) (by simp only[dR];omega))]
theorem avv:∀(bs:List aV) (k:Nat) (L:St) (i:Nat) (b:aV),(∀j j',k<=j->j<j'->j'<k+bs.length->σ j≠σ j')->bs[i]?=some b->(vk σ k bs L).heap (σ (k+i))=some ⟨b.sz,dL σ b.vals,b.mt⟩
 | [],_,_,i,_,_,h=>by simp at h
 |x::xs,k,L,0,b,hi,h=>by
   simp only[o8,gj]at h;subst h;show (vk σ k (x::xs) L).heap (σ k)=_;rw[vk,ajC xs (k+1) _ _ (fun j h1 h2=>hi k j (bF _) J (by simp only[dR];omega))];simp[St.bO]
 |x::xs,k,L,i+1,b,hi,h=>by
   rw[vk];have:=avv xs (k+1) (L.bO (σ k) (some ⟨x.sz,dL σ x.vals,x.mt⟩)) i b (fun j j' h1 h2 h3=>hi j j' J h2 (by simp only[dR];omega)) mA;rwa[show k+1+i=k+(i+1) by omega]at this
def kY(b d:Nat):Nat->Nat:=fun k=>if k=0 then b else dv d k
end
end Go.Lg
namespace Go.Lg
section
variable {P:Program} {W w w':World} {X X0:XS} {Z0 Z Zr:Nat->Prop} {μ fi:Nat->Option Nat} {H H' Hr:cd} {a:Act} {L L':St} {n d:Nat} {ops:Array Oper} {σ:Nat->Nat}
def rJ(own:List Nat):Nat->Nat:=fun b=>if b=0 then 0 else own.idxOf b+1
def abO(μ:Nat->Option Nat)(own:List Nat):Nat->Option Nat:=fun k=>if k=0 then μ 0 else(own[k-1]?).bind μ
theorem aIe{own:List Nat}{k id:Nat}(hnd:own.Nodup)(h:abO μ own k=some id):(k=0/\μ 0=some id)\/∃b,k≠0/\own[k-1]?=some b/\μ b=some id:=by
 unfold abO at h;split at h
 ·rename_i e;exact .inl ⟨e,h⟩
 rename_i e;rw[Option.bind_eq_some_iff]at h;obtain⟨b,g1,g2⟩:=h;exact .inr ⟨b,e,g1,g2⟩
theorem aNf{own:List Nat}{H:cd}(hc:∀c id,μ c=some id->H c≠none)(abg:∀c,c≠0->H c≠none->c∈own):∀c id,μ c=some id->abO μ own (rJ own c)=some id:=fun c id h=>by
 by_cases h0:c=0
 ·subst h0;simpa[rJ,abO]using h
 have hm:=abg c h0 (hc c id h);have hl:=List.idxOf_lt_length_of_mem hm;have he:own[own.idxOf c]?=some c:=by rw[ck hl,List.getElem_idxOf hl]
 simp[rJ,abO,h0,he,h]
theorem aso{bE:Nat->Option Nat}(f:Nat->Nat)(hm:∀c id,μ c=some id->bE (f c)=some id)(hc:Core W X Z0 μ Z L.heap w)(hr:∀t,bJ Z μ w (L.slot t) (a.tmps.getD t undef)):
  ∀(rs:List ResultVar) (xs:List LV),abe P L rs xs->(∀x∈xs,x≠.any/\∀l,x≠.aY l)->∃us,(rs.mapM (abA a.tmps)).run P w=.ok us w/\il Z bE w (dL f xs) us
 |_,_,.nil,_=>⟨[],rfl,rfl⟩
 |_,_,.cons (vs:=vs) (xs:=xs) h t,hx=>by
   obtain⟨u,q1,q2⟩:=aoJ hc hr h (hx _ aE);obtain⟨us,q3,q4⟩:=aso f hm hc hr _ _ t (fun y hy=>hx y (by simp[hy]));refine⟨u::us,?_,u,us,rfl,q2.b8 f hm,q4⟩;rw[List.mapM_cons,Sem.run_bind,q1];simp only[Result.andThen_ok,Sem.run_bind,q3,Sem.run_pure]
theorem aHZ{ys:List LV}{us:List Value}(h:il Z μ w ys us):bJ Z μ w (ajA ys) (if h:us.toArray.size=1 then us.toArray[0]else .tuple us.toArray):=by
 have hyl:=adS _ _ h
 match ys,us,h,hyl with
 | [y],[u],q2,_ =>
  obtain⟨v,l7,e,g1,g2⟩:=q2;simp only[iF]at e;obtain⟨rfl,_⟩:=e;have hnt:∀l,y≠.aY l:=fun l e=>by subst e;have:=g1.2 rfl;simp[aH]at this
  exact bJ.xO hnt g1
 | [],[],q2,_=>exact⟨_,rfl,by simpa using q2⟩
 |y::y'::ys,u::u'::us,q2,_=>exact⟨(u::u'::us).toArray,by simp,by simpa using q2⟩
theorem Core.aOS{own:List Nat}{Hr:cd}{bs:List aV}(hc:Core W X Z0 μ Z H w)(hnd:own.Nodup)(jJ:0∉own)(abg:∀c,c≠0->H c≠none->c∈own)
  (uj:∀(k b:Nat),own[k]?=some b->∃blk:aV,H b=some blk/\bs[k]?=some ⟨blk.sz,dL (rJ own) blk.vals,blk.mt⟩)
  (fR:∀k,k≠0->Hr k=bs[k-1]?) (tY:∀id blk,μ 0=some id->H 0=some blk->Hr 0=some ⟨blk.sz,dL (rJ own) blk.vals,blk.mt⟩) :
  Core W X Z0 (abO μ own) Z Hr w/\∀c id,μ c=some id->abO μ own (rJ own c)=some id:=by
 have hhm:∀c id,μ c=some id->H c≠none:=fun c id h e=>by obtain⟨bk,g,_⟩:=hc.heap c id h;rw[e]at g;cases g
 have hm:=aNf (μ:=μ) (own:=own) hhm abg;have zK:∀k id,abO μ own k=some id->∃c blk,μ c=some id/\H c=some blk/\xd Z μ w blk id/\Hr k=some ⟨blk.sz,dL (rJ own) blk.vals,blk.mt⟩/\((k=0/\c=0)\/(k≠0/\c≠0/\own[k-1]?=some c)):=fun k id h=>by
  rcases aIe hnd h with⟨rfl,h0⟩|⟨b,k0,g1,g2⟩
  ·obtain⟨blk,q1,q2⟩:=hc.heap 0 id h0;exact⟨0,blk,h0,q1,q2,tY id blk h0 q1,.inl ⟨rfl,rfl⟩⟩
  obtain⟨blk,q1,q2⟩:=hc.heap b id g2;obtain⟨blk',j1,j2⟩:=uj _ _ g1;rw[q1]at j1;cases j1;exact⟨b,blk,g2,q1,q2,by rw[fR k k0];exact j2,.inr ⟨k0,fun e=>jJ (e▸vI g1),g1⟩⟩
 refine⟨⟨hc.cV,hc.m9,hc.kU,hc.nc,?_,?_,?_,hc.pY,fun id h=>by simpa[abO]using hc.x1 id h,?_,?_,?_⟩,hm⟩
 ·intro k k' id h h';obtain⟨c,_,g1,_,_,_,g2⟩:=zK k id h;obtain⟨c',_,g1',_,_,_,g2'⟩:=zK k' id h';have e:=hc.inj c c' id g1 g1';subst e;rcases g2 with⟨rfl,c0⟩|⟨k0,c0,q⟩<;>rcases g2' with⟨rfl,c0'⟩|⟨k0',c0',q'⟩
  ·rfl
  ·exact absurd c0 c0'
  ·exact absurd c0' c0
  obtain⟨l1,e1⟩:=qi.1 q;obtain⟨l2,e2⟩:=qi.1 q';have hp:=List.pairwise_iff_getElem.1 hnd;rcases ayz (k-1) (k'-1)with h|h|h
  ·exact absurd (e1.trans e2.symm) (hp _ _ l1 l2 h)
  ·omega
  exact absurd (e2.trans e1.symm) (hp _ _ l2 l1 h)
 ·intro k id h;obtain⟨c,_,g1,_⟩:=zK k id h;exact hc.own c id g1
 ·intro k id h hx;obtain⟨c,_,g1,_,_,_,g2⟩:=zK k id h;have:=hc.x0 c id g1 hx;rcases g2 with⟨rfl,_⟩|⟨_,c0,_⟩
  ·rfl
  exact absurd this c0
 ·intro k id blk h g gX;obtain⟨c,b0,g1,g2,g3,g4,_⟩:=zK k id h;rw[g4]at g;cases g;exact hc.ku c id b0 g1 g2 gX
 ·intro k id blk h g gX;obtain⟨c,b0,g1,g2,g3,g4,_⟩:=zK k id h;rw[g4]at g;cases g;exact hc.b9 c id b0 g1 g2 gX
 intro k id h;obtain⟨c,b0,g1,g2,⟨cc,T,part,rest,j1,j2,j3⟩,g4,_⟩:=zK k id h;exact⟨_,g4,cc,T,part,rest,j1,j2,aT.b8 _ hm _ _ _ j3⟩
def kg(b b':Nat):Nat->Nat:=fun k=>if k=b then b' else k
def St.move(L:St)(b b':Nat):St :=
 ⟨fun t=>(L.slot t).b8 (kg b b'),fun c=>if c=b' then(L.heap b).map fun x=>⟨x.sz,dL (kg b b') x.vals,x.mt⟩else if c=b then none else(L.heap c).map fun x=>⟨x.sz,dL (kg b b') x.vals,x.mt⟩⟩
theorem au.aHs{L:St}{b b':Nat}(hb:b≠0)(rM:b'≠0)(aZ:b≠b')(hf:L.heap b'=none):au L (L.move b b'):=by
 rintro n W X Z0 a w ⟨fA,bU,μ,Z,hc,hr⟩;have vT:μ b'=none:=xb hc hf
 let bE:Nat->Option Nat:=fun c=>if c=b' then μ b else if c=b then none else μ c
 have hm:∀c id,μ c=some id->bE (kg b b' c)=some id:=fun c id h=>by
  by_cases e:c=b
  ·subst e;simp[bE,kg,h]
  have e':c≠b':=by rintro rfl;rw[vT]at h;cases h
  simp[bE,kg,e,e',h]
 have hinv:∀c id,bE c=some id->∃c0,μ c0=some id/\c=kg b b' c0:=fun c id h=>by
  simp only[bE]at h;split at h
  ·rename_i e;exact⟨b,h,by simp[kg,e]⟩
  split at h
  ·cases h
  rename_i e1 e2;exact⟨c,h,by simp[kg,e2]⟩
 have hmi:∀c c' id id',μ c=some id->μ c'=some id'->kg b b' c=kg b b' c'->c=c':=fun c c' id id' h h' e=>by
  have e1:c≠b':=by rintro rfl;rw[vT]at h;cases h
  have e2:c'≠b':=by rintro rfl;rw[vT]at h';cases h'
  unfold kg at e;split at e<;>split at e<;>first|omega|(subst_vars;first|rfl|(exact absurd rfl (by assumption))|(exfalso;apply e2;exact e.symm)|(exfalso;apply e1;exact e))
 have hH:∀c id blk,μ c=some id->L.heap c=some blk->(L.move b b').heap (kg b b' c)=some ⟨blk.sz,dL (kg b b') blk.vals,blk.mt⟩:=fun c id blk h g=>by
  by_cases e:c=b
  ·subst e;simp[St.move,kg,g]
  have e':c≠b':=by rintro rfl;rw[vT]at h;cases h
  simp[St.move,kg,e,e',g]
 refine⟨fA,bU,bE,Z,⟨hc.cV,hc.m9,hc.kU,hc.nc,?_,?_,?_,hc.pY,?_,?_,?_,?_⟩,fun t=>bJ.b8 _ hm (hr t)⟩
 ·intro c c' id h h';obtain⟨d,g1,rfl⟩:=hinv c id h;obtain⟨d',g2,rfl⟩:=hinv c' id h';rw[hc.inj d d' id g1 g2]
 ·intro c id h;obtain⟨d,g1,rfl⟩:=hinv c id h;exact hc.own d id g1
 ·intro c id h hx;obtain⟨d,g1,rfl⟩:=hinv c id h;have:=hc.x0 d id g1 hx;subst this;simp[kg,Ne.symm hb]
 ·intro id h;have:=hm 0 id (hc.x1 id h);simpa[kg,Ne.symm hb]using this
 ·intro c id blk h g gX;obtain⟨d,g1,rfl⟩:=hinv c id h;obtain⟨b0,j1,j2⟩:=hc.heap d id g1;rw[hH d id b0 g1 j1]at g;cases g;exact hc.ku d id b0 g1 j1 gX
 ·intro c id blk h g gX;obtain⟨d,g1,rfl⟩:=hinv c id h;obtain⟨b0,j1,j2⟩:=hc.heap d id g1;rw[hH d id b0 g1 j1]at g;cases g;exact hc.b9 d id b0 g1 j1 gX
 intro c id h;obtain⟨d,g1,rfl⟩:=hinv c id h;obtain⟨b0,j1,cc,T,part,rest,q1,q2,q3⟩:=hc.heap d id g1;exact⟨_,hH d id b0 g1 j1,cc,T,part,rest,q1,q2,aT.b8 _ hm _ _ _ q3⟩
theorem aBI{b b':Nat}(f:aV->aV)(aZ:b≠b'):∀(l:List (Nat×aV)),(∀p∈l,p.1≠b')->∀c,hp (l.map fun p=>(kg b b' p.1,f p.2)) c=if c=b' then(hp l b).map f else if c=b then none else(hp l c).map f
 | [],_,c=>by simp[hp]
 |(d,y)::t,hl,c=>by
   have ih:=aBI f aZ t (fun p hp=>hl p (by simp[hp])) c;have hd:d≠b':=hl (d,y) aE;have hpc:∀(e:Nat) (z:aV) (u:List (Nat×aV)) (x:Nat),hp ((e,z)::u) x=if x=e then some z else hp u x:=fun e z u x=>by
    simp only[hp];by_cases h:x=e
    ·simp[h]
    have:oV x e=false:=by rw[<-y9,uy];exact h
    rw[this,if_neg h];rfl
   simp only[nK,hpc,ih];by_cases h1:d=b
   ·subst h1;simp only[kg,if_true];by_cases h2:c=b'
    ·simp[h2]
    by_cases h3:c=d
    ·subst h3;simp[h2]
    simp[h2,h3]
   have e1:kg b b' d=d:=by simp[kg,h1]
   rw[e1];by_cases h2:c=b'
   ·subst h2;have:c≠d:=fun e=>hd e.symm;simp[this,Ne.symm h1]
   by_cases h3:c=b
   ·subst h3;simp[h2,Ne.symm h1]
   by_cases h4:c=d
   ·subst h4;simp[h2,h3]
   simp[h2,h3,h4]
theorem au.aOY{L:St}{b b':Nat}{l:List (Nat×aV)}(hl:L.heap=hp l)(hb:b≠0)(rM:b'≠0)(aZ:b≠b'):
  au L ⟨fun t=>((L.slot t).kill b').b8 (kg b b'),hp ((rj b' l).map fun p=>(kg b b' p.1,(⟨p.2.sz,dL (kg b b') p.2.vals,p.2.mt⟩:aV)))⟩:=by
 have hk:(L.kill b').heap=hp (rj b' l):=by
  funext c;rw[aiX];simp only[St.kill,hl]
 have hn:∀p∈rj b' l,p.1≠b':=by
  clear hk hl
  induction l with
  |nil=>simp[rj]
  |cons q t ih =>
   obtain⟨d,y⟩:=q;simp only[rj];by_cases h:d=b'
   ·subst h;simpa using ih
   have:oV d b'=false:=by rw[<-y9,uy];exact h
   rw[this];simp only[cond_false,dS];rintro p (rfl|hp)
   ·exact h
   exact ih p hp
 refine(au.kill L b' rM).trans ((au.aHs (b:=b) (b':=b') hb rM aZ (by simp[St.kill])).trans (au.of_eq ?_));simp only[St.move,St.mk.injEq];refine⟨rfl,?_⟩;funext c;rw[aBI (fun x=>⟨x.sz,dL (kg b b') x.vals,x.mt⟩) aZ _ hn c,hk]
end
section
variable {Z Z':Nat->Prop} {μ bE:Nat->Option Nat} {w:World}
mutual
theorem LV.amX(f:Nat->Nat):∀(x:LV),(x.b8 f).pure=x.pure
 | .any=>rfl
 | .v _=>rfl
 | .list sz l=>by simp only[LV.b8,LV.pure,afV f l]
 | .agg l=>by simp only[LV.b8,LV.pure,afV f l]
 | .ref ..=>rfl
 | .lj ..=>rfl
 | .aB ..=>rfl
 | .cx c=>by simp only[LV.b8,LV.pure,LV.amX f c]
 | .dT g l=>by simp only[LV.b8,LV.pure,afV f l]
 | .aY l=>by simp[LV.b8,LV.pure]
theorem afV(f:Nat->Nat):∀(l:List LV),aO (dL f l)=aO l
 | []=>rfl
 |x::xs=>by simp only[dL,aO,LV.amX f x,afV f xs]
end
mutual
theorem aH.unren(f:Nat->Nat)(hm:∀b id,μ (f b)=some id->bE b=some id):∀(lv:LV) (cs:List Value),aH Z μ w (lv.b8 f) cs->aH Z bE w lv cs
 | .any,_,h=>by simpa[aH,LV.b8]using h
 | .v x,cs,h=>by simpa[aH,LV.b8]using h
 | .list sz l,cs,h=>by
   have h9:aO l=true:=by
    simp only[aH,LV.b8]at h;obtain⟨a,len,cap,h1,h2,h3,h4,h9⟩:=h;rwa[afV]at h9
   rw[LV.db f (.list sz l) (by simpa[LV.pure]using h9)]at h;exact aH.lS (fun _ h=>h) (fun _ _=>rfl) _ _ (by simpa[LV.pure]using h9) h
 | .agg l,cs,h=>by
   simp only[aH,LV.b8]at h ⊢;exact cP.unren f hm l cs h
 | .ref b sz off len,cs,h=>by
   simp only[aH,LV.b8]at h ⊢;rcases h with h|⟨id,cap,c,T,fz,h1,h2,h3⟩
   ·exact qN
   exact .inr ⟨id,cap,c,T,fz,h1,hm _ _ h2,h3⟩
 | .lj b sz off len cap,cs,h=>by
   simp only[aH,LV.b8]at h ⊢;obtain⟨id,c,T,fz,h1,h2,h3⟩:=h;exact⟨id,c,T,fz,h1,hm _ _ h2,h3⟩
 | .aB b sz i o,cs,h=>by
   simp only[aH,LV.b8]at h ⊢;obtain⟨id,h1,h2⟩:=h;exact⟨id,h1,hm _ _ h2⟩
 | .cx c,cs,h=>by
   have h9:c.pure=true:=by
    simp only[aH,LV.b8]at h;obtain⟨blk,off,cc,T,fz,part,rest,h1,h2,h3,h4,h5,h6,h7⟩:=h;rwa[LV.amX]at h7
   rw[LV.db f (.cx c) (by simpa[LV.pure]using h9)]at h;exact aH.lS (fun _ h=>h) (fun _ _=>rfl) _ _ (by simpa[LV.pure]using h9) h
 | .dT g cap,cs,h=>by
   have h9:aO cap=true:=by
    simp only[aH,LV.b8]at h;obtain⟨vs,h1,h2,h3⟩:=h;rwa[afV]at h3
   rw[LV.db f (.dT g cap) (by simpa[LV.pure]using h9)]at h;exact aH.lS (fun _ h=>h) (fun _ _=>rfl) _ _ (by simpa[LV.pure]using h9) h
 | .aY _,_,h=>by simp[aH,LV.b8]at h
theorem aT.unren(f:Nat->Nat)(hm:∀b id,μ (f b)=some id->bE b=some id)(sz:Nat):∀(l:List LV) (cs:List Value),aT Z μ w sz (dL f l) cs->aT Z bE w sz l cs
 | [],cs,h=>by simpa[aT,dL]using h
 |x::xs,cs,h=>by
   simp only[aT,dL]at h ⊢;obtain⟨c1,c2,h1,h2,h3,h4⟩:=h;exact⟨c1,c2,h1,h2,aH.unren f hm x c1 h3,aT.unren f hm sz xs c2 h4⟩
theorem cP.unren(f:Nat->Nat)(hm:∀b id,μ (f b)=some id->bE b=some id):∀(l:List LV) (cs:List Value),cP Z μ w (dL f l) cs->cP Z bE w l cs
 | [],cs,h=>by simpa[cP,dL]using h
 |x::xs,cs,h=>by
   simp only[cP,dL]at h ⊢;obtain⟨c1,c2,h1,h2,h3,h4⟩:=h;exact⟨c1,c2,h1,by rw[<-LV.alU f];exact h2,aH.unren f hm x c1 h3,cP.unren f hm xs c2 h4⟩
end
theorem g8.unren(f:Nat->Nat)(hm:∀b id,μ (f b)=some id->bE b=some id){lv:LV}{v:Value}(h:g8 Z μ w (lv.b8 f) v):g8 Z bE w lv v :=
 ⟨fun e=>let ⟨cs,h1,h2⟩:=h.1 (by rwa[LV.ajs]);⟨cs,h1,aH.unren f hm _ _ h2⟩,fun e=>aH.unren f hm _ _ (h.2 (by rwa[LV.ajs]))⟩
end
def XS.two(i0:Nat)(so:Nat->Option Nat):XS:=⟨fun k=>k=i0,fun id=>∃k,k≠0/\so k=some id⟩
def zo(P:Program)(f:FuncId)(blk c1:aV)(args:List LV)(r:LV)(blk':aV)(bs:List aV):Prop :=
 akX P f/\∀(W:World) (Z0:Nat->Prop) (vs:List Value) (i0:Nat) (so:Nat->Option Nat),(∀id,Z0 id->id<W.heap.size)->so 0=some i0 ->
  (∀k id,so k=some id->¬Z0 id/\∃b,sO blk [c1] k=some b/\xd Z0 so W b id)->(∀k k' id,so k=some id->so k'=some id->k=k')->il Z0 so W args vs ->
  Calls P f vs.toArray W fun e w'=>∃v μ Z,e=.returned v/\Core W (XS.two i0 so) Z0 μ Z (sO blk' bs) w'/\bJ Z μ w' r v
def ajV(P:Program)(rs:List ResultVar)(L:St)(r:LV)(blk':aV)(bs:List aV):Prop :=
 ∃(xs:List LV) (own:List Nat) (b0:aV),L.heap 0=some b0/\blk'=⟨b0.sz,dL (rJ own) b0.vals,b0.mt⟩/\abe P L rs xs/\(∀x∈xs,x≠.any/\∀l,x≠.aY l)/\own.Nodup/\0∉own/\(∀c,c≠0->L.heap c≠none->c∈own) /\
  (∀(k b:Nat),own[k]?=some b->∃blk:aV,L.heap b=some blk/\bs[k]?=some ⟨blk.sz,dL (rJ own) blk.vals,blk.mt⟩)/\r=ajA (dL (rJ own) xs)
def ao0(P:Program)(rs:List ResultVar)(L:St)(r:LV)(blk':aV)(bs:List aV):Prop:=∃L0,au L L0/\ajV P rs L0 r blk' bs
section
variable {P:Program} {W w w':World} {X X0:XS} {Z0 Z Zr:Nat->Prop} {μ fi:Nat->Option Nat} {H H' Hr:cd} {a:Act} {L L':St} {n d:Nat} {ops:Array Oper} {σ:Nat->Nat}
def StC(args:List LV)(blk c1:aV):St:=⟨fun t=>args.getD t .any,sO blk [c1]⟩
theorem aEY(args:List LV)(blk c1:aV):StC args blk c1=St.mk (fun t=>args.getD t .any) (hp [(0,blk),(1,c1)]):=by
 simp only[StC,St.mk.injEq,true_and];funext c;simp only[hp,sO]
 match c with
 |0=>rfl
 |1=>rfl
 |c+2=>rw[if_neg J,ss (show c+2≠0 by omega),ss (show c+2≠1 by omega)];simp
theorem aLF{f:FuncId}{fn:Func}{c:Code}{args:List LV}{r:LV}{blk c1 blk':aV}{bs:List aV}(jK:P.follows .mixedOrders=true)(hf:P.funcs[f]?=some fn)(hb:fn.body=some c)
  (hn:(fn.name== "runtime.NumGoroutine")=false) (hd:mQ fn.ntmps c=true) (hlen:args.length<=fn.ntmps) (gX:blk.mt=true) (aoH:c1.mt=true)
  (h:c9 P c (fun e L=>match e with | .exit _=>False|_=>ao0 P fn.results.toList L r blk' bs) (St.mk (fun t=>args.getD t .any) (hp [(0,blk),(1,c1)]))):zo P f blk c1 args r blk' bs:=by
 rw[<-aEY]at h;refine⟨⟨fn,hf,by rw[hb];rfl,hn⟩,fun W Z0 vs i0 so hz h0 ve aeV hargs=>?_⟩;have tw:=adS _ _ hargs;refine calls_of_wp hf hb ?_;have ash:∀k id,so k=some id->id<W.heap.size:=fun k id e=>by
  obtain⟨_,bk,_,c,T,part,rest,h1,_⟩:=ve k id e;exact(lX.1 h1).1
 have aFb:∀k bk,sO blk [c1] k=some bk->bk.mt=true:=fun k bk e=>by
  unfold sO at e;split at e
  ·cases e;exact gX
  rename_i hk;have:=vI e;simp only[iM]at this;subst this;exact aoH
 have rD:ic fn.ntmps W (XS.two i0 so) Z0 (StC args blk c1) ⟨vs.toArray++uo (fn.ntmps-vs.toArray.size) undef,[]⟩ W:=by
  refine⟨rfl,by simp;omega,so,Z0,⟨Kept.refl _ _,hz,fun _ h=>h,fun _ h=>.inl h,aeV,fun b id e=>?_,fun b id e hx=>?_,fun id e=>?_,fun id e=>?_,fun b id bk e _ _=>(ve b id e).1,
   fun b id bk e g hm=>?_,fun b id e=>?_⟩,fun t=>?_⟩
  ·by_cases gh:b=0
   ·subst gh;rw[h0]at e;cases e;exact .inr (.inl rfl)
   exact .inr (.inr ⟨b,gh,e⟩)
  ·rw[show id=i0 from hx]at e;exact aeV _ _ _ e h0
  ·rcases e with e|⟨k,_,e⟩
   ·rw[show id=i0 from e];exact ash _ _ h0
   exact ash _ _ e
  ·rw[show id=i0 from e];exact h0
  ·rw[aFb b bk g]at hm;cases hm
  ·exact(ve b id e).2
  have e:vs.toArray++uo (fn.ntmps-vs.toArray.size) undef=(vs++av (fn.ntmps-vs.toArray.size) undef).toArray:=by apply y6;simp
  show bJ Z0 so W ((St0 args).slot t) ((vs.toArray++uo (fn.ntmps-vs.toArray.size) undef).getD t undef);rw[e];exact ama args vs _ hargs t
 refine wp_mono (abJ jK c _ _ _ _ rD h hd) fun e a w q=>?_;have main:∀L,ao0 P fn.results.toList L r blk' bs->ic fn.ntmps W (XS.two i0 so) Z0 L a w ->
   a.defers=[]/\∃v,(results fn a.tmps).run P w=.ok v w/\∃v' μ Z,Ending.returned v=.returned v'/\Core W (XS.two i0 so) Z0 μ Z (sO blk' bs) w/\bJ Z μ w r v':=by
  rintro L ⟨L0,hwk,xs,own,b0,gh,aJu,h1,hx,h2,h3,h4,h5,h6⟩ hsL;obtain⟨fA,bU,μ,Z,hc,hr⟩:=hwk _ _ _ _ _ _ hsL;obtain⟨k1,k2⟩:=hc.aOS (Hr:=sO blk' bs) h2 h3 h4 h5 (fun k hk=>by simp[sO,hk]) (fun id blk e g=>by rw[gh]at g;cases g;simp[sO,aJu]);obtain⟨us,q1,q2⟩:=aso (rJ own) k2 hc hr _ _ h1 hx;have sv:(fn.results.mapM (abA a.tmps)).run P w=.ok us.toArray w:=by
   rw[Array.mapM_eq_mapM_toList,Sem.run_map,q1];rfl
  refine⟨fA,(if h:us.toArray.size=1 then us.toArray[0]else .tuple us.toArray),?_,_,_,Z,rfl,k1,?_⟩
  ·rw[anB,Sem.run_bind,sv];rfl
  subst h6;exact aHZ q2
 cases e with
 |normal=>obtain⟨L,q1,q2⟩:=q;exact main L q1 q2
 |ret=>obtain⟨L,q1,q2⟩:=q;exact main L q1 q2
 |exit id=>obtain⟨L,q1,q2⟩:=q;exact q1.elim
 |_=>exact q.elim
def nmC(b c d:Nat):Nat->Nat:=fun k=>if k=0 then b else if k=1 then c else dv d 0
inductive ais (H:cd) (σ:Nat->Nat):LV->LV->Prop
 |dH {x y} (h:dt H x y):ais H σ x y
 |b8 {y} (h:y≠.any/\∀l,y≠.aY l):ais H σ (y.b8 σ) y
inductive ah7 (H:cd) (σ:Nat->Nat):List LV->List LV->Prop
 |nil:ah7 H σ [] []
 |cons {x y xs ys} (h:ais H σ x y) (t:ah7 H σ xs ys):ah7 H σ (x::xs) (y::ys)
theorem ais.sound(hc:Core W X Z0 μ Z H w){x y:LV}{v:Value}(h:ais H σ x y)(hr:bJ Z μ w x v):g8 Z (fun k=>μ (σ k)) w y v:=by
 cases h with
 |dH h=>exact dt.agD hc h hr
 |b8 hn =>
  refine g8.unren σ (fun _ _ h=>h) ?_
  cases y with
  |any=>exact absurd rfl hn.1
  |aY l=>exact absurd rfl (hn.2 l)
  |_=>exact hr
theorem awp(hc:Core W X Z0 μ Z H w){ρ:Operand->LV}:∀(xs:List Operand) (args:List LV),ah7 H σ (xs.map ρ) args->(∀x∈xs,bJ Z μ w (ρ x) (a.eval x)) ->
  il Z (fun k=>μ (σ k)) w args (xs.map a.eval)
 | [],_,h,_=>by cases h;rfl
 |x::xs,_,h,hr=>by
   generalize hq:(x::xs).map ρ=q at h
   cases h with
   |nil=>cases hq
   |cons h t =>
    simp only[nK,iF]at hq;obtain⟨rfl,rfl⟩:=hq;exact⟨_,_,rfl,h.sound hc (hr x aE),awp hc xs _ t (fun y hy=>hr y (by simp[hy]))⟩
theorem an8{f:FuncId}{xs:Array Operand}{xh:Array TypeId}{args:List LV}{r:LV}{b c sz csz:Nat}{vals cvals:List LV}{blk':aV}{bs:List aV}{dst:Option Tmp}{ty:TypeId}{pos:String}{af:Array Edge}{g:Option (Nat×Bool)}(d:Nat)
  (hg:eg ops L ⟨dst,.call ⟨.value (.func f),xs,xh⟩,ty,pos,af,g⟩ true) (yb:b≠c) (hc0:c≠0)
  (hb:L.heap b=some ⟨sz,dL (nmC b c d) vals,true⟩) (nz:L.heap c=some ⟨csz,dL (nmC b c d) cvals,true⟩)
  (ha:ah7 L.heap (nmC b c d) (xs.toList.map L.ev) args) (hn:Names b (xs.toList.map L.ev))
  (hk:zo P f ⟨sz,vals,true⟩ ⟨csz,cvals,true⟩ args r blk' bs) (hlen:bs.length<16) (hf:∀k,k<16->L.heap (dv d k)=none) :
  acK P ops ⟨dst,.call ⟨.value (.func f),xs,xh⟩,ty,pos,af,g⟩ L ((vk (kY b d) 1 bs ((L.kill c).bO b (some ⟨blk'.sz,dL (kY b d) blk'.vals,blk'.mt⟩))).put dst (r.b8 (kY b d))):=by
 intro n W X Z0 a w K Q ⟨fA,avV,μ,Z,hc,hr⟩ hd hK;rw[ael hr hg];simp only[if_true];have jC:∀t,dst=some t->t<a.tmps.size:=fun t h=>by rw[avV];exact hd t h
 obtain⟨i0,rS⟩:=Names.mu (μ:=μ) (Z:=Z) (w:=w) (a:=a) xs.toList hn (fun x _=>n7 (L:=L) hr x);have hargs:=awp (a:=a) hc xs.toList args ha (fun x _=>n7 (L:=L) hr x);have iA:(execOp a.eval (Oper.mk dst (.call ⟨.value (.func f),xs,xh⟩) ty pos af g)).run P w=.ok (.enter f (xs.map a.eval)) w:=by
  have:=ahV (P:=P) (w:=w) (args:=xs.map a.eval) hk.1;simp only[execOp,resolve,Act.eval,Deferred.ofValue,Sem.run_bind,Sem.run_pure,Result.andThen_ok,invoke];simpa using this
 unfold Oper.wp;rw[iA,Oper.upon_enter];have hun:μ (dv d 0)=none:=xb hc (hf 0 J);have alM:∀k id,μ (nmC b c d k)=some id->(k=0/\μ b=some id)\/(k=1/\μ c=some id):=fun k id e=>by
  unfold nmC at e;split at e
  ·exact .inl ⟨by assumption,e⟩
  split at e
  ·exact .inr ⟨by assumption,e⟩
  rw[hun]at e;cases e
 have uI:=hc.ku b i0 _ rS hb rfl;have:=hk.2 w Z (xs.toList.map a.eval) i0 (fun k=>μ (nmC b c d k)) hc.m9 (by simpa[nmC]using rS) (fun k id e=>by
  rcases alM k id e with⟨rfl,e1⟩|⟨rfl,e1⟩
  ·obtain⟨ald,g1,cc,T,part,rest,q1,q2,q3⟩:=hc.heap b id e1;rw[hb]at g1;cases g1;exact⟨hc.ku b id _ e1 hb rfl,_,rfl,cc,T,part,rest,q1,q2,aT.unren _ (fun _ _ h=>h) _ _ _ q3⟩
  ·obtain⟨ald,g1,cc,T,part,rest,q1,q2,q3⟩:=hc.heap c id e1;rw[nz]at g1;cases g1;exact⟨hc.ku c id _ e1 nz rfl,_,rfl,cc,T,part,rest,q1,q2,aT.unren _ (fun _ _ h=>h) _ _ _ q3⟩)
  (fun k k' id e e'=>by
   rcases alM k id e with⟨rfl,e1⟩|⟨rfl,e1⟩<;>rcases alM k' id e' with⟨rfl,e2⟩|⟨rfl,e2⟩
   ·rfl
   ·exact absurd (hc.inj _ _ _ e1 e2) yb
   ·exact absurd (hc.inj _ _ _ e2 e1) yb
   rfl) hargs
 rw[show (xs.toList.map a.eval).toArray=xs.map a.eval from by apply y6;simp]at this;refine this.mono ?_;rintro e w' ⟨v,fi,Zr,rfl,hrr,hv⟩;have aeV:∀j j',1<=j->j<j'->j'<1+bs.length->kY b d j≠kY b d j':=fun j j' h1 h2 _ e=>by
  unfold kY at e;rw[if_neg J,if_neg J]at e;unfold dv at e;omega
 have aAU:∀k id,fi k=some id->k≠0->k<16/\∃blk,bs[k-1]?=some blk:=fun k id h h0=>by
  obtain⟨bk,q1,_⟩:=hrr.heap k id h;simp only[sO,if_neg h0]at q1;have:=(qi.1 q1).1;exact⟨J,bk,q1⟩
 have ph:=hc.kill c hc0;have hinv:∀e id,nq μ c e=some id->e≠c/\μ e=some id:=fun e id h=>by
  unfold nq at h;split at h
  ·cases h
  exact⟨by assumption,h⟩
 have sC:nq μ c b=some i0:=by unfold nq;rw[if_neg yb];exact rS
 obtain⟨h1,h2,h3,h4⟩:=ph.aOz (d:=d) (σ:=kY b d) (H':=(vk (kY b d) 1 bs ((L.kill c).bO b (some ⟨blk'.sz,dL (kY b d) blk'.vals,blk'.mt⟩))).heap) hrr
  (fun k id h h0=>⟨(aAU k id h h0).1,by unfold kY;rw[if_neg h0],by
   unfold nq;split
   ·rfl
   exact xb hc (hf k (aAU k id h h0).1)⟩)
  (fun id e=>by rw[show id=i0 from e];exact⟨sC,uI⟩)
  (fun id ⟨k,k0,e⟩=>by
   rcases alM k id e with⟨rfl,e1⟩|⟨rfl,e1⟩
   ·exact absurd rfl k0
   refine⟨fun e he=>(hinv e id he).1 (hc.inj _ _ _ (hinv e id he).2 e1),hc.ku c id _ e1 nz rfl,?_⟩;rcases hc.own c id e1 with h|h|h
   ·exact qN
   ·exact absurd (hc.x0 c id e1 h) hc0
   exact .inr h)
  (fun id h=>by have:=hrr.x1 i0 rfl;rw[h]at this;cases this;rfl)
  (fun k id bk h g=>by
   by_cases h0:k=0
   ·subst h0;simp only[sO,if_true,gj]at g;subst g;rw[ajC _ _ _ _ (fun j h1 h2 e=>by
     unfold kY at e;rw[if_pos rfl,if_neg J]at e;have:=hf j J;rw[<-e,hb]at this;cases this)]
    simp[St.bO,kY]
   simp only[sO,if_neg h0]at g;have:=avv (σ:=kY b d) bs 1 ((L.kill c).bO b (some ⟨blk'.sz,dL (kY b d) blk'.vals,blk'.mt⟩)) (k-1) bk aeV g;rwa[show 1+(k-1)=k by omega]at this)
  (fun e id h ne=>by
   have aIP:e≠b:=by rintro rfl;rw[sC]at h;cases h;exact ne (.inl rfl)
   rw[ajC _ _ _ _ (fun j h1 h2 ej=>by
    have hj:=hf j J;unfold kY at ej;rw[if_neg J]at ej;subst ej;have:=(hinv _ _ h).2;rw[xb hc hj]at this;cases this)]
   simp[St.bO,aIP])
 refine hK _ _ ⟨by rw[put_defers];exact fA,by rw[uL];exact avV,_,Zr,by rw[kH];exact h1,?_⟩;refine uN (L:=vk (kY b d) 1 bs ((L.kill c).bO b (some ⟨blk'.sz,dL (kY b d) blk'.vals,blk'.mt⟩))) jC (fun t=>?_) (hv.b8 _ h4);rw[aB4];exact(agy c hr t).mono hrr.kU h2 h3
end
end Go.Lg
namespace Go.Lg
theorem au.aJO{L:St}{b d sz csz:Nat}{m:Bool}{vals ath:List LV}(aZ:b≠d)(hd:L.heap d=none)(hb:L.heap b=some ⟨sz,vals,m⟩)
  (hv:∀(Z:Nat->Prop) (μ:Nat->Option Nat) (w:World) (part:List Value),aT Z μ w sz vals part->aT Z μ w sz ath part) :
  au L ((L.bO d (some ⟨csz,[],true⟩)).bO b (some ⟨sz,ath,m⟩)):=by
 rintro n W X Z0 a w ⟨fA,bU,μ,Z,hc,hr⟩;have ke:∀id,μ d≠some id:=fun id e=>by rw[xb hc hd]at e;cases e
 refine⟨fA,bU,μ,Z,⟨hc.cV,hc.m9,hc.kU,hc.nc,hc.inj,hc.own,hc.x0,hc.pY,hc.x1,fun c id blk g1 g2 g3=>?_,fun c id blk g1 g2 g3=>?_,fun c id g1=>?_⟩,hr⟩
 ·simp only[St.bO]at g2;split at g2
  ·rename_i e;subst e;cases g2;exact hc.ku c id _ g1 hb g3
  split at g2
  ·rename_i e;subst e;exact absurd g1 (ke id)
  exact hc.ku c id blk g1 g2 g3
 ·simp only[St.bO]at g2;split at g2
  ·rename_i e;subst e;cases g2;exact hc.b9 c id _ g1 hb g3
  split at g2
  ·rename_i e;subst e;exact absurd g1 (ke id)
  exact hc.b9 c id blk g1 g2 g3
 obtain⟨bk,j1,cc,T,part,rest,j2,j3,j4⟩:=hc.heap c id g1;simp only[St.bO];split
 ·rename_i e;subst e;rw[hb]at j1;cases j1;exact⟨_,rfl,cc,T,part,rest,j2,j3,hv _ _ _ _ j4⟩
 split
 ·rename_i e;subst e;exact absurd g1 (ke id)
 exact⟨bk,j1,cc,T,part,rest,j2,j3,j4⟩
theorem aPb{p q:LV}{d c sz:Nat}(Z:Nat->Prop)(μ:Nat->Option Nat)(w:World)(part:List Value)(h:aT Z μ w sz [.agg [p,.v (.slice none 0 0),q]] part):aT Z μ w sz [.agg [p,.ref d c 0 0,q]] part:=by
 simp only[aT,aH,cP]at h ⊢;obtain⟨c1,c2,h1,h2,⟨d1,d2,e1,e2,e3,f1,f2,g1,g2,g3,g4⟩,h3⟩:=h;exact⟨c1,c2,h1,h2,⟨d1,d2,e1,e2,e3,f1,f2,g1,by simpa[LV.aq]using g2,.inl ⟨g3.1,trivial⟩,g4⟩,h3⟩
theorem au.arX{L:St}{t b sz off len cp:Nat}(h:L.slot t=.lj b sz off len cp):au L (L.put (some t) (.ref b sz off len)):=by
 rintro n W X Z0 a w ⟨fA,bU,μ,Z,hc,hr⟩;refine⟨fA,bU,μ,Z,by rw[kH];exact hc,fun s=>?_⟩;rw[iU];split
 ·rename_i ef;subst ef;have e:=hr s;rw[h]at e;have e3:=e.2 rfl;simp only[aH]at e3;obtain⟨id,c,T,fz,q1,q2,q3,q4,q5⟩:=e3;exact⟨by simp[LV.isAgg],fun _=>by simp only[aH];exact .inr ⟨id,cp,c,T,fz,q1,q2,q3,q4,q5⟩⟩
 exact hr s
theorem aDS{P:Program}{f:FuncId}{blk c1 blk':aV}{sz n:Nat}{args:List LV}{r:LV}{bs:List aV}(hn:0<n)(h:∀cp,n<=cp->zo P f blk c1 (.lj 1 sz 0 n cp::args) r blk' bs):zo P f blk c1 (.ref 1 sz 0 n::args) r blk' bs:=by
 refine⟨(h n (bF _)).1,fun W Z0 vs i0 so hz h0 ve aeV hargs=>?_⟩;obtain⟨v,l7,rfl,hv,ahk⟩:=hargs;have h3:=hv.2 rfl;simp only[aH]at h3;rcases h3 with⟨_,e⟩|⟨id,cap,c,T,fz,q1,q2,q3,q4,q5⟩
 ·omega
 exact(h cap q3).2 W Z0 (v::l7) i0 so hz h0 ve aeV ⟨v,l7,rfl,⟨by simp[LV.isAgg],fun _=>by simp only[aH];exact⟨id,c,T,fz,q1,q2,q3,q4,q5⟩⟩,ahk⟩
theorem as5{P:Program}{L:St}{t b sz len:Nat}{b0:aV}{l:List (Nat×aV)}{v:List LV}(hs:L.slot t=.ref b sz 0 len)(hl:L.heap=hp l)(h0:hp l 0=some b0)(jh:aO b0.vals=true)(gh:b≠0)
  (abg:∀c∈l.map (·.1),c≠0->c=b) (h1:hp l b=some ⟨sz,v,true⟩) (hv:aO v=true):ajV P [.tmp t] L (.ref 1 sz 0 len) b0 [⟨sz,v,true⟩]:=by
 have hdm:∀(l:List (Nat×aV)) (c:Nat),hp l c≠none->c∈l.map (·.1):=fun l=>by
  induction l with
  |nil=>exact fun c h=>absurd rfl h
  |cons p t ih =>
   obtain⟨d,y⟩:=p;intro c h;by_cases e:c=d
   ·simp[e]
   have:oV c d=false:=by rw[<-y9,uy];exact e
   simp only[hp,this,cond_false]at h;simp only[nK,dS];exact .inr (ih c h)
 have lK:rJ [b] b=1:=by simp[rJ,gh]
 refine⟨[.ref b sz 0 len],[b],b0,by rw[hl];exact h0,by rw[my _ _ jh],.cons hs .nil,fun x hx=>by rw[iM.1 hx];exact⟨by simp,by simp⟩,by simp,by simpa using fun e:0=b=>gh e.symm,fun c hc hh=>?_,fun k c hk=>?_,?_⟩
 ·rw[hl]at hh;exact iM.2 (abg c (hdm l c hh) hc)
 ·cases k with
  |zero =>
   simp only[o8,gj]at hk;subst hk;exact⟨⟨sz,v,true⟩,by rw[hl];exact h1,by simp only[o8,my _ _ hv]⟩
  |succ k=>simp at hk
 simp only[dL,LV.b8,lK];rfl
end Go.Lg
end
section
set_option linter.unusedVariables false
set_option linter.unusedSimpArgs false
set_option maxHeartbeats 4000000
namespace Go.Lg
section
variable {P:Program} {W w:World} {X:XS} {Z0 Z:Nat->Prop} {μ:Nat->Option Nat} {a:Act} {n:Nat} {ops:Array Oper}
def at5(P:Program)(l:List Oper)(m:Nat)(K:St->Prop)(L:St):Prop:=∃o L2,l[m]?=some o/\acK P l.toArray o L L2/\K L2
theorem aEg{l:List Oper}{id:Nat}{L:St}{Q:lR->St->Prop}(jK:P.follows .mixedOrders=true)(m:Nat)(hm:z8 l.toArray m []=true)(hl:l.length=m+1)(h:opsL P true l.toArray (l.take m) L (at5 P l m (Q .normal))):c9 P (.region id l.toArray true) Q L:=by
 refine ah5 fun n W X Z0 a w hs hd id=>?_;have jC:∀o∈l.toArray.toList,∀t,o.dst=some t->t<n:=fun o ho t ht=>by
  simp only[mQ,nU]at hd;have:=hd o ho;rw[ht]at this;simpa using this
 obtain⟨f,f0,fs,o9,L9,k1,k2,k3⟩:=acr _ _ h;have bV:(l.take m).length=m:=aab;rw[bV]at k2;unfold z8 at hm;simp only[jS,decide_eq_true_eq,nU,rm]at hm;obtain⟨⟨⟨zr,h1⟩,h2⟩,h3⟩:=hm;have jr:∀i o,l.toArray[i]?=some o->l.toArray.getD i default=o:=fun i o h=>by rw[dQ,h];rfl
 have pO:∀i o,l.toArray[i]?=some o->i<l.toArray.size:=fun i o h=>(lX.1 h).1;have bU:l.toArray.size=m+1:=by simpa using hl
 have oP:=aeM l.toArray l.toArray.toList [] (fun i=>by simp) (fun i t h=>by simp at h)
 let g:Nat->St:=fun i=>if i<=m then f i else L9
 have gl:∀i,i<=m->g i=f i:=fun i hi=>if_pos hi;have gm:g (m+1)=L9:=if_neg J;refine apd (m:=m) (fr:=[]) (f:=g) (K:=Q .normal) (L:=L) jK hs (by rw[gl 0 (bW _)];exact f0) (fun i o ho hor=>?_) (fun i o ho jQ=>?_) (by rw[bU,gm];exact k3) zr (fun i o h j hj=>?_) (fun i o h hmi j hj=>?_) (fun i o h jQ=>?_) (fun i j oi oj d hi hj jQ nD aZ q8=>?_) (fun j o hj hjf=>by simp at hjf) jC (fun L' a' w' hk kF=>⟨L',hk,kF⟩)
 ·have hi:i<m:=hor.resolve_right (fun e=>e rfl);rw[gl i J,gl (i+1) J];exact fs i o (by rw[aBp,if_pos hi];simpa using ho)
 ·have:i=m:=by have:=pO i o ho;omega
  subst this;have ki:l[i]?=some o:=by simpa using ho
  rw[k1]at ki;cases ki;rw[gl i (bF _),gm];exact fun a w K Q hs hd hK=>k2 n W X Z0 a w K Q hs hd hK
 ·have:=(h1 i (pO i o h)).1 j (by rw[jr i o h];exact hj);simpa using this
 ·have:=(h1 i (pO i o h)).2;rw[if_pos hmi]at this;have:=(nU.1 this) j (by simpa using hj);simp only[pI,jS,beq_iff_eq,qJ]at this;rcases this with g9|g9
  ·exact .inl (oP i j (by simpa using g9))
  exact absurd g9.2 aE
 ·have:=(h1 i (pO i o h)).2;rw[if_neg J]at this;rw[jr i o h]at this;simpa using this
 have:=h2 i jQ j nD;simp only[pI,beq_iff_eq]at this;rcases this with h|h
 ·exact absurd h aZ
 unfold acf at h;rw[jr j oj hj,jr i oi hi,q8]at h;simp only[jS,bne_iff_ne,ne_eq,pI,yK]at h;refine⟨h.1,fun uE=>?_⟩;rcases h.2 with h'|h'
 ·rw[qJ.2 uE]at h';cases h'
 split
 ·rename_i bV;rw[if_pos bV]at h';exact oP i j h'
 rename_i bV;rw[if_neg bV]at h';exact oP j i h'
theorem aGL{l:List Oper}{m:Nat}{K:St->Prop}{ops:Array Oper}{o:Oper}{L L2:St}(h1:l[m]?=some o)(h2:acK P l.toArray o L L2)(h3:K L2):opsL P true ops [] L (at5 P l m K):=by
 unfold opsL;exact⟨o,L2,h1,h2,h3⟩
def aAu(P:Program)(l:List Oper)(m:Nat)(K:St->Prop)(L:St):Prop:=∃o L2,l[m]?=some o/\acK P l.toArray o L L2/\opsL P true l.toArray (l.drop (m+1)) L2 K
theorem aI4{l:List Oper}{id:Nat}{L:St}{Q:lR->St->Prop}(jK:P.follows .mixedOrders=true)(m:Nat)(hm:z8 l.toArray m []=true)(hl:m<l.length)(h:opsL P true l.toArray (l.take m) L (aAu P l m (Q .normal))):c9 P (.region id l.toArray true) Q L:=by
 refine ah5 fun n W X Z0 a w hs hd id=>?_;have jC:∀o∈l.toArray.toList,∀t,o.dst=some t->t<n:=fun o ho t ht=>by
  simp only[mQ,nU]at hd;have:=hd o ho;rw[ht]at this;simpa using this
 obtain⟨f,f0,fs,o9,L9,k1,k2,k3⟩:=acr _ _ h;obtain⟨f2,e0,es,ek⟩:=acr _ _ k3;have bV:(l.take m).length=m:=aab;rw[bV]at k2;unfold z8 at hm;simp only[jS,decide_eq_true_eq,nU,rm]at hm;obtain⟨⟨⟨zr,h1⟩,h2⟩,h3⟩:=hm;have jr:∀i o,l.toArray[i]?=some o->l.toArray.getD i default=o:=fun i o h=>by rw[dQ,h];rfl
 have pO:∀i o,l.toArray[i]?=some o->i<l.toArray.size:=fun i o h=>(lX.1 h).1;have bU:l.toArray.size=l.length:=aE;have oP:=aeM l.toArray l.toArray.toList [] (fun i=>by simp) (fun i t h=>by simp at h)
 let g:Nat->St:=fun i=>if i<=m then f i else f2 (i-(m+1))
 have gl:∀i,i<=m->g i=f i:=fun i hi=>if_pos hi;have gm:∀i,m<i->g i=f2 (i-(m+1)):=fun i hi=>if_neg J;refine apd (m:=m) (fr:=[]) (f:=g) (K:=Q .normal) (L:=L) jK hs (by rw[gl 0 (bW _)];exact f0) (fun i o ho hor=>?_) (fun i o ho jQ=>?_) (by rw[bU,gm _ hl,<-jD];exact ek) zr (fun i o h j hj=>?_) (fun i o h hmi j hj=>?_) (fun i o h jQ=>?_) (fun i j oi oj d hi hj jQ nD aZ q8=>?_) (fun j o hj hjf=>by simp at hjf) jC (fun L' a' w' hk kF=>⟨L',hk,kF⟩)
 ·have hi:i<m:=hor.resolve_right (fun e=>e rfl);rw[gl i J,gl (i+1) J];exact fs i o (by rw[aBp,if_pos hi];simpa using ho)
 ·by_cases hem:i=m
  ·subst hem;have ki:l[i]?=some o:=by simpa using ho
   rw[k1]at ki;cases ki;rw[gl i (bF _),gm _ (Nat.lt_succ_self _),uz,e0];exact fun a w K Q hs hd hK=>k2 n W X Z0 a w K Q hs hd hK
  have ef:=es (i-(m+1)) o (by rw[u6,show m+1+(i-(m+1))=i by omega];simpa using ho);rw[gm i J,gm (i+1) J,show i+1-(m+1)=i-(m+1)+1 by omega];exact fun a w K Q hs hd hK=>adp hs ef hd hK
 ·have:=(h1 i (pO i o h)).1 j (by rw[jr i o h];exact hj);simpa using this
 ·have:=(h1 i (pO i o h)).2;rw[if_pos hmi]at this;have:=(nU.1 this) j (by simpa using hj);simp only[pI,jS,beq_iff_eq,qJ]at this;rcases this with g9|g9
  ·exact .inl (oP i j (by simpa using g9))
  exact absurd g9.2 aE
 ·have:=(h1 i (pO i o h)).2;rw[if_neg J]at this;rw[jr i o h]at this;simpa using this
 have:=h2 i jQ j nD;simp only[pI,beq_iff_eq]at this;rcases this with h|h
 ·exact absurd h aZ
 unfold acf at h;rw[jr j oj hj,jr i oi hi,q8]at h;simp only[jS,bne_iff_ne,ne_eq,pI,yK]at h;refine⟨h.1,fun uE=>?_⟩;rcases h.2 with h'|h'
 ·rw[qJ.2 uE]at h';cases h'
 split
 ·rename_i bV;rw[if_pos bV]at h';exact oP i j h'
 rename_i bV;rw[if_neg bV]at h';exact oP j i h'
theorem aFU{l:List Oper}{m:Nat}{K:St->Prop}{ops:Array Oper}{o:Oper}{L L2:St}(h1:l[m]?=some o)(h2:acK P l.toArray o L L2)(h3:opsL P true l.toArray (l.drop (m+1)) L2 K):opsL P true ops [] L (aAu P l m K):=by
 unfold opsL;exact⟨o,L2,h1,h2,h3⟩
end
end Go.Lg
end
section
set_option linter.unusedVariables false
set_option linter.unusedSimpArgs false
namespace Go.Proofs.YtbkmfcmgilhaaaaGreat
open Go.Lg
section
variable {f:FuncId} {fn:Func} {c:Code} {args:List LV} {r:LV}
theorem fnC{blk c1 blk':aV}{bs:List aV}(hf:ai.funcs[f]?=some fn)
  (h:c9 ai c (fun e L=>match e with | .exit _=>False|_=>ao0 ai fn.results.toList L r blk' bs) (St.mk (fun t=>args.getD t .any) (hp [(0,blk),(1,c1)])))
  (hb:fn.body=some c:=by exact rfl) (hn:(fn.name== "runtime.NumGoroutine")=false:=by decide +kernel) (hd:mQ fn.ntmps c=true:=by decide +kernel) (hlen:args.length<=fn.ntmps:=by exact Nat.le_of_ble_eq_true rfl) (gX:blk.mt=true:=by exact rfl) (aoH:c1.mt=true:=by exact rfl):zo ai f blk c1 args r blk' bs:=aLF fol hf hb hn hd hlen gX aoH h
end
end Go.Proofs.YtbkmfcmgilhaaaaGreat
end
section
set_option linter.unusedVariables false
set_option linter.unusedSimpArgs false
set_option maxHeartbeats 8000000
set_option maxRecDepth 100000
attribute [local irreducible] Go.Lg.opsL Go.Lg.c9 Go.Lg.oF Go.Lg.qF
namespace Go.Proofs.YtbkmfcmgilhaaaaGreat
open Go.Lg
namespace axB
theorem aJ{p q:Prop}(k:q)(e:p=q:=by simp only[bD,bo,bp,bh,Nat.sub_zero,Nat.add_zero,hln,hls,hcA,hcB,hcC,hcD,dC,reduceIte,if_true,if_false,dO ao,kT,LV.kill,bC];exact rfl):p:=e.mpr k
end axB
open axB in
theorem aOv(k:List Rat)(i:Nat)(t:Rat)(cp:Nat)(hi:i<k.length)(dZ:k.length<=cp)(hl:k.length<=1000):zo ai 231 ⟨3,[ae t],true⟩ ⟨3,(k.map ae),true⟩ [.lj 1 3 0 k.length cp,ah i,.ref 0 3 0 1] (.ref 1 3 0 (k.length+1)) ⟨3,[ae t],true⟩ [⟨3,((k.take i++t::k.drop i).map ae),true⟩]:=by
 have hlK:(k.map ae).length=k.length:=cC _;have hln:i+(k.length+1-i)=k.length+1:=J;have hls:k.length+1-(i+1)=k.length-i:=J;have zC:(av (k.length+1-i) (ae 0))=ae 0::av (k.length-i) (ae 0):=by rw[show k.length+1-i=(k.length-i)+1 by omega,List.replicate_succ]
 have hti:((k.map ae).take i).length=i:=by rw[fH,hlK];omega
 have hcA:((k.map ae).take i++(av (k.length+1-i) (ae 0))).take i++[ae t]++((k.map ae).take i++(av (k.length+1-i) (ae 0))).drop (i+[ae t].length)=((k.map ae).take i++ae t::av (k.length-i) (ae 0)):=by
  rw[zC,alA hti,<-rZ,afE hti];simp
 have mi:((k.map ae).drop i).length=k.length-i:=by rw[jD,hlK]
 have hcB:((k.map ae).take i++ae t::av (k.length-i) (ae 0)).take (i+1)++((k.map ae).drop i)++((k.map ae).take i++ae t::av (k.length-i) (ae 0)).drop (i+1+((k.map ae).drop i).length)=((k.take i++t::k.drop i).map ae):=by
  have e1x:((k.map ae).take i++ae t::av (k.length-i) (ae 0))=((k.map ae).take i++[ae t])++av (k.length-i) (ae 0):=aE;have h1:((k.map ae).take i++[ae t]).length=i+1:=by simp[hti]
  rw[e1x,alA h1,<-rZ,afE h1,mi,mE (l:=av (k.length-i) (ae 0)) aE];simp
 have hdE:(k.map ae).drop (i+1+((k.map ae).drop i).length)=[]:=mE (by rw[mi,hlK];omega);have hcC:(k.map ae).take (i+1)++((k.map ae).drop i)++(k.map ae).drop (i+1+((k.map ae).drop i).length)=(k.map ae).take (i+1)++((k.map ae).drop i):=by rw[hdE,ey]
 have hcD:((k.map ae).take (i+1)++((k.map ae).drop i)).take i++[ae t]++((k.map ae).take (i+1)++((k.map ae).drop i)).drop (i+[ae t].length)=((k.take i++t::k.drop i).map ae):=by
  have h1:((k.map ae).take (i+1)).length=i+1:=by rw[fH,hlK];omega
  rw[aoZ J,List.take_take,nM J];rw[show i+[ae t].length=i+1 from rfl,afE h1];simp
 have px:aO ((k.take i++t::k.drop i).map ae)=true:=bm ao _;refine fnC Tryz.func231 ?_;refine bM ?_;refine al rfl (.af8 (a:=i) (h:=k.length) rfl dp cS (fun y hy=>by cases hy;exact⟨_,rfl⟩) (fun h=>by cases h) (fun y hy=>by cases hy) (fun _=>rfl) J J J) ?_;refine lN ?_;refine vM ?_;refine nh ?_;refine rA (b:=_) rfl (beq_eq_false_iff_ne.2 J) ?_;refine bK ?_;refine al rfl (.bin rfl rfl (zE (a:=k.length) (b:=1) J)) ?_;refine bn ?_;refine al rfl (.ags rfl rfl UN.h) ?_;refine bI ?_;refine aD rfl ?_ ?_<;>intro apK h31
 ·refine aK ?_;refine al rfl (.af8 (a:=0) (h:=i) rfl dp cS (fun y hy=>by cases hy) (fun _=>rfl) (fun y hy=>by cases hy;exact⟨_,rfl⟩) (fun h=>by cases h) J J J) ?_;refine bc ?_;refine al rfl (.bin rfl rfl (zE (a:=k.length) (b:=1) J)) ?_;refine bn ?_;refine al rfl (.bin rfl rfl (yM (a:=k.length+1) (b:=i) (c:=k.length+1-i) J J)) ?_;refine ayS rfl rfl (.aiA (d:=40) (n:=k.length+1-i) (len:=i) (cp:=cp) (b:=1) (sz:=3) (z:=ae 0) (blk:=⟨3,(k.map ae),true⟩) dp Tryz.underlying3 (kZ▸jg) (by rw[ao.isAgg];exact cS) (ao.aq 0) jq rfl rfl rfl (by rw[hlK];omega) rfl rfl J aj J J) ?_;refine bK ?_
  try refine aJ ?_
  refine al rfl amE ?_;refine bn ?_
  try refine aJ ?_
  refine cj rfl (.afg (b:=40) (sz:=3) (off:=i) (n1:=k.length+1-i) (c:=0) (off2:=0) (n2:=1) (news:=[ae t]) rfl rfl rfl rfl (by rw[jx,hti];omega) dp dp cS rfl rfl rfl (by show 1=min _ _;rw[nM J]) (azo) (bF 1) rfl) ?_;refine bI ?_;refine avJ 8 aG (au.arX (t:=0) rfl) ?_
  try refine aJ ?_
  refine bI ?_;refine al rfl (.bin rfl rfl (zE (a:=i) (b:=1) J)) ?_;refine al rfl aqh ?_;refine bc ?_;refine al rfl (.zg (a:=i) (h:=k.length) rfl dp cS (fun y hy=>by cases hy;exact⟨_,rfl⟩) (fun h=>by cases h) (fun y hy=>by cases hy) (fun _=>rfl) om om om) ?_
  try refine aJ ?_
  refine cj rfl (.afg (b:=40) (sz:=3) (off:=i+1) (n1:=k.length-i) (c:=1) (off2:=i) (n2:=k.length-i) (news:=((k.map ae).drop i)) rfl rfl rfl rfl (by rw[jx,hti,dR,oG];omega) dp dp cS rfl rfl rfl (by show _=min _ _;rw[mi,Nat.min_self]) (by rw[mi];omega) (by rw[mi,hlK];omega) (py).symm) ?_;refine b7 ?_;refine⟨_,au.kill _ 1,?_⟩
  try refine aJ ?_
  exact as5 rfl rfl rfl (by simp[aO,ao.pure]) aj aE rfl px
 refine bK ?_;refine al rfl (.bin rfl rfl (zE (a:=k.length) (b:=1) J)) ?_;refine al rfl (.af8 (a:=0) (h:=k.length+1) rfl dp cS (fun y hy=>by cases hy) (fun _=>rfl) (fun y hy=>by cases hy;exact⟨_,rfl⟩) (fun h=>by cases h) J J J) ?_;refine aW ?_;refine cO (au.arX (t:=0) rfl) ?_
 try refine aJ ?_
 refine aK ?_;refine al rfl (.bin rfl rfl (zE (a:=i) (b:=1) J)) ?_;refine al rfl aqh ?_
 try refine aJ ?_
 refine ayS rfl rfl (.ovl (ag:=true) Tryz.func269 rfl rfl rfl rfl dp cS rfl rfl aj aj J aj) ?_;refine bI ?_;refine qO (b:=_) rfl (rfl) ?_;refine aW ?_;refine al rfl (.bin rfl rfl (zE (a:=i) (b:=1) J)) ?_;refine al rfl aqh ?_;refine bc ?_;refine al rfl amE ?_
 try refine aJ ?_
 refine cj rfl (.afg (b:=1) (sz:=3) (off:=i+1) (n1:=k.length-i) (c:=1) (off2:=i) (n2:=k.length+1-i) (news:=((k.map ae).drop i)) rfl rfl rfl rfl (by rw[hlK];omega) dp dp cS rfl rfl rfl (by show _=min _ _;rw[mi,Nat.min_eq_right J]) (by rw[mi];omega) (by rw[mi,hlK];omega) (py).symm) ?_;refine a6 ?_;refine al rfl amE ?_;refine bn ?_
 try refine aJ ?_
 refine cj rfl (.afg (b:=1) (sz:=3) (off:=i) (n1:=k.length+1-i) (c:=0) (off2:=0) (n2:=1) (news:=[ae t]) rfl rfl rfl rfl (by rw[jx,fH,hlK,mi];omega) dp dp cS rfl rfl rfl (by show 1=min _ _;rw[nM J]) (azo) (bF 1) rfl) ?_;refine b7 ?_;refine⟨_,au.refl _,?_⟩
 try refine aJ ?_
 exact as5 rfl rfl rfl (by simp[aO,ao.pure]) aj aE rfl px
theorem aLy(k:List Rat)(i:Nat)(t:Rat)(hi:i<k.length)(hl:k.length<=1000):
  zo ai 231 ⟨3,[ae t],true⟩ ⟨3,(k.map ae),true⟩ [.ref 1 3 0 k.length,ah i,.ref 0 3 0 1] (.ref 1 3 0 (k.length+1)) ⟨3,[ae t],true⟩ [⟨3,((k.take i++t::k.drop i).map ae),true⟩] :=
 aDS J fun cp h=>aOv k i t cp hi h hl
theorem fy0(bs:List Nat):aaI bs []=[]:=rfl
theorem fyc(bs:List Nat)(c:Nat)(y:aV)(l:List (Nat×aV)):aaI bs ((c,y)::l)=(c,⟨y.sz,y.vals,y.mt&&!bs.contains c⟩)::aaI bs l:=rfl
theorem aBE{l:List (Nat×aV)}{c:Nat}(h:∀x∈l.map (·.1),x≠c):hp l c=none:=by
 induction l with
 |nil=>rfl
 |cons q t ih =>
  obtain⟨d,y⟩:=q;have e:oV c d=false:=by
   rw[<-y9,uy];exact fun e=>h d aE e.symm
  simp only[hp,e,cond_false];exact ih fun x hx=>h x (by simp only[nK,dS];exact .inr hx)
theorem aJ7{P:Program}{L:St}{a:Nat}{T:TypeId}{b sz t:Nat}{x y x' y':LV}{m:Bool}{n:Nat}{ag:Bool}{blk:aV}(h:L.slot a=.aB b sz 0 0)(hb:L.heap b=some ⟨sz,[x],m⟩)
  (hx:x.aq=sz) (cJ:x.at 0 n ag=some x) (hT:bS P T n ag) (hi:zD L.heap 0 x y) (h':L.slot t=x') (qW:zD L.heap 0 x' y') (gh:L.heap 0=some blk) (hm:blk.mt=true) (hp:aO blk.vals=true):abL P [.cell a T,.tmp t] L (.aY [y,y']) blk :=
 ⟨[x,x'],[y,y'],L.heap,.cons ⟨b,sz,0,0,_,x,n,ag,h,hb,rfl,rfl,hx,cJ,hT⟩ (.cons h' .nil),cd.le_refl _,.cons hi (.cons qW .nil),gh,hm,hp,rfl⟩
def bsj(f:Rat)(v:List Rat)(j:Nat):List Rat:=(cN v.length).map fun i=>if j<i then v.getD (i-1) 0+f*(v.getD i 0-v.getD (i-1) 0)else v.getD i 0
theorem ai7(f:Rat)(v:List Rat)(j:Nat):(bsj f v j).length=v.length:=by simp[bsj]
theorem aqv(f:Rat)(v:List Rat)(j i:Nat)(h:i<v.length):(bsj f v j).getD i 0=if j<i then v.getD (i-1) 0+f*(v.getD i 0-v.getD (i-1) 0)else v.getD i 0:=by
 unfold bsj;rw[bq,jY,ayF h];rfl
theorem ahX{p q:List Rat}(h:p.length=q.length)(hg:∀i,i<p.length->p.getD i 0=q.getD i 0):p=q:=by
 refine aaW h fun i h1 h2=>?_;have:=hg i h1;rwa[bq,bq,ck h1,ck h2]at this
def zf(F:Rat->Rat)(args v:List Rat):Nat->List Rat
 |0=>v
 |r+1=>bsj (F (args.getD r 0)) (zf F args v r) r
theorem ahQ(F:Rat->Rat)(args v:List Rat):∀r,(zf F args v r).length=v.length
 |0=>rfl
 |r+1=>by rw[zf,ai7,ahQ F args v r]
def bfS(Q R:Nat):Nat->Nat
 |0=>R
 |r+1=>3*bfS Q R r+Q+2
theorem axz{Q R:Nat}(hR:1<=R):∀r,1<=bfS Q R r
 |0=>hR
 |r+1=>by have:=axz (Q:=Q) hR r;unfold bfS;omega
theorem azu{Q R:Nat}(hR:1<=R):∀{r s},r<=s->bfS Q R r<=bfS Q R s
 |r,0,h=>by
         obtain rfl:r=0:=J;exact bF _
 |r,s+1,h=>by
  rcases g7 s r with g|g
  ·obtain rfl:r=s+1:=J;exact bF _
  have:=azu (Q:=Q) hR (r:=r) (s:=s) g;show _<=3*bfS Q R s+Q+2;omega
def blo(d:Nat)(a b:Rat)(v args:List Rat):Rat:=(zf (fun t=>(t-a)/(b-a)) args v d).getD d 0
theorem aHq(v:List Rat)(j i:Nat)(h:i<v.length)(hj:j<i):(bsj 0 v j).getD i 0=v.getD (i-1) 0:=by
 rw[aqv _ _ _ _ h,if_pos hj];grind
theorem aJ9(v:List Rat)(j:Nat):bsj 1 v j=v:=ahX (ai7 _ _ _) fun i hi=>by
 rw[ai7]at hi;rw[aqv _ _ _ _ hi];split<;>grind
theorem ar0{a b:Rat}{args v:List Rat}(n:Nat)(hA:∀r,r<n->args.getD r 0=a):∀r,r<=n->∀i,i<v.length->r<=i->(zf (fun t=>(t-a)/(b-a)) args v r).getD i 0=v.getD (i-r) 0
 |0,_,i,_,_=>rfl
 |r+1,h,i,hi,hr=>by
  have ih:=ar0 (b:=b) (v:=v) n hA r J (i-1) J J;rw[zf,hA r J,show (a-a)/(b-a)=0 by rw[Rat.sub_self,gQ,Rat.zero_mul],aHq _ _ _ (by rw[ahQ];exact hi) J,ih];congr 1;omega
theorem at3{a b:Rat}(cm:a≠b){args v:List Rat}(n:Nat)(hB:∀r,n<=r->r<args.length->args.getD r 0=b):∀k,n+k<=args.length->zf (fun t=>(t-a)/(b-a)) args v (n+k)=zf (fun t=>(t-a)/(b-a)) args v n
 |0,_=>rfl
 |k+1,h=>by
  have ih:=at3 cm (v:=v) n hB k J;rw[<-Nat.add_assoc,zf,hB (n+k) J J,show (b-a)/(b-a)=1 by rw[gQ];exact Rat.mul_inv_cancel _ ba,aJ9,ih]
theorem aCW{d j:Nat}{a b:Rat}(hj:j<=d):((a8 d a b).drop (j+1)).take d=av (d-j) a++av j b:=by
 have hl:(((a8 d a b).drop (j+1)).take d).length=d:=by rw[fH,jD,kz];omega
 refine ahX (by rw[hl,jx,oG,oG];omega) fun i hi=>?_;rw[hl]at hi;rw[bq,List.getElem?_take_of_lt hi,u6,<-bq,jz _ _ _ _ J];by_cases g:i<d-j
 ·rw[if_pos J,gD1 (by simpa using g),xQ g]
 rw[if_neg J,gD2 aQ,oG,xQ J]
theorem aKk{d j:Nat}{a b:Rat}(cm:a<b){v:List Rat}(hv:v.length=d+1)(hj:j<=d):blo d a b v (((a8 d a b).drop (j+1)).take d)=v.getD j 0:=by
 rw[aCW hj,blo];have yH:(av (d-j) a++av j b).length=d:=aQ;have h1:=at3 (a:=a) (b:=b) ba (args:=av (d-j) a++av j b) (v:=v) (d-j) (fun r g1 g2=>by rw[yH]at g2;rw[gD2 (by simpa using g1),oG,xQ J]) j (by rw[yH];omega);rw[show d-j+j=d by omega]at h1;rw[h1,ar0 (d-j) (fun r g=>by rw[gD1 (by simpa using g),xQ g]) (d-j) (bF _) d J J];congr 1;omega
open aqy in
theorem aMt(p:List Rat)(hl:p.length<=1048576)(kI:∀x∈p,rl x<=274877906944):mW ai 147 [.list 3 (p.map ae)] (.ref 1 3 0 p.length) [⟨3,p.map ae,true⟩]:=by
 refine zi Tryz.func147 ?_;have fg:True:=trivial;have fw:True:=trivial;refine asb ?_;rintro k L1 hk;refine a6 ?_;refine aD rfl ?_ ?_<;>intro acI h12
 ·have kK:k<p.length:=J;have hrk:=kI _ (dJ kK);have hA:=lf (p.getD k 0) 0 (by rw[show rl 0=1 from rfl];omega);rw[oc]at hA;have fg:=adR (l:=p) kK;have fw:((p.take k).map ae).take k=(p.take k).map ae:=cy wB;refine iR ?_;refine pg ?_;refine cp aC (hA) ?_;refine bn ?_;refine cj rfl awf ?_;refine aK ?_;refine cO ((au.kill _ 5).trans (au.kill _ 19)) ?_;refine eP ?_;exact ji (k+1) J
 obtain rfl:k=p.length:=J;have hE:p.take p.length=p:=py;refine bG ?_;rw[hE];exact age rfl rfl (bm ao _)
theorem aGe(p:List Rat)(hl:p.length<=1048576)(kI:∀x∈p,rl x<=274877906944):an ai 147 [.list 3 (p.map ae)] (.list 3 (p.map ae)):=apM (aMt p hl kI) (bm ao _) aE
open fc in
theorem aLm(a b t:Rat)(h:rl a+rl b+rl t<=100000)(cm:a<b):an ai 280 [ae a,ae b,ae t] (ae ((t-a)/(b-a))):=by
 have h1:=eX t a;have h2:=eX b a;have hQ:an ai 159 [ae (t-a),ae (b-a)] (.aY [ae ((t-a)/(b-a)),iL 0]):=by
  have:=zp (t-a) (b-a) J;rwa[if_neg ba]at this
 refine aL Tryz.func280 ?_;refine bM ?_;refine gE 11 [9] aG ?_;refine aN (ue t a J) ?_;refine aN (ue b a J) ?_;refine cp aC (hQ) ?_;refine iR ?_;exact fO
namespace aBW
theorem aJ{p q:Prop}(k:q)(e:p=q:=by simp only[bD,bo,bp,bh,gz,cI,jf,rL,ah3,cC,cg,dD,du,dC,reduceIte,if_true,if_false,dW,LV.kill,bC];exact rfl):p:=e.mpr k
end aBW
open aBW in
theorem aEC(d:Nat)(a b t:Rat)(hd:d<=6)(hT:rl a<=100)(hT1:rl b<=100)(ht:rl t<=1000)(h1:a<=t)(h2:t<b):an ai 233 [.list 3 ((a8 d a b).map ae),ah d,ae t] (.aY [ah d,iL 0]):=by
 have gz:=kz d a b;have cI:=ye d a b;have jf:=zz d a b;have c1:¬fY t a<0:=fun e=>by have:=xx.2 h1;omega
 have c2:¬fY t b > 0:=fun e=>by have:=qe.1 e;grind
 have rL:((2*(d+1):Nat):Int).toNat-1=2*(d+1)-1:=J;have ah3:(((2*(d+1):Nat):Int)-1).toNat=2*(d+1)-1:=J;have c3:fY t b<0:=ug.2 h2;refine aL asY (ht:=(iz rfl rfl)) ?_;refine ff ?_;refine al xY gJ ?_;refine al xY (.move _) ?_;refine al xY xt ?_;refine al xY gJ ?_
 try simp only[t1,cg,cI]
 refine dN xY (.cons eu (.cons eu .nil)) (pS t a J) ?_;refine al xY (.bin rfl rfl rfl) ?_;refine al rfl (.r7 rfl ((beq_eq_false_iff_ne.2 J))) ?_;refine bn ?_;refine al rO gJ ?_;refine al rO (.move _) ?_;refine al rO (.move _) ?_;refine al rO zj ?_;refine al rO (.bin rfl rfl (aem J J)) ?_;refine al rO xt ?_;refine al rO gJ ?_
 try simp only[t1,cg,gz,jf,ah3]
 refine dN rO (.cons eu (.cons eu .nil)) (pS t b J) ?_;refine al rO (.bin rfl rfl rfl) ?_;refine al rfl (.r7 rfl ((decide_eq_false c1))) ?_;refine bc ?_;refine rA (b:=_) rfl (decide_eq_false c2) ?_;refine ff ?_;refine dy (fun(i:Nat) L=>(mS L [(5,⟨3,[ae t],true⟩)] [(9,ah i),(8,ah 0),(5,.aB 5 3 0 0),(0,.list 3 ((a8 d a b).map ae))])) (fun i=>i<=d) (fun i=>d-i) 0 (bW _) ?_;rintro i L1 hi;have hA:i<d->¬fY ((a8 d a b).getD i 0) ((a8 d a b).getD (i+1) 0)<0:=fun g=>by
  rw[jz _ _ _ _ J,jz _ _ _ _ J,if_pos J,if_pos J];exact fun e=>by have:=xx.2 (show a<=a by grind);omega
 have hB:i=d->fY ((a8 d a b).getD i 0) ((a8 d a b).getD (i+1) 0)<0:=fun g=>by
  rw[jz _ _ _ _ J,jz _ _ _ _ J,if_pos J,if_neg J];exact ug.2 ba
 have uF:=adG (d:=d) hT hT1;have fR:=uF _ (dJ (p:=a8 d a b) (i:=i) J);have mw:=uF _ (dJ (p:=a8 d a b) (i:=i+1) J);refine aK ?_;refine lG ?_;refine aW ?_;refine qO (b:=_) rfl (decide_eq_true (by first|omega|(simp only[cC,gz];omega))) ?_;refine dj ?_;refine lG ?_;refine bc ?_
 try simp only[t1,cg]
 refine cp aC (pS ((a8 d a b).getD i 0) ((a8 d a b).getD (i+1) 0) J) ?_;refine bI ?_;refine aD rfl ?_ ?_<;>intro aeA h49
 ·have cM:i<d:=by
   rcases g7 i d with g|g
   ·exact g
   have:=hB J;omega
  refine a6 ?_;refine eP ?_;exact gM
 obtain rfl:i=d:=by
  rcases g7 i d with g|g
  ·have:=hA g;omega
  omega
 have aMM:(a8 i a b).getD (i+1) 0=b:=by rw[jz _ _ _ _ J,if_neg J]
 refine dj ?_;refine lG ?_;refine bc ?_
 try simp only[t1,cg,aMM]
 refine cp aC (pS t b J) ?_;refine bI ?_;refine aD rfl ?_ ?_<;>intro aBa h58
 ·refine ff ?_;exact wc
 omega
structure Q4 where
 x:Rat
 y:Rat
 z:Rat
 w:Rat
instance:Inhabited Q4:=⟨⟨0,0,0,0⟩⟩
def dY(q:Q4):LV:=.agg [ae q.x,ae q.y,ae q.z,ae q.w]
theorem pH:jF dY 12 true:=⟨fun q=>by simp[dY,LV.aq,dg,ao.aq],fun _=>rfl,fun q=>by simp[dY,LV.pure,aO,ao.pure]⟩
theorem afU(b:Nat)(q:Q4):(dY q).kill b=dY q:=LV.oH b _ (pH.pure q)
def s8(R:Nat)(q:Q4):Prop:=rl q.x<=R/\rl q.y<=R/\rl q.z<=R/\rl q.w<=R
def pol(d:Nat)(a b:Rat)(C:List Q4)(args:List Rat):Q4:=⟨blo d a b (C.map (·.x)) args,blo d a b (C.map (·.y)) args,blo d a b (C.map (·.z)) args,blo d a b (C.map (·.w)) args⟩
theorem aHV{C:List Q4}{i:Nat}(h:i<C.length):C.getD i default∈C:=by
 rw[bq,ck h];exact List.getElem_mem h
theorem ajb{C:List Q4}{i:Nat}(h:i<C.length)(f:Q4->Rat):(C.map f).getD i 0=f (C.getD i default):=by
 rw[bq,jY,bq,ck h];rfl
theorem ajx{A B:List Rat}{i:Nat}(hl:A.length=B.length)(h:i<A.length):(A.take i++B.drop i).set i (A.getD i 0)=A.take (i+1)++B.drop (i+1):=by
 rw[List.set_append_right _ _ aab,fH,nM J,uz,<-adR h,pn];congr 1;rw[xR (by omega:i<B.length),dD];rfl
theorem ak0{A B:List Rat}{i:Nat}(hl:A.length=B.length)(h:i<=A.length):(A.take i++B.drop i).length=A.length:=by
 rw[jx,fH,jD];omega
theorem akx{A B:List Rat}{i:Nat}(hl:A.length=B.length)(h:A.length<=i):A.take i++B.drop i=A:=by
 rw[cy h,mE J,ey]
theorem ajf{P:Program}{dst:Option Tmp}{ty:TypeId}{pos:String}{af:Array Edge}{g:Option (Nat×Bool)}{rest:List Oper}{L:St}{K:St->Prop}{f:FuncId}{xs:Array Operand}{xh:Array TypeId}{args:List LV}{r:LV}{ops:Array Oper}(b:Nat){blk blk':aV}(hg:eg ops L ⟨dst,.call ⟨.value (.func f),xs,xh⟩,ty,pos,af,g⟩ true)
  (hb:L.heap b=some blk) (hm:blk.mt=true) (hp:aO blk.vals=true) (ha:aag L.heap b (xs.toList.map L.ev) args) (hn:Names b (xs.toList.map L.ev)) (hk:pe P f blk args r blk')
  (r8:blk'.mt=true) (mZ:aO blk'.vals=true) (hr:∀g,r.b8 g=r) (k:opsL P false ops rest ((L.bO b (some blk')).put dst r) K) :
  opsL P false ops (⟨dst,.call ⟨.value (.func f),xs,xh⟩,ty,pos,af,g⟩::rest) L K :=
 aaj b hg hb hm hp ha hn hk r8 mZ (by rw[hr];exact k)
instance:EC ai 147 dY 12 true ⟨0,0,0,0⟩:=⟨pH,ajg,acY⟩
namespace aya
theorem aJ{p q:Prop}(k:q)(e:p=q:=by simp only[bD,bo,bp,bh,cg,dD,du,dC,reduceIte,if_true,if_false,dW,LV.kill,bC,cC];exact rfl):p:=e.mpr k
end aya
open aya in
theorem alc(f:Nat)(cap:List LV)(dZ:aO cap=true)(hcs:∀x∈cap,x.aq=1/\x.isAgg=false)(pr:Rat->Bool)(l:List Rat)(hl:l.length<=1048576)(hf:∀x∈l,an ai f ([ae x]++cap) (bL (pr x))):an ai 151 [.list 3 (l.map ae),.dT f cap] (iL (ae6 pr l)):=by
 refine aL Tryz.func151 ?_;refine ff ?_;refine dy (fun(i:Nat) L=>(mS L [] [(8,ah i),(7,ah l.length),(6,.list 3 (l.map ae)),(1,.dT f cap),(0,.list 3 (l.map ae))])) (fun i=>i<=l.length/\∀j,j<i->pr (l.getD j default)=false) (fun i=>l.length-i) 0 ⟨bW _,fun j hj=>absurd hj (ake j)⟩ ?_;rintro i L1 ⟨hi,h0⟩;refine a6 ?_;refine aD rfl ?_ ?_<;>intro sw h9
 ·have cM:i<l.length:=J;have hc:=hf _ (dJ cM);refine nh ?_;refine qk [] rfl rfl (.dT (f:=f) (cap:=cap) (args:=[ae (l.getD i 0)]) rfl (.cons eu .nil) ⟨dZ,hcs⟩ hc.1 aj (fun _ h=>by cases h)) (hc.2 _) ?_;refine bc ?_;refine aD rfl ?_ ?_<;>intro yY yW
  ·have hV:ae6 pr l=(i:Int):=aiE cM h0 (by first|exact yY|exact yW);refine bG ?_;rw[hV];exact iB
  have hn:∀j,j<i+1->pr (l.getD j default)=false:=fun j hj=>by
   rcases aoK.1 hj with e|rfl
   ·exact h0 j e
   first|exact yY|(simpa using yW)
  refine aK ?_;refine eP ?_;exact ji (i+1) ⟨J,hn⟩
 obtain rfl:i=l.length:=J;refine bN ?_;rw[aOq h0];exact iB
open fc in
theorem avY(a x:Rat)(h:rl a+rl x<=100000):an ai 152 [ae x,.cx (ae a)] (bL (decide (fY x a > 0))):=by
 refine aL Tryz.func152 ?_;refine aN (pS x a J) ?_;refine aW ?_;exact iB
open fc in
theorem axq(a x:Rat)(h:rl a+rl x<=100000):an ai 153 [ae x,.cx (ae a)] (bL (decide (fY x a>=0))):=by
 refine aL Tryz.func153 ?_;refine aN (pS x a J) ?_;refine aW ?_;exact iB
def ll(f:Nat->Rat)(v:List Rat)(j:Nat):List Rat:=(cN v.length).map fun i=>if j<i then v.getD (i-1) 0+f i*(v.getD i 0-v.getD (i-1) 0)else v.getD i 0
theorem xG(f:Nat->Rat)(v:List Rat)(j:Nat):(ll f v j).length=v.length:=by simp[ll]
theorem aaL(f:Nat->Rat)(v:List Rat)(j i:Nat)(h:i<v.length):(ll f v j).getD i 0=if j<i then v.getD (i-1) 0+f i*(v.getD i 0-v.getD (i-1) 0)else v.getD i 0:=by
 unfold ll;rw[bq,jY,ayF h];rfl
theorem aIl(f:Nat->Rat)(v:List Rat)(j:Nat)(h:v.length<=j+1):ll f v j=v :=
 ahX (xG f v j) fun i hi=>by
  rw[xG]at hi;rw[aaL f v j i hi,if_neg J]
theorem aHt(f:Nat->Rat)(v:List Rat)(j:Nat)(h0:0<j)(h:j<v.length):(ll f v j).set j (v.getD (j-1) 0+f j*(v.getD j 0-v.getD (j-1) 0))=ll f v (j-1) :=
 ahX (by rw[lQ,xG,xG]) fun i hi=>by
  rw[lQ,xG]at hi;rw[aaL f v (j-1) i hi,bq,List.getElem?_set];by_cases e:j=i
  ·subst e;rw[if_pos rfl,if_pos (by rw[xG];exact h),if_pos J];rfl
  rw[if_neg e,<-bq,aaL f v j i hi];by_cases g:j<i
  ·rw[if_pos g,if_pos J]
  rw[if_neg g,if_neg J]
def cK(F:Nat->Nat->Rat)(v:List Rat):Nat->List Rat
 |0=>v
 |r+1=>ll (F r) (cK F v r) r
theorem aan(F:Nat->Nat->Rat)(v:List Rat):∀r,(cK F v r).length=v.length
 |0=>rfl
 |r+1=>by rw[cK,xG,aan F v r]
theorem aEh{f:Nat->Rat}{v:List Rat}{Q R j:Nat}(hf:∀i,j<i->i<v.length->rl (f i)<=Q)(hR:1<=R)(hv:∀x∈v,rl x<=R):∀x∈ll f v j,rl x<=3*R+Q+2:=fun x hx=>by
 obtain⟨i,hi,rfl⟩:=ah6 hx;rw[xG]at hi;rw[aaL f v j i hi];have a:=ix hR hv i;have b:=ix hR hv (i-1);split
 ·rename_i g;have h0:=hf i g hi;have h1:=eX (v.getD i 0) (v.getD (i-1) 0);have h2:=cF (f i) (v.getD i 0-v.getD (i-1) 0);have h3:=kO (v.getD (i-1) 0) (f i*(v.getD i 0-v.getD (i-1) 0));omega
 omega
theorem aC4{F:Nat->Nat->Rat}{v:List Rat}{Q R n:Nat}(hQ:∀r i,r<n->r<i->i<v.length->rl (F r i)<=Q)(hR:1<=R)(hv:∀x∈v,rl x<=R):∀r,r<=n->∀x∈cK F v r,rl x<=bfS Q R r
 |0,_=>hv
 |r+1,h=>aEh (fun i h1 h2=>hQ r i J h1 (by rwa[aan]at h2)) (axz hR r) (aC4 hQ hR hv r J)
def gF(k:List Rat)(d pc:Nat)(args:List Rat)(r j:Nat):Rat:=(args.getD r 0-k.getD (pc-d+j) 0)/(k.getD (pc+j-r) 0-k.getD (pc-d+j) 0)
def dk(k:List Rat)(d pc:Nat)(v args:List Rat):Rat:=(cK (gF k d pc args) ((v.drop (pc-d)).take (d+1)) d).getD d 0
def ig(k:List Rat)(d pc:Nat)(C:List Q4)(args:List Rat):Q4:=⟨dk k d pc (C.map (·.x)) args,dk k d pc (C.map (·.y)) args,dk k d pc (C.map (·.z)) args,dk k d pc (C.map (·.w)) args⟩
structure zJ (k:List Rat) (d pc:Nat):Prop where
 d6:d<=6
 kl:k.length<=100
 kr:∀x∈k,rl x<=100
 srt:∀i j,i<=j->j<k.length->k.getD i 0<=k.getD j 0
 p1:d<=pc
 p2:pc+d+1<k.length
 lt:k.getD pc 0<k.getD (pc+1) 0
theorem zJ.fr{k:List Rat}{d pc:Nat}(h:zJ k d pc){r j:Nat}(h1:r<j)(h2:j<=d):k.getD (pc-d+j) 0<k.getD (pc+j-r) 0:=by
 have a1:=h.p1;have a2:=h.p2;have b1:=h.srt (pc-d+j) pc J J;have b2:=h.srt (pc+1) (pc+j-r) J J;have b3:=h.lt;grind
theorem zJ.kn{k:List Rat}{d pc:Nat}(h:zJ k d pc){i:Nat}(hi:i<k.length):rl (k.getD i 0)<=100:=h.kr _ (dJ hi)
theorem zJ.fl{k:List Rat}{d pc:Nat}(h:zJ k d pc){args:List Rat}(hA:∀t∈args,rl t<=100){r j:Nat}(h1:r<j)(h2:j<=d)(h3:r<args.length):rl (gF k d pc args r j)<=402:=by
 have a1:=h.p1;have a2:=h.p2;have b1:=h.kn (i:=pc-d+j) J;have b2:=h.kn (i:=pc+j-r) J;have b3:=hA _ (dJ h3);have c1:=eX (args.getD r 0) (k.getD (pc-d+j) 0);have c2:=eX (k.getD (pc+j-r) 0) (k.getD (pc-d+j) 0);have c3:=pv (args.getD r 0-k.getD (pc-d+j) 0) (k.getD (pc+j-r) 0-k.getD (pc-d+j) 0);unfold gF;omega
namespace aB0
theorem aJ{p q:Prop}(k:q)(e:p=q:=by simp only[bD,bo,bp,bh,fy0,fyc,hnR,hnB,hnC,lK,cg,Rat.add_zero,cC,dD,du,dC,reduceIte,if_true,if_false,dW,LV.kill,bC];exact rfl):p:=e.mpr k
end aB0
open aB0 in
theorem ana(k:List Rat)(t:Rat)(i0:Nat)(h3:i0<k.length)(hl:k.length<=1000)(hr:∀x∈k,rl x<=100000)(ht:rl t<=100000)(h1:∀j,j<i0->k.getD j 0<=t)(h2:t<k.getD i0 0):an ai 149 [.list 3 (k.map ae),ae t] (.list 3 ((k.take i0++t::k.drop i0).map ae)):=by
 have pG:=eY ao 3 k;have hKc:=atJ k J (fun x hx=>aP (hr x hx) aj);have hA:=lf t 0 (by rw[show rl 0=1 from rfl];omega);rw[oc]at hA;have mj:aO [ae t]=true:=by simp[aO,ao.pure]
 have tq:aO (k.map ae)=true:=bm ao _;have hIn:=aLy k i0 t h3 hl;have lK:kY 27 28 1=1000449:=rfl;have hnR:(LV.ref 1 3 0 (k.length+1)).b8 (kY 27 28)=.ref 1000449 3 0 (k.length+1):=rfl;have hnB:dL (kY 27 28) [ae t]=[ae t]:=my _ _ mj;have hnC:dL (kY 27 28) ((k.take i0++t::k.drop i0).map ae)=(k.take i0++t::k.drop i0).map ae:=my _ _ (bm ao _);have hlR:(k.take i0++t::k.drop i0).length=k.length+1:=by rw[jx,dR,fH,jD];omega
 have uH:∀i,i<k.length->rl (k.getD i 0)<=100000:=fun i hi=>hr _ (dJ hi);refine aL Tryz.func149 ?_;refine dj ?_;refine dy (fun(i:Nat) L=>(mS L [(3,⟨3,[ae t],true⟩)] [(5,ah i),(3,.aB 3 3 0 0),(0,.list 3 (k.map ae))])) (fun i=>i<=i0) (fun i=>i0-i) 0 (bW _) ?_;rintro i L1 hi;refine bH ?_;refine al rW (.move _) ?_;refine al rW (.move _) ?_;refine al rW xt ?_;refine al rW gJ ?_;refine al rW gJ ?_
 try simp only[t1,cg]
 refine dN rW (.cons eu (.cons eu .nil)) (pS (k.getD i 0) t (by have:=uH i J;omega)) ?_;refine al rW (.bin rfl rfl rfl) ?_;refine al rfl (.sR rfl ((decide_eq_true agX))) ?_;refine bc ?_;refine aD rfl ?_ ?_<;>intro re pR
 ·have cM:i<i0:=by
   rcases g7 i i0 with g|g
   ·exact g
   obtain rfl:i=i0:=J;have:=qe.2 h2;omega
  refine aW ?_;refine lG ?_;refine aK ?_;exact gM
 obtain rfl:i0=i:=by
  rcases g7 i i0 with g|g
  ·have:=ahq.2 (h1 i g);omega
  omega
 refine a6 ?_;refine aI4 rfl 7 aG aj ?_;simp only[qS,tn];refine bn ?_;refine wU [] rfl rfl (.cons (.pure pG) .nil) hKc (bm ao _) rfl ?_;refine bc ?_;refine pg ?_;refine cp aC (hA) ?_;refine bn ?_
 try refine aJ ?_
 refine aFU rfl (an8 (f:=231) (b:=27) (c:=1000353) (sz:=3) (csz:=3) (vals:=[ae t]) (cvals:=k.map ae) 28 rfl aj aj (by rw[my _ _ mj];rfl) (by rw[my _ _ tq];rfl) (.cons (.b8 (y:=.ref 1 3 0 k.length) ⟨by simp,by simp⟩) (.cons (.dH (.pure rfl)) (.cons (.b8 (y:=.ref 0 3 0 1) ⟨by simp,by simp⟩) .nil))) (.tl (.tl (.ref aj))) hIn aE (fun kk wH=>aBE aqi)) ?_;simp only[vk,lK,hnR,hnB,hnC]
 try refine aJ ?_
 simp only[xr,jv];refine aK ?_;exact lZ [1000449] rfl rfl (da (l:=(k.take i0++t::k.drop i0)) ao rfl rfl hlR.symm)
namespace aBK
theorem aJ{p q:Prop}(k:q)(e:p=q:=by simp only[bD,bo,bp,bh,ah3,cC,cg,dD,du,dC,reduceIte,if_true,if_false,dW,LV.kill,bC];exact rfl):p:=e.mpr k
end aBK
open aBK in
theorem as2(d:Nat)(k:List Rat)(t:Rat)(r:Nat)(hl:k.length<=1000)(hr:∀x∈k,rl x<=100000)(ht:rl t<=100000)(h0:k.getD 0 0<=t)(h1:t<=k.getD (k.length-1) 0)(fR:r+1<k.length)(mw:k.getD r 0<k.getD (r+1) 0)(hA:∀i,i<r->k.getD i 0<k.getD (i+1) 0->k.getD (i+1) 0<=t)(hB:t<k.getD (r+1) 0\/∀i,r<i->i+1<k.length->¬k.getD i 0<k.getD (i+1) 0):an ai 233 [.list 3 (k.map ae),ah d,ae t] (.aY [ah r,iL 0]):=by
 have ah3:((k.length:Int)-1).toNat=k.length-1:=J;have uH:∀i,i<k.length->rl (k.getD i 0)<=100000:=fun i hi=>hr _ (dJ hi);have c1:¬fY t (k.getD 0 0)<0:=fun e=>by have:=xx.2 h0;omega
 have c2:¬fY t (k.getD (k.length-1) 0) > 0:=fun e=>by have:=qe.1 e;grind
 have tY:=uH 0 J;have hrN:=uH (k.length-1) J;refine aL asY (ht:=(iz rfl rfl)) ?_;refine ff ?_;refine al xY gJ ?_;refine al xY (.move _) ?_;refine al xY xt ?_;refine al xY gJ ?_
 try simp only[t1,cg]
 refine dN xY (.cons eu (.cons eu .nil)) (pS t (k.getD 0 0) J) ?_;refine al xY (.bin rfl rfl rfl) ?_;refine al rfl (.r7 rfl ((beq_eq_false_iff_ne.2 J))) ?_;refine bn ?_;refine al rO gJ ?_;refine al rO (.move _) ?_;refine al rO (.move _) ?_;refine al rO zj ?_;refine al rO (.bin rfl rfl (aem J J)) ?_;refine al rO xt ?_;refine al rO gJ ?_
 try simp only[t1,cg,ah3]
 refine dN rO (.cons eu (.cons eu .nil)) (pS t (k.getD (k.length-1) 0) J) ?_;refine al rO (.bin rfl rfl rfl) ?_;refine al rfl (.r7 rfl ((decide_eq_false c1))) ?_;refine bc ?_;refine rA (b:=_) rfl (decide_eq_false c2) ?_;refine ff ?_;refine kR (fun(i la:Nat) L=>(mS L [(5,⟨3,[ae t],true⟩)] [(9,ah i),(8,ah la),(5,.aB 5 3 0 0),(0,.list 3 (k.map ae))])) (fun i la=>i<k.length/\(r<i->la=r/\k.getD (r+1) 0<=t)) (fun i la=>k.length-i) 0 0 ⟨J,fun h=>absurd h (ake _)⟩ ?_;rintro i la L1 ⟨hi,iC⟩;refine aK ?_;refine lG ?_;refine aW ?_;refine aD rfl ?_ ?_<;>intro aqm h36
 ·have cM:i+1<k.length:=J;have nx:=uH i J;have hg2:=uH (i+1) cM;refine dj ?_;refine lG ?_;refine bc ?_
  try simp only[t1,cg]
  refine cp aC (pS (k.getD i 0) (k.getD (i+1) 0) J) ?_;refine bI ?_;refine aD rfl ?_ ?_<;>intro aeA h49
  ·have mJ:¬k.getD i 0<k.getD (i+1) 0:=fun e=>by have:=ug.2 e;omega
   have nm:r<i+1->la=r/\k.getD (r+1) 0<=t:=fun h=>by
    rcases aoK.1 h with g|g
    ·exact iC g
    exact absurd (g▸mw) mJ
   refine a6 ?_;refine eP ?_;exact ja (i+1) la ⟨J,nm⟩
  have bV:k.getD i 0<k.getD (i+1) 0:=afN.1 J;refine dj ?_;refine lG ?_;refine bc ?_
  try simp only[t1,cg]
  refine cp aC (pS t (k.getD (i+1) 0) J) ?_;refine bI ?_;refine aD rfl ?_ ?_<;>intro aBa h58
  ·obtain rfl:i=r:=by
    have hb:=afN.1 h58;rcases ayz i r with g|g|g
    ·have:=hA i g bV;grind
    ·exact g
    rcases hB with e|e
    ·have:=(iC g).2;grind
    exact absurd bV (e i g cM)
   refine ff ?_;exact wc
  have mr:k.getD (i+1) 0<=t:=xx.1 J;have ma:r<i+1->i=r/\k.getD (r+1) 0<=t:=fun h=>by
   rcases aoK.1 h with g|g
   ·exfalso;rcases hB with e|e
    ·have:=(iC g).2;grind
    exact absurd bV (e i g cM)
   exact⟨g.symm,g▸mr⟩
  refine aW ?_;refine eP ?_;exact ja (i+1) i ⟨J,ma⟩
 obtain rfl:la=r:=(iC J).1;refine dj ?_;exact wc
namespace am9
theorem aJ{p q:Prop}(k:q)(e:p=q:=by simp only[bD,bo,bp,bh,cg,cC,dD,du,dC,reduceIte,if_true,if_false,dW,LV.kill,bC];exact rfl):p:=e.mpr k
end am9
open am9 in
theorem aro(k:List Rat)(j r:Nat)(hl:k.length<=1000)(hr:∀x∈k,rl x<=100000)(hj:j<=r)(fR:r+1<k.length)(mw:k.getD r 0<k.getD (r+1) 0)(hA:∀i,j<=i->i<r->¬k.getD i 0<k.getD (i+1) 0):an ai 232 [.list 3 (k.map ae),ah j] (ah r):=by
 have uH:∀i,i<k.length->rl (k.getD i 0)<=100000:=fun i hi=>hr _ (dJ hi);refine aL Tryz.func232 ?_;refine bK ?_;refine dy (fun(i:Nat) L=>(mS L [] [(1,ah i),(0,.list 3 (k.map ae))])) (fun i=>j<=i/\i<=r) (fun i=>r-i) j ⟨bF _,hj⟩ ?_;rintro i L1 ⟨kD,hi⟩;refine aK ?_;refine lG ?_;refine aK ?_;refine al rW (.move _) ?_;refine al rW (.move _) ?_;refine al rW xt ?_;refine al rW gJ ?_;refine al rW (.move _) ?_;refine al rW (.move _) ?_;refine al rW (.bin rfl rfl (agf J)) ?_;refine al rW xt ?_;refine al rW gJ ?_
 try simp only[t1,cg]
 refine dN rW (.cons eu (.cons eu .nil)) (pS (k.getD i 0) (k.getD (i+1) 0) (by have:=uH i J;have:=uH (i+1) J;omega)) ?_;refine al rW (.bin rfl rfl rfl) ?_;refine al rfl (.sR rfl ((decide_eq_true agX))) ?_;refine bc ?_;refine aD rfl ?_ ?_<;>intro ae1 h22
 ·have cM:i<r:=by
   rcases g7 i r with g|g
   ·exact g
   obtain rfl:i=r:=J;have:=afN.2 mw;omega
  refine aW ?_;refine lG ?_;refine aK ?_;exact ji (i+1) ⟨J,J⟩
 obtain rfl:i=r:=by
  rcases g7 i r with g|g
  ·exact absurd (afN.1 J) (hA i kD g)
  omega
 refine bG ?_;exact iB
namespace asj
theorem aJ{p q:Prop}(k:q)(e:p=q:=by simp only[bD,bo,bp,bh,aAk,tw,kZ,hxd,hxe,aBF,yH,ewl,ewj,ewk,aut,cg,Rat.add_zero,Nat.sub_self,List.drop_zero,List.take_zero,fD,cC,List.length_replicate,ey,dD,du,dC,reduceIte,if_true,if_false,dW,LV.kill,bC];exact rfl):p:=e.mpr k
end asj
open asj in
theorem al8(k:List Rat)(d pc:Nat)(c args:List Rat)(R:Nat)(h:zJ k d pc)(hc:c.length=k.length-d-1)(yH:args.length=d)(fL:1<=R)(hR:R<=10000000)(mY:∀x∈c,rl x<=R)(hA:∀t∈args,rl t<=100):pe ai 271 ⟨3,c.map ae,true⟩ [.list 3 (k.map ae),ah d,.ref 0 3 0 c.length,ah pc,.list 3 (args.map ae)] (.aY [ae (dk k d pc c args),iL 0]) ⟨3,c.map ae,true⟩:=by
 have h9:=h.d6;have gz:=h.kl;have mj:=h.p1;have tq:=h.p2;have aQf:=h.lt;have hs9:bfS 402 R 6<=10000000000:=by simp only[bfS];omega
 have tw:((c.drop (pc-d)).take (d+1)).length=d+1:=by rw[fH,jD];omega
 have hvR:∀x∈((c.drop (pc-d)).take (d+1)),rl x<=R:=fun x hx=>mY x (yF (yJ hx));have hFl:∀r i,r<d->r<i->i<((c.drop (pc-d)).take (d+1)).length->rl ((gF k d pc args) r i)<=402:=fun r i g1 g2 g3=>h.fl hA g2 J J;have hBR:∀r,r<=d->∀x∈(cK (gF k d pc args) ((c.drop (pc-d)).take (d+1)) r),rl x<=10000000000:=fun r hr x hx=>aP (aC4 hFl fL hvR r hr x hx) (aP (azu fL (show r<=6 by omega)) hs9);have hG:∀i,i<k.length->rl (k.getD i 0)<=100:=fun i hi=>h.kn hi;have c1:¬fY (k.getD pc 0) (k.getD (pc+1) 0)>=0:=fun e=>by have:=xx.1 e;grind
 have nx:=hG pc J;have hg2:=hG (pc+1) J;have hpa:=eY ao 3 args;have pG:=eY ao 3 k;have aQP:=ix aj (hBR d (bF _)) d;have hAd:=lf ((cK (gF k d pc args) ((c.drop (pc-d)).take (d+1)) d).getD d 0) 0 (by have:rl 0=1:=rfl;omega);rw[oc]at hAd;have vR:(((c.drop (pc-d)).take (d+1)).map ae).length=d+1:=by rw[cC,tw]
 have hxd:(av (d+1) (ae 0)).drop (d+1)=[]:=mE aE;have hxe:((av (d+1) (0:Rat)).map ae).drop (d+1)=[]:=mE aE;refine fnM Tryz.func271 ?_;have aAk:True:=trivial;have aBF:True:=trivial;have ewl:True:=trivial;have ewj:True:=trivial;have ewk:True:=trivial;have aut:True:=trivial;refine aN (amN k d J J) ?_;refine bc ?_;refine al aml (.move _) ?_;refine al aml zj ?_;refine al aml (.move _) ?_;refine al aml (.bin rfl rfl rfl) ?_;refine al rfl (.r7 rfl ((bne_eq_false_iff_eq.2 agX))) ?_;refine bI ?_;refine rA (b:=_) rfl (bne_eq_false_iff_eq.2 (by first|omega|(simp only[cC,yH];omega))) ?_;refine a6 ?_;refine al vo (.move _) ?_;refine al vo (.move _) ?_;refine al vo zj ?_;refine al vo (.bin rfl rfl rfl) ?_;refine al rfl (.r7 rfl ((decide_eq_false J))) ?_;refine bn ?_;refine al vo (.move _) ?_;refine al vo (.move _) ?_;refine al vo xt ?_;refine al vo gJ ?_;refine al vo (.move _) ?_;refine al vo (.move _) ?_;refine al vo (.bin rfl rfl (agf J)) ?_;refine al vo xt ?_;refine al vo gJ ?_
 try simp only[t1,cg]
 refine dN vo (.cons eu (.cons eu .nil)) (pS (k.getD pc 0) (k.getD (pc+1) 0) J) ?_;refine al vo (.bin rfl rfl rfl) ?_;refine al rfl (.r7 rfl ((decide_eq_false J))) ?_;refine bI ?_;refine rA (b:=_) rfl (decide_eq_false c1) ?_;refine a6 ?_;refine lG ?_;refine gv rfl rfl (.nr (n:=d+1) (m:=d+1) ml ml om om om) ?_;refine bM ?_;refine al rfl (.bin rfl rfl (yM (a:=pc) (b:=d) (c:=pc-d) J J)) ?_;refine al rfl (.zg (a:=pc-d) (h:=c.length) rfl dp cS (fun y hy=>by cases hy;exact⟨_,rfl⟩) (fun h=>by cases h) (fun y hy=>by cases hy) (fun _=>rfl) om om om) ?_
 try refine aJ ?_
 refine cj rfl (.afg (b:=58) (off:=0) (sz:=3) (n1:=d+1) (c:=0) (off2:=pc-d) (n2:=c.length-(pc-d)) (news:=(((c.drop (pc-d)).take (d+1)).map ae)) rfl rfl rfl rfl (bW _) dp dp cS rfl rfl rfl (by rw[vR];show _=min _ _;omega) (by rw[vR];omega) (by rw[vR,cC];omega) (by rw[vR,<-abj,<-va])) ?_;refine bN ?_;refine dy (fun(r:Nat) L=>(mS L [(0,⟨3,c.map ae,true⟩),(10,⟨3,[ae 0],true⟩),(58,⟨3,(cK (gF k d pc args) ((c.drop (pc-d)).take (d+1)) r).map ae,true⟩)] [(68,ah r),(67,ah d),(66,.list 3 (args.map ae)),(12,.ref 58 3 0 (d+1)),(10,.aB 10 3 0 0),(3,ah pc),(1,ah d),(0,.list 3 (k.map ae))])) (fun r=>r<=d) (fun r=>d-r) 0 (bW _) ?_;rintro r L1 hr;refine a6 ?_;refine aD rfl ?_ ?_<;>intro aun h69
 ·have mw:r<d:=J;have hrt:=hA _ (dJ (p:=args) (i:=r) J);have ve:(cK (gF k d pc args) ((c.drop (pc-d)).take (d+1)) r).length=d+1:=by rw[aan,tw]
  have aut:ll ((gF k d pc args) r) (cK (gF k d pc args) ((c.drop (pc-d)).take (d+1)) r) d=(cK (gF k d pc args) ((c.drop (pc-d)).take (d+1)) r):=aIl _ _ _ J;refine ab7 ?_;refine dy (fun(j:Nat) L=>(mS L [(0,⟨3,c.map ae,true⟩),(10,⟨3,[ae 0],true⟩),(58,⟨3,(ll ((gF k d pc args) r) (cK (gF k d pc args) ((c.drop (pc-d)).take (d+1)) r) j).map ae,true⟩),(14,⟨3,[ae (args.getD r 0)],true⟩)] [(68,ah r),(67,ah d),(66,.list 3 (args.map ae)),(15,ah j),(14,.aB 14 3 0 0),(13,ah r),(12,.ref 58 3 0 (d+1)),(10,.aB 10 3 0 0),(3,ah pc),(1,ah d),(0,.list 3 (k.map ae))])) (fun j=>r<=j/\j<=d) (fun j=>j) d ⟨J,bF _⟩ ?_;rintro j L2 ⟨hj1,iH⟩;refine bH ?_;refine aD rfl ?_ ?_<;>intro aOa h76
  ·have hj3:r<j:=J;have ewl:(ll ((gF k d pc args) r) (cK (gF k d pc args) ((c.drop (pc-d)).take (d+1)) r) j).length=d+1:=by rw[xG,ve]
   have ewj:(ll ((gF k d pc args) r) (cK (gF k d pc args) ((c.drop (pc-d)).take (d+1)) r) j).getD j 0=(cK (gF k d pc args) ((c.drop (pc-d)).take (d+1)) r).getD j 0:=by rw[aaL _ _ _ _ J,if_neg J]
   have ewk:(ll ((gF k d pc args) r) (cK (gF k d pc args) ((c.drop (pc-d)).take (d+1)) r) j).getD (j-1) 0=(cK (gF k d pc args) ((c.drop (pc-d)).take (d+1)) r).getD (j-1) 0:=by rw[aaL _ _ _ _ J,if_neg J]
   have hv1:=ix aj (hBR r J) j;have hv2:=ix aj (hBR r J) (j-1);have hfq:rl ((gF k d pc args) r j)<=402:=h.fl hA hj3 J J;have fA:=eX ((cK (gF k d pc args) ((c.drop (pc-d)).take (d+1)) r).getD j 0) ((cK (gF k d pc args) ((c.drop (pc-d)).take (d+1)) r).getD (j-1) 0);have hmf:=cF ((gF k d pc args) r j) ((cK (gF k d pc args) ((c.drop (pc-d)).take (d+1)) r).getD j 0-(cK (gF k d pc args) ((c.drop (pc-d)).take (d+1)) r).getD (j-1) 0);have aBF:=aHt ((gF k d pc args) r) (cK (gF k d pc args) ((c.drop (pc-d)).take (d+1)) r) j J J;have ph:=hG (pc-d+j) J;have kK:=hG (pc+j-r) J;have eM:an ai 280 [ae (k.getD (pc-d+j) 0),ae (k.getD (pc+j-r) 0),ae (args.getD r 0)] (ae ((gF k d pc args) r j)):=aLm _ _ _ J (h.fr hj3 J);refine bH ?_;refine al rfl (.bin rfl rfl (yM (a:=pc) (b:=d) (c:=pc-d) J J)) ?_;refine bn ?_;refine al rfl (.bin rfl rfl (zE (a:=pc-d) (b:=j) J)) ?_;refine bG ?_;refine al rfl (.bin rfl rfl (zE (a:=pc-d+j) (b:=d) J)) ?_;refine bn ?_;refine al rfl (.bin rfl rfl (yM (a:=pc-d+j+d) (b:=r) (c:=pc+j-r) J J)) ?_;refine bI ?_
   try simp only[t1,cg]
   refine cp kN (eM) ?_;refine bM ?_;refine jc ?_;refine bM ?_;refine jc ?_;refine bc ?_;refine aJ ?_;refine cp aC (ue ((cK (gF k d pc args) ((c.drop (pc-d)).take (d+1)) r).getD j 0) ((cK (gF k d pc args) ((c.drop (pc-d)).take (d+1)) r).getD (j-1) 0) J) ?_;refine cp aC (jE ((gF k d pc args) r j) ((cK (gF k d pc args) ((c.drop (pc-d)).take (d+1)) r).getD j 0-(cK (gF k d pc args) ((c.drop (pc-d)).take (d+1)) r).getD (j-1) 0) J) ?_;refine cp aC (lf ((cK (gF k d pc args) ((c.drop (pc-d)).take (d+1)) r).getD (j-1) 0) ((gF k d pc args) r j*((cK (gF k d pc args) ((c.drop (pc-d)).take (d+1)) r).getD j 0-(cK (gF k d pc args) ((c.drop (pc-d)).take (d+1)) r).getD (j-1) 0)) J) ?_;refine aW ?_;refine cO (au.kill _ 17) ?_;refine bn ?_;refine jc ?_;refine bI ?_;exact ji (j-1) ⟨J,J⟩
  obtain rfl:r=j:=J;refine a6 ?_;refine cO (au.kill _ 14) ?_;refine eP ?_;exact ji (r+1) J
 obtain rfl:d=r:=J;have aAk:(cK (gF k d pc args) ((c.drop (pc-d)).take (d+1)) d).length=d+1:=by rw[aan,tw]
 refine bN ?_;refine aJ ?_;refine pg ?_;refine cp aC (hAd) ?_;refine aW ?_;exact aJ7 rfl rfl (ao.aq _) (rn _) cS (.dH (.pure (ao.pure _))) rfl (.dH (.pure rfl)) rfl rfl (bm ao _)
namespace aCB
theorem aJ{p q:Prop}(k:q)(e:p=q:=by simp only[bD,bo,bp,bh,kZ,dY,zZ,ect,abV,ewv,cg,List.drop_zero,List.take_zero,fD,cC,List.length_replicate,afU,dO pH,dD,du,dC,reduceIte,if_true,if_false,dW,LV.kill,bC];exact rfl):p:=e.mpr k
end aCB
open aCB in
theorem aNE(k:List Rat)(d pc:Nat)(C:List Q4)(args:List Rat)(R:Nat)(h:zJ k d pc)(hC:C.length=k.length-d-1)(yH:args.length=d)(fL:1<=R)(hR:R<=10000000)(mY:∀q∈C,s8 R q)(hA:∀t∈args,rl t<=100):an ai 234 [.agg [ah d,.list 3 (k.map ae),.list 12 (C.map dY)],ah pc,.list 3 (args.map ae)] (dY (ig k d pc C args)):=by
 have mj:=h.p1;have tq:=h.p2;have gz:=h.kl;have hCp:0<C.length:=J;have hC9:C.length<=100:=J;have hpS:LV.pure (.agg [ah d,.list 3 (k.map ae),.list 12 (C.map dY)])=true:=ahK;have pG:=eY ao 3 k;have hpa:=eY ao 3 args;have iw:∀x∈(C.map (·.x)),rl x<=R:=fun x hx=>by
  obtain⟨q,hq,rfl⟩:=cZ.1 hx;exact(mY q hq).1
 have avo:=al8 k d pc (C.map (·.x)) args R h (by rw[cC,hC]) yH fL hR iw hA;rw[show (C.map (·.x)).length=C.length from cC _]at avo;have iX:∀x∈(C.map (·.y)),rl x<=R:=fun x hx=>by
  obtain⟨q,hq,rfl⟩:=cZ.1 hx;exact(mY q hq).2.1
 have azG:=al8 k d pc (C.map (·.y)) args R h (by rw[cC,hC]) yH fL hR iX hA;rw[show (C.map (·.y)).length=C.length from cC _]at azG;have fC:∀x∈(C.map (·.z)),rl x<=R:=fun x hx=>by
  obtain⟨q,hq,rfl⟩:=cZ.1 hx;exact(mY q hq).2.2.1
 have ani:=al8 k d pc (C.map (·.z)) args R h (by rw[cC,hC]) yH fL hR fC hA;rw[show (C.map (·.z)).length=C.length from cC _]at ani;have sG:∀x∈(C.map (·.w)),rl x<=R:=fun x hx=>by
  obtain⟨q,hq,rfl⟩:=cZ.1 hx;exact(mY q hq).2.2.2
 have axh:=al8 k d pc (C.map (·.w)) args R h (by rw[cC,hC]) yH fL hR sG hA;rw[show (C.map (·.w)).length=C.length from cC _]at axh;refine aL Tryz.func234 (ht:=(fun g=>LV.db g _ (pH.pure _))) ?_;have zZ:True:=trivial;have ect:True:=trivial;have abV:True:=trivial;have ewv:True:=trivial;refine lN ?_;refine gv rfl rfl (.nr (n:=C.length) (m:=C.length) ml ml om om om) ?_;refine b7 ?_;refine gH ?_;refine nn ?_;refine dy (fun(i:Nat) L=>(mS L [(3,⟨3,[.agg [ah d,.list 3 (k.map ae),.list 12 (C.map dY)]],true⟩),(6,⟨12,[.agg [ae 0,ae 0,ae 0,ae 0]],true⟩),(7,⟨12,[.agg [ae 0,ae 0,ae 0,ae 0]],true⟩),(15,⟨3,((C.map (·.x)).take i++(av C.length (0:Rat)).drop i).map ae,true⟩)] [(22,ah i),(21,ah C.length),(20,.list 12 (C.map dY)),(16,ah 0),(9,ah 0),(8,.ref 15 3 0 C.length),(7,.aB 7 12 0 0),(6,.aB 6 12 0 0),(3,.aB 3 3 0 0),(2,.list 3 (args.map ae)),(1,ah pc)])) (fun i=>i<=C.length) (fun i=>C.length-i) 0 (bW _) ?_;rintro i L2 hi;refine a6 ?_;refine aD rfl ?_ ?_<;>intro qZ sb
 ·have cM:i<C.length:=J;have ewv:=ajb (C:=C) (i:=i) J (·.x);have ect:((C.map (·.x)).take i++(av C.length (0:Rat)).drop i).set i ((C.getD i default).x)=(C.map (·.x)).take (i+1)++(av C.length (0:Rat)).drop (i+1):=by
   rw[<-ewv];exact ajx aE aQ
  have zZ:((C.map (·.x)).take i++(av C.length (0:Rat)).drop i).length=C.length:=by rw[ak0 aE aQ];simp
  refine zd ?_;refine cO (au.kill _ 11) ?_;refine eP ?_;exact gM
 obtain rfl:i=C.length:=J;have abV:(C.map (·.x)).take C.length++(av C.length (0:Rat)).drop C.length=(C.map (·.x)):=akx aE aE
 try simp only[abV]
 refine ff ?_;refine ajf 15 rfl rfl rfl (bm ao _) (.cons (.dH (.pure pG)) (.cons (.dH (.pure rfl)) (.cons .ref (.cons (.dH (.pure rfl)) (.cons (.dH (.pure hpa)) .nil))))) (.tl (.tl (.ref hCp))) avo rfl (bm ao _) (iz (ao.pure _) rfl) ?_;refine dj ?_;refine gH ?_;refine nn ?_;refine dy (fun(i:Nat) L=>(mS L [(3,⟨3,[.agg [ah d,.list 3 (k.map ae),.list 12 (C.map dY)]],true⟩),(6,⟨12,[.agg [ae 0,ae 0,ae 0,ae 0]],true⟩),(7,⟨12,[.agg [ae (dk k d pc (C.map (·.x)) args),ae 0,ae 0,ae 0]],true⟩),(15,⟨3,((C.map (·.y)).take i++(C.map (·.x)).drop i).map ae,true⟩)] [(22,ah i),(21,ah C.length),(20,.list 12 (C.map dY)),(16,ah 1),(9,ah 1),(8,.ref 15 3 0 C.length),(7,.aB 7 12 0 0),(6,.aB 6 12 0 0),(3,.aB 3 3 0 0),(2,.list 3 (args.map ae)),(1,ah pc)])) (fun i=>i<=C.length) (fun i=>C.length-i) 0 (bW _) ?_;rintro i L2 hi;refine a6 ?_;refine aD rfl ?_ ?_<;>intro qZ sb
 ·have cM:i<C.length:=J;have ewv:=ajb (C:=C) (i:=i) J (·.y);have ect:((C.map (·.y)).take i++(C.map (·.x)).drop i).set i ((C.getD i default).y)=(C.map (·.y)).take (i+1)++(C.map (·.x)).drop (i+1):=by
   rw[<-ewv];exact ajx aE aQ
  have zZ:((C.map (·.y)).take i++(C.map (·.x)).drop i).length=C.length:=by rw[ak0 aE aQ];simp
  refine zd ?_;refine cO (au.kill _ 11) ?_;refine eP ?_;exact gM
 obtain rfl:i=C.length:=J;have abV:(C.map (·.y)).take C.length++(C.map (·.x)).drop C.length=(C.map (·.y)):=akx aE aE
 try simp only[abV]
 refine ff ?_;refine ajf 15 rfl rfl rfl (bm ao _) (.cons (.dH (.pure pG)) (.cons (.dH (.pure rfl)) (.cons .ref (.cons (.dH (.pure rfl)) (.cons (.dH (.pure hpa)) .nil))))) (.tl (.tl (.ref hCp))) azG rfl (bm ao _) (iz (ao.pure _) rfl) ?_;refine dj ?_;refine gH ?_;refine nn ?_;refine dy (fun(i:Nat) L=>(mS L [(3,⟨3,[.agg [ah d,.list 3 (k.map ae),.list 12 (C.map dY)]],true⟩),(6,⟨12,[.agg [ae 0,ae 0,ae 0,ae 0]],true⟩),(7,⟨12,[.agg [ae (dk k d pc (C.map (·.x)) args),ae (dk k d pc (C.map (·.y)) args),ae 0,ae 0]],true⟩),(15,⟨3,((C.map (·.z)).take i++(C.map (·.y)).drop i).map ae,true⟩)] [(22,ah i),(21,ah C.length),(20,.list 12 (C.map dY)),(16,ah 2),(9,ah 2),(8,.ref 15 3 0 C.length),(7,.aB 7 12 0 0),(6,.aB 6 12 0 0),(3,.aB 3 3 0 0),(2,.list 3 (args.map ae)),(1,ah pc)])) (fun i=>i<=C.length) (fun i=>C.length-i) 0 (bW _) ?_;rintro i L2 hi;refine a6 ?_;refine aD rfl ?_ ?_<;>intro qZ sb
 ·have cM:i<C.length:=J;have ewv:=ajb (C:=C) (i:=i) J (·.z);have ect:((C.map (·.z)).take i++(C.map (·.y)).drop i).set i ((C.getD i default).z)=(C.map (·.z)).take (i+1)++(C.map (·.y)).drop (i+1):=by
   rw[<-ewv];exact ajx aE aQ
  have zZ:((C.map (·.z)).take i++(C.map (·.y)).drop i).length=C.length:=by rw[ak0 aE aQ];simp
  refine zd ?_;refine cO (au.kill _ 11) ?_;refine eP ?_;exact gM
 obtain rfl:i=C.length:=J;have abV:(C.map (·.z)).take C.length++(C.map (·.y)).drop C.length=(C.map (·.z)):=akx aE aE
 try simp only[abV]
 refine ff ?_;refine ajf 15 rfl rfl rfl (bm ao _) (.cons (.dH (.pure pG)) (.cons (.dH (.pure rfl)) (.cons .ref (.cons (.dH (.pure rfl)) (.cons (.dH (.pure hpa)) .nil))))) (.tl (.tl (.ref hCp))) ani rfl (bm ao _) (iz (ao.pure _) rfl) ?_;refine dj ?_;refine gH ?_;refine nn ?_;refine dy (fun(i:Nat) L=>(mS L [(3,⟨3,[.agg [ah d,.list 3 (k.map ae),.list 12 (C.map dY)]],true⟩),(6,⟨12,[.agg [ae 0,ae 0,ae 0,ae 0]],true⟩),(7,⟨12,[.agg [ae (dk k d pc (C.map (·.x)) args),ae (dk k d pc (C.map (·.y)) args),ae (dk k d pc (C.map (·.z)) args),ae 0]],true⟩),(15,⟨3,((C.map (·.w)).take i++(C.map (·.z)).drop i).map ae,true⟩)] [(22,ah i),(21,ah C.length),(20,.list 12 (C.map dY)),(16,ah 3),(9,ah 3),(8,.ref 15 3 0 C.length),(7,.aB 7 12 0 0),(6,.aB 6 12 0 0),(3,.aB 3 3 0 0),(2,.list 3 (args.map ae)),(1,ah pc)])) (fun i=>i<=C.length) (fun i=>C.length-i) 0 (bW _) ?_;rintro i L2 hi;refine a6 ?_;refine aD rfl ?_ ?_<;>intro qZ sb
 ·have cM:i<C.length:=J;have ewv:=ajb (C:=C) (i:=i) J (·.w);have ect:((C.map (·.w)).take i++(C.map (·.z)).drop i).set i ((C.getD i default).w)=(C.map (·.w)).take (i+1)++(C.map (·.z)).drop (i+1):=by
   rw[<-ewv];exact ajx aE aQ
  have zZ:((C.map (·.w)).take i++(C.map (·.z)).drop i).length=C.length:=by rw[ak0 aE aQ];simp
  refine zd ?_;refine cO (au.kill _ 11) ?_;refine eP ?_;exact gM
 obtain rfl:i=C.length:=J;have abV:(C.map (·.w)).take C.length++(C.map (·.z)).drop C.length=(C.map (·.w)):=akx aE aE
 try simp only[abV]
 refine ff ?_;refine ajf 15 rfl rfl rfl (bm ao _) (.cons (.dH (.pure pG)) (.cons (.dH (.pure rfl)) (.cons .ref (.cons (.dH (.pure rfl)) (.cons (.dH (.pure hpa)) .nil))))) (.tl (.tl (.ref hCp))) axh rfl (bm ao _) (iz (ao.pure _) rfl) ?_;refine dj ?_;refine pa ?_;refine bG ?_;exact iJ [] rfl rfl rfl cs (cU cs rfl) acY (.pure (pH.pure (ig k d pc C args)))
theorem aAt{α:Type}(f:Nat->α)(j:Nat):(cN j).map f++[f j]=(cN (j+1)).map f:=by rw[List.range_succ,wj];rfl
namespace aAa
theorem aJ{p q:Prop}(k:q)(e:p=q:=by simp only[bD,bo,bp,bh,fg,fw,ejd,cg,cC,List.length_range,jt,dR,fX,fD,gy,gU,ey,afU,dO pH,dD,du,dC,reduceIte,if_true,if_false,dW,LV.kill,bC];exact rfl):p:=e.mpr k
end aAa
open aAa in
theorem ayw(k w:List Rat)(d N:Nat)(C:List Q4)(R:Nat)(I A:Nat->Nat)(hN0:0<N)(hw:w.length=N+d+1)(gL:w.length<=100)(hwr:∀x∈w,rl x<=100)(hC:C.length=k.length-d-1)(fL:1<=R)(hR:R<=10000000)(mY:∀q∈C,s8 R q)(hIl:∀j,j<N->I j<w.length)(hG:∀j,j<N->zJ k d (A j))(hPc:∀j,j<N->an ai 232 [.list 3 (w.map ae),ah j] (ah (I j)))(hIv:∀j,j<N->an ai 233 [.list 3 (k.map ae),ah d,ae (w.getD (I j) 0)] (.aY [ah (A j),iL 0])):an ai 150 [.agg [ah d,.list 3 (k.map ae),.list 12 (C.map dY)],.list 3 (w.map ae)] (.agg [ah d,.list 3 (w.map ae),.list 12 (((cN N).map fun j=>ig k d (A j) C ((w.drop (j+1)).take d)).map dY)]):=by
 have hpS:LV.pure (.agg [ah d,.list 3 (k.map ae),.list 12 (C.map dY)])=true:=ahK;have pG:=eY ao 3 w;have hN9:N<=100:=J;have hd9:d<=100:=J;have hKP:=amN w d J J;rw[show w.length-d-1=N by omega]at hKP;refine aL Tryz.func150 (ht:=(fun g=>LV.db g _ ajj)) ?_;have fg:True:=trivial;have fw:True:=trivial;have ejd:True:=trivial;refine aN (hKP) ?_;refine aK ?_;refine iS ((au.cell 5 rfl (fun Z μ w cs h=>aeB 51 12 _ _ Z μ w cs h)).trans (au.qy _ 51 12 rfl)) ?_;refine dy (fun(j:Nat) L=>(mS L [(2,⟨3,[.agg [ah d,.list 3 (k.map ae),.list 12 (C.map dY)]],true⟩),(4,⟨3,[.agg [.v (.int .i64 0),.v (.slice none 0 0),.v (.slice none 0 0)]],true⟩),(5,⟨3,[.agg [ah d,.list 3 (w.map ae),.ref 51 12 0 j]],true⟩),(51,⟨12,((cN j).map fun j=>ig k d (A j) C ((w.drop (j+1)).take d)).map dY,true⟩)] [(18,ah j),(17,ah N),(5,.aB 5 3 0 0),(4,.aB 4 3 0 0),(2,.aB 2 3 0 0),(1,.list 3 (w.map ae))])) (fun j=>j<=N) (fun j=>N-j) 0 (bW _) ?_;rintro j L1 hj;refine a6 ?_;refine aD rfl ?_ ?_<;>intro ab0 yI
 ·have iH:j<N:=J;have fg:((cN j).map fun j=>ig k d (A j) C ((w.drop (j+1)).take d))++[(ig k d (A j) C ((w.drop (j+1)).take d))]=((cN (j+1)).map fun j=>ig k d (A j) C ((w.drop (j+1)).take d)):=aAt (fun j=>(ig k d (A j) C ((w.drop (j+1)).take d))) j;have fw:(((cN j).map fun j=>ig k d (A j) C ((w.drop (j+1)).take d)).map dY).take j=((cN j).map fun j=>ig k d (A j) C ((w.drop (j+1)).take d)).map dY:=cy aE;have ejd:(w.take (j+d+1)).drop (j+1)=(w.drop (j+1)).take d:=by
   rw[List.drop_take];congr 1;omega
  have aOW:=hPc j iH;have aNy:=hIv j iH;have aQE:=hIl j iH;have hPo:=aNE k d (A j) C ((w.drop (j+1)).take d) R (hG j iH) hC (by rw[fH,jD];omega) fL hR mY (fun t ht=>hwr t (yF (yJ ht)));refine aN (aOW) ?_;refine dj ?_
  try simp only[t1,cg]
  refine cp kN (aNy) ?_;refine ff ?_;refine eP ?_;refine al rfl (.bin rfl rfl (zE (a:=j) (b:=d) J)) ?_;refine lG ?_;refine al rfl (.apg (a:=j+1) (h:=j+d+1) ao rfl dp cS rfl rfl om om) ?_;refine aJ ?_;refine cp kN (hPo) ?_;refine bn ?_;refine cj rfl (.eU (d:=51) (news:=[dY (ig k d (A j) C ((w.drop (j+1)).take d))]) rfl rfl rfl rfl aE (.inl rfl) aj abf abf ajg acY cs ar1 (.inl ⟨50,0,_,rfl,by decide,rfl,rfl,by simp,rfl,by simp[aO,pH.pure]⟩) aQ aQ aj) ?_;refine aW ?_;refine cO (au.kill _ 50) ?_;refine eP ?_;exact yd
 obtain rfl:j=N:=J;refine bG ?_;exact iJ [51] rfl rfl rfl cs (cU cs rfl) ai8 (.agg (.cons (.pure rfl) (.cons (.pure pG) (.cons (da (l:=((cN j).map fun j=>ig k d (A j) C ((w.drop (j+1)).take d))) pH rfl rfl aE) .nil))))
namespace ayW
theorem aJ{p q:Prop}(k:q)(e:p=q:=by simp only[bD,bo,bp,bh,hK0,hK1,hK2,rL,hiy,eal,ebl,eap,ebp,amy,hmj,List.replicate_zero,Nat.add_zero,cg,List.getD_cons_zero,List.getD_cons_succ,cC,List.length_replicate,jt,dR,fX,fD,gy,gU,ey,afU,dO pH,dD,du,dC,reduceIte,if_true,if_false,dW,LV.kill,bC];exact rfl):p:=e.mpr k
end ayW
open ayW in
theorem aoh(k w:List Rat)(d:Nat)(C C2:List Q4)(a b:Rat)(ea eb:Bool)(na nb:Nat)(KA KB:Nat->List Rat)(f1 l2:Nat)(hd:d<=6)(ha:rl a<=100)(hb:rl b<=100)(h1k:0<k.length)(gz:k.length<=100)(kW:∀x∈k,rl x<=100)(hK0:KA 0=k)(hK1:KA na=KB 0)(hK2:KB nb=w)(hBl:0<(KB 0).length)(ani:(KB 0).length<=100)(hBr:∀x∈KB 0,rl x<=100)(gL:w.length<=100)(hea:(decide (a=k.getD 0 0)||decide (a=k.getD (k.length-1) 0))=ea)(heb:(decide (b=(KB 0).getD 0 0)||decide (b=(KB 0).getD ((KB 0).length-1) 0))=eb)(hna:na<=d)(hnb:nb<=d)(hza:ea=true->na=0)(hzb:eb=true->nb=0)(hTA:ea=false->∀n,n<=na->an ai 148 [.list 3 ((KA n).map ae),ae a] (ah (d-(na-n))))(hTB:eb=false->∀n,n<=nb->an ai 148 [.list 3 ((KB n).map ae),ae b] (ah (d-(nb-n))))(hIA:∀n,n<na->an ai 149 [.list 3 ((KA n).map ae),ae a] (.list 3 ((KA (n+1)).map ae)))(hIB:∀n,n<nb->an ai 149 [.list 3 ((KB n).map ae),ae b] (.list 3 ((KB (n+1)).map ae)))(hO:an ai 150 [.agg [ah d,.list 3 (k.map ae),.list 12 (C.map dY)],.list 3 (w.map ae)] (.agg [ah d,.list 3 (w.map ae),.list 12 (C2.map dY)]))(rG:an ai 151 [.list 3 (w.map ae),.dT 152 [.cx (ae a)]] (ah f1))(uc:an ai 151 [.list 3 (w.map ae),.dT 153 [.cx (ae b)]] (ah l2))(hf1:d+1<=f1)(sK:f1<=l2)(oK:l2<=C2.length)(oy:C2.length<=w.length):an ai 69 [.agg [ah d,.list 3 (k.map ae),.list 12 (C.map dY)],ae a,ae b] (.agg [ah d,.list 3 ((av (d+1) a++((w.take l2).drop f1)++av (d+1) b).map ae),.list 12 (((C2.take l2).drop (f1-1-d)).map dY)]):=by
 have hpS:LV.pure (.agg [ah d,.list 3 (k.map ae),.list 12 (C.map dY)])=true:=ahK;have s6:=eY ao 3 w;have rL:((k.length:Int)-1).toNat=k.length-1:=J;have hiy:(((KB 0).length:Int)-1).toNat=(KB 0).length-1:=J;have sL:=kW _ (dJ (p:=k) (i:=0) J);have nx:=kW _ (dJ (p:=k) (i:=k.length-1) J);have hg2:=hBr _ (dJ (p:=KB 0) (i:=0) J);have hg3:=hBr _ (dJ (p:=KB 0) (i:=(KB 0).length-1) J);have hmj:(av (d+1) a).map ae++((w.take l2).drop f1).map ae=(av (d+1) a++((w.take l2).drop f1)).map ae:=wj.symm;have amy:((w.take l2).drop f1).length=l2-f1:=by rw[jD,fH];omega
 have aJo:=aby a (k.getD 0 0) J;have aKh:=aby a (k.getD (k.length-1) 0) J;have aDZ:=aby b ((KB 0).getD 0 0) J;have aOi:=aby b ((KB 0).getD ((KB 0).length-1) 0) J;refine aL Tryz.func69 (ht:=(fun g=>LV.db g _ (by simp[LV.pure,aO,bm ao,bm pH,-wj,-abj,-va]))) ?_;have eal:True:=trivial;have ebl:True:=trivial;have eap:True:=trivial;have ebp:True:=trivial;refine zd ?_;refine gH ?_;refine bG ?_;refine iZ (fun L=>∃  (L1:St),(True)/\L=(mS L1 [(3,⟨3,[.agg [ah d,.list 3 (k.map ae),.list 12 (C.map dY)]],true⟩),(4,⟨3,[ae a],true⟩),(5,⟨3,[ae b],true⟩),(6,⟨3,[.agg [.v (.int .i64 0),.v (.slice none 0 0),.v (.slice none 0 0)]],true⟩),(9,⟨3,[ae a],true⟩)] [(20,ah 0),(19,.agg [ae a,ae b]),(10,bL ea),(9,.aB 9 3 0 0),(7,.list 3 (k.map ae)),(6,.aB 6 3 0 0),(5,.aB 5 3 0 0),(4,.aB 4 3 0 0),(3,.aB 3 3 0 0)])) ?_ ?_
 ·refine aW ?_
  try refine aJ ?_
  refine cp aC (aJo) ?_;refine bn ?_;refine dU 28 rfl ?_ ?_<;>intro aa1 tX
  ·first|(have uY:bL ea=bL true:=by rw[<-hea,decide_eq_true tX,Bool.true_or])|(have uY:bL eb=bL true:=by rw[<-heb,decide_eq_true tX,Bool.true_or])
   refine bK ?_
   try refine aJ ?_
   refine aW ?_;exact ajl
  first|(have uY:bL ea=bL (decide (a=k.getD (k.length-1) 0)):=by rw[<-hea,decide_eq_false tX,Bool.false_or])|(have uY:bL eb=bL (decide (b=(KB 0).getD ((KB 0).length-1) 0)):=by rw[<-heb,decide_eq_false tX,Bool.false_or])
  refine aK ?_;refine al (ib (v:=false) rfl rfl (aa1) rfl) (.bin rfl rfl (aem J J)) ?_;refine bc ?_
  try refine aJ ?_
  refine cp aC (aKh) ?_;refine aK ?_;exact ajl
 rintro _ ⟨LR5,-,rfl⟩;refine bn ?_;refine iZ (fun L=>∃  (L1:St),(True)/\L=(mS L1 [(3,⟨3,[.agg [ah d,.list 3 (k.map ae),.list 12 (C.map dY)]],true⟩),(4,⟨3,[ae a],true⟩),(5,⟨3,[ae b],true⟩),(6,⟨3,[.agg [.v (.int .i64 0),.v (.slice none 0 0),.v (.slice none 0 0)]],true⟩),(9,⟨3,[ae a],true⟩)] [(20,ah 0),(19,.agg [ae a,ae b]),(7,.list 3 ((KB 0).map ae)),(6,.aB 6 3 0 0),(5,.aB 5 3 0 0),(4,.aB 4 3 0 0),(3,.aB 3 3 0 0)])) ?_ ?_
 ·refine bn ?_;refine dy (fun(n:Nat) L=>(mS L [(3,⟨3,[.agg [ah d,.list 3 (k.map ae),.list 12 (C.map dY)]],true⟩),(4,⟨3,[ae a],true⟩),(5,⟨3,[ae b],true⟩),(6,⟨3,[.agg [.v (.int .i64 0),.v (.slice none 0 0),.v (.slice none 0 0)]],true⟩),(9,⟨3,[ae a],true⟩)] [(20,ah 0),(19,.agg [ae a,ae b]),(10,bL ea),(9,.aB 9 3 0 0),(7,.list 3 ((KA n).map ae)),(6,.aB 6 3 0 0),(5,.aB 5 3 0 0),(4,.aB 4 3 0 0),(3,.aB 3 3 0 0)])) (fun n=>n<=na) (fun n=>na-n) 0 (bW _) ?_;rintro n L2 hn;refine a6 ?_;refine dU 40 rfl ?_ ?_<;>intro ao3 zB
  ·refine aN (hTA (by simpa using zB) n hn) ?_;refine a6 ?_;refine aD rfl ?_ ?_<;>intro afH h47
   ·have ma:n<na:=by
     have h1:=zB;rcases g7 n na with g|g
     ·exact g
     exfalso;omega
    have nT:=hIA n ma;refine aN (nT) ?_;refine aK ?_;exact ji (n+1) J
   obtain rfl:n=na:=by first|omega|(have:=hza (by simpa using zB);omega)
   refine aW ?_;exact tT
  obtain rfl:n=na:=by have:=hza zB;omega
  refine iR ?_;exact tT
 rintro _ ⟨LB2,-,rfl⟩;refine bc ?_;refine cO (au.kill _ 9) ?_;refine nR ?_;refine bG ?_;refine iZ (fun L=>∃  (L1:St),(True)/\L=(mS L1 [(3,⟨3,[.agg [ah d,.list 3 (k.map ae),.list 12 (C.map dY)]],true⟩),(4,⟨3,[ae a],true⟩),(5,⟨3,[ae b],true⟩),(6,⟨3,[.agg [.v (.int .i64 0),.v (.slice none 0 0),.v (.slice none 0 0)]],true⟩),(9,⟨3,[ae b],true⟩)] [(20,ah 1),(19,.agg [ae a,ae b]),(10,bL eb),(9,.aB 9 3 0 0),(7,.list 3 ((KB 0).map ae)),(6,.aB 6 3 0 0),(5,.aB 5 3 0 0),(4,.aB 4 3 0 0),(3,.aB 3 3 0 0)])) ?_ ?_
 ·refine aW ?_
  try refine aJ ?_
  refine cp aC (aDZ) ?_;refine bn ?_;refine dU 28 rfl ?_ ?_<;>intro aa1 tX
  ·first|(have uY:bL ea=bL true:=by rw[<-hea,decide_eq_true tX,Bool.true_or])|(have uY:bL eb=bL true:=by rw[<-heb,decide_eq_true tX,Bool.true_or])
   refine bK ?_
   try refine aJ ?_
   refine aW ?_;exact ajl
  first|(have uY:bL ea=bL (decide (a=k.getD (k.length-1) 0)):=by rw[<-hea,decide_eq_false tX,Bool.false_or])|(have uY:bL eb=bL (decide (b=(KB 0).getD ((KB 0).length-1) 0)):=by rw[<-heb,decide_eq_false tX,Bool.false_or])
  refine aK ?_;refine al (ib (v:=false) rfl rfl (aa1) rfl) (.bin rfl rfl (aem J J)) ?_;refine bc ?_
  try refine aJ ?_
  refine cp aC (aOi) ?_;refine aK ?_;exact ajl
 rintro _ ⟨LR5,-,rfl⟩;refine bn ?_;refine iZ (fun L=>∃  (L1:St),(True)/\L=(mS L1 [(3,⟨3,[.agg [ah d,.list 3 (k.map ae),.list 12 (C.map dY)]],true⟩),(4,⟨3,[ae a],true⟩),(5,⟨3,[ae b],true⟩),(6,⟨3,[.agg [.v (.int .i64 0),.v (.slice none 0 0),.v (.slice none 0 0)]],true⟩),(9,⟨3,[ae b],true⟩)] [(20,ah 1),(19,.agg [ae a,ae b]),(7,.list 3 (w.map ae)),(6,.aB 6 3 0 0),(5,.aB 5 3 0 0),(4,.aB 4 3 0 0),(3,.aB 3 3 0 0)])) ?_ ?_
 ·refine bn ?_;refine dy (fun(n:Nat) L=>(mS L [(3,⟨3,[.agg [ah d,.list 3 (k.map ae),.list 12 (C.map dY)]],true⟩),(4,⟨3,[ae a],true⟩),(5,⟨3,[ae b],true⟩),(6,⟨3,[.agg [.v (.int .i64 0),.v (.slice none 0 0),.v (.slice none 0 0)]],true⟩),(9,⟨3,[ae b],true⟩)] [(20,ah 1),(19,.agg [ae a,ae b]),(10,bL eb),(9,.aB 9 3 0 0),(7,.list 3 ((KB n).map ae)),(6,.aB 6 3 0 0),(5,.aB 5 3 0 0),(4,.aB 4 3 0 0),(3,.aB 3 3 0 0)])) (fun n=>n<=nb) (fun n=>nb-n) 0 (bW _) ?_;rintro n L2 hn;refine a6 ?_;refine dU 40 rfl ?_ ?_<;>intro ao3 zB
  ·refine aN (hTB (by simpa using zB) n hn) ?_;refine a6 ?_;refine aD rfl ?_ ?_<;>intro afH h47
   ·have ma:n<nb:=by
     have h1:=zB;rcases g7 n nb with g|g
     ·exact g
     exfalso;omega
    have nT:=hIB n ma;refine aN (nT) ?_;refine aK ?_;exact ji (n+1) J
   obtain rfl:n=nb:=by first|omega|(have:=hzb (by simpa using zB);omega)
   refine aW ?_;exact tT
  obtain rfl:n=nb:=by have:=hzb zB;omega
  refine iR ?_;exact tT
 rintro _ ⟨LB2,-,rfl⟩;refine bc ?_;refine cO (au.kill _ 9) ?_;refine aK ?_;refine pa ?_;refine aN (hO) ?_;refine nn ?_;refine qk [4] rfl rfl (.mk (caps:=[.cx (ae a)]) (.cons (.aB rfl rfl rfl (ao.aq _) (rn _) (ao.pure _) rfl) .nil) (fun x hx=>by rw[iM.1 hx];exact⟨rfl,rfl⟩)) rfl ?_;refine dN rfl (.cons (.pure s6) (.cons (.pure (show LV.pure (.dT 152 [.cx (ae a)])=true by simp[LV.pure,aO,ao.pure])) .nil)) (rG) ?_;refine jc ?_;refine a6 ?_;refine qk [5] rfl rfl (.mk (caps:=[.cx (ae b)]) (.cons (.aB rfl rfl rfl (ao.aq _) (rn _) (ao.pure _) rfl) .nil) (fun x hx=>by rw[iM.1 hx];exact⟨rfl,rfl⟩)) rfl ?_;refine dN rfl (.cons (.pure s6) (.cons (.pure (show LV.pure (.dT 153 [.cx (ae b)])=true by simp[LV.pure,aO,ao.pure])) .nil)) (uc) ?_;refine bH ?_;refine lG ?_;refine aK ?_;refine iS ((au.cell 12 rfl (fun Z μ w cs h=>amk 74 3 _ _ Z μ w cs h)).trans (au.qy _ 74 3 rfl)) ?_
 refine dy (fun(m:Nat) L=>(mS L [(3,⟨3,[.agg [ah d,.list 3 (k.map ae),.list 12 (C.map dY)]],true⟩),(4,⟨3,[ae a],false⟩),(5,⟨3,[ae b],false⟩),(6,⟨3,[.agg [.v (.int .i64 0),.v (.slice none 0 0),.v (.slice none 0 0)]],true⟩),(11,⟨3,[.agg [ah d,.list 3 (w.map ae),.list 12 (C2.map dY)]],true⟩),(12,⟨3,[.agg [ah d,.ref 74 3 0 m,.v (.slice none 0 0)]],true⟩),(74,⟨3,(av m a).map ae,true⟩)] [(68,ah m),(67,ah (d+1)),(14,ah l2),(13,ah (f1-1)),(12,.aB 12 3 0 0),(11,.aB 11 3 0 0),(7,.list 3 (w.map ae)),(6,.aB 6 3 0 0),(5,.aB 5 3 0 0),(4,.aB 4 3 0 0),(3,.aB 3 3 0 0)])) (fun m=>m<=d+1) (fun m=>d+1-m) 0 (bW _) ?_;rintro m L3 hm;refine a6 ?_;refine aD rfl ?_ ?_<;>intro aun h69
 ·have fC:m<d+1:=J;have eal:(av m a++[a])=av (m+1) a:=by rw[adx]
  have eap:((av m a).map ae).take m=(av m a).map ae:=cy aE;refine bM ?_;refine cj rfl (.eU (d:=74) (news:=[ae a]) rfl rfl rfl rfl xZ (.inl rfl) aj dp dp jg cS rfl jq (.inl ⟨73,0,_,rfl,by decide,rfl,rfl,by simp,rfl,by simp[aO,ao.pure]⟩) xZ xZ aj) ?_;refine aW ?_;refine cO (au.kill _ 73) ?_;refine eP ?_;exact ji (m+1) J
 obtain rfl:m=d+1:=J;have eal:True:=trivial;have eap:((av (d+1) a).map ae).take (d+1)=(av (d+1) a).map ae:=cy aE;refine bN ?_;refine al rfl (.bin rfl rfl (show eO .add .i64 ((f1-1:Nat):Int) 1=some (.int .i64 ((f1:Nat):Int)) from (by rw[agf J,Nat.sub_add_cancel J]))) ?_;refine bn ?_;refine al rfl (.apg (a:=f1) (h:=l2) ao rfl dp cS rfl rfl om om) ?_;refine aJ ?_;refine cj rfl (.eU (d:=74) (news:=((w.take l2).drop f1).map ae) rfl rfl rfl rfl aE (.inl rfl) aj dp dp jg cS rfl jq (.inr (.inl rfl)) xZ xZ aj) ?_;refine bM ?_;refine lG ?_;refine aK ?_
 refine dy (fun(m:Nat) L=>(mS L [(3,⟨3,[.agg [ah d,.list 3 (k.map ae),.list 12 (C.map dY)]],true⟩),(4,⟨3,[ae a],false⟩),(5,⟨3,[ae b],false⟩),(6,⟨3,[.agg [.v (.int .i64 0),.v (.slice none 0 0),.v (.slice none 0 0)]],true⟩),(11,⟨3,[.agg [ah d,.list 3 (w.map ae),.list 12 (C2.map dY)]],true⟩),(12,⟨3,[.agg [ah d,.ref 74 3 0 (d+1+(l2-f1)+m),.v (.slice none 0 0)]],true⟩),(74,⟨3,(av (d+1) a++((w.take l2).drop f1)++av m b).map ae,true⟩)] [(89,ah m),(88,ah (d+1)),(14,ah l2),(13,ah (f1-1)),(12,.aB 12 3 0 0),(11,.aB 11 3 0 0),(7,.list 3 (w.map ae)),(6,.aB 6 3 0 0),(5,.aB 5 3 0 0),(4,.aB 4 3 0 0),(3,.aB 3 3 0 0)])) (fun m=>m<=d+1) (fun m=>d+1-m) 0 (bW _) ?_;rintro m L4 hm;refine a6 ?_;refine aD rfl ?_ ?_<;>intro aLc h90
 ·have fC:m<d+1:=J;have ebl:(av (d+1) a++((w.take l2).drop f1)++av m b)++[b]=av (d+1) a++((w.take l2).drop f1)++av (m+1) b:=by rw[pn _ (av m b),<-adx]
  have ebp:((av (d+1) a++((w.take l2).drop f1)++av m b).map ae).take (d+1+(l2-f1)+m)=(av (d+1) a++((w.take l2).drop f1)++av m b).map ae:=cy (by rw[cC,jx,jx,amy];simp);refine bM ?_;refine cj rfl (.eU (d:=74) (news:=[ae b]) rfl rfl rfl rfl xZ (.inl rfl) aj dp dp jg cS rfl jq (.inl ⟨94,0,_,rfl,by decide,rfl,rfl,by simp,rfl,by simp[aO,ao.pure]⟩) xZ xZ aj) ?_;refine aW ?_;refine cO (au.kill _ 94) ?_;refine eP ?_;exact ji (m+1) J
 obtain rfl:m=d+1:=J;refine bG ?_;refine al rfl (.bin rfl rfl (yM (a:=f1-1) (b:=d) (c:=f1-1-d) J J)) ?_;refine bn ?_;refine al rfl (.apg (a:=f1-1-d) (h:=l2) pH rfl abf acY rfl rfl om om) ?_;refine bN ?_;exact iJ [74] rfl rfl rfl cs (cU cs rfl) ai8 (.agg (.cons (.pure rfl) (.cons (da (l:=(av (d+1) a++((w.take l2).drop f1)++av (d+1) b)) ao rfl rfl (by rw[jx,jx,amy];simp)) (.cons (.pure (eY pH 12 _)) .nil))))
theorem avW(k:List Rat)(t:Rat):∀i,i<=k.length->fP k t i=(k.take i).count t
 |0,_=>by simp[fP]
 |i+1,h=>by
  rw[fP,avW k t i J,<-adR (show i<k.length by omega),List.count_append,List.count_singleton];congr 1;by_cases e:k.getD i 0=t
  ·rw[if_pos e,if_pos (by simpa using e)]
  rw[if_neg e,if_neg (by simpa using e)]
theorem ar8(k:List Rat)(t:Rat):fP k t k.length=k.count t:=by
 rw[avW k t _ (bF _),py]
def kq(d:Nat)(x a b y:Rat)(m n:Nat):List Rat:=(av (d+1) x++av m a)++(av n b++av (d+1) y)
section
variable (d:Nat) (x a b y:Rat) (m n:Nat)
theorem sr:(kq d x a b y m n).length=2*(d+1)+m+n:=by simp[kq];omega
theorem aO2:kq d x a b y 0 0=a8 d x y:=by simp[kq,a8]
theorem jo(i:Nat)(h:i<2*(d+1)+m+n):(kq d x a b y m n).getD i 0=if i<d+1 then x else if i<d+1+m then a else if i<d+1+m+n then b else y:=by
 have l1:(av (d+1) x++av m a).length=d+1+m:=aE;unfold kq;by_cases h1:i<d+1
 ·rw[if_pos h1,gD1 (by rw[l1];omega),gD1 (by simpa using h1),xQ h1]
 rw[if_neg h1];by_cases h2:i<d+1+m
 ·rw[if_pos h2,gD1 (by rw[l1];omega),gD2 aQ,oG,xQ J]
 rw[if_neg h2,gD2 (by rw[l1];omega),l1];by_cases h3:i<d+1+m+n
 ·rw[if_pos h3,gD1 aQ,xQ J]
 rw[if_neg h3,gD2 aQ,oG,xQ J]
theorem arQ:(kq d x a b y m 0).take (d+1+m)++a::(kq d x a b y m 0).drop (d+1+m)=kq d x a b y (m+1) 0:=by
 have l1:(av (d+1) x++av m a).length=d+1+m:=aE;unfold kq;rw[alA l1,afE l1,adx (n:=m)];simp
theorem aFD:(kq d x a b y m n).take (d+1+m+n)++b::(kq d x a b y m n).drop (d+1+m+n)=kq d x a b y m (n+1):=by
 have e:kq d x a b y m n=((av (d+1) x++av m a)++av n b)++av (d+1) y:=by simp[kq]
 have l1:((av (d+1) x++av m a)++av n b).length=d+1+m+n:=aQ;rw[e,alA l1,afE l1];unfold kq;rw[adx (n:=n)];simp
theorem acv{R:Nat}(h1:rl x<=R)(h2:rl a<=R)(h3:rl b<=R)(h4:rl y<=R):∀t∈kq d x a b y m n,rl t<=R:=fun t ht=>by
 simp only[kq,nC,uK]at ht;rcases ht with(⟨_,rfl⟩|⟨_,rfl⟩)|⟨_,rfl⟩|⟨_,rfl⟩<;>assumption
end
theorem asV{d:Nat}{x a b y:Rat}(m:Nat)(h1:x≠a)(h2:a≠y):fP (kq d x a b y m 0) a (kq d x a b y m 0).length=m:=by
 rw[ar8];simp[kq,ayL,h1,h2.symm]
theorem aDU{d:Nat}{x a b y:Rat}(m n:Nat)(h1:x≠b)(h2:a≠b)(h3:b≠y):fP (kq d x a b y m n) b (kq d x a b y m n).length=n:=by
 rw[ar8];simp[kq,ayL,h1,h2,h3.symm]
theorem av7{d:Nat}{x a b y:Rat}{m n i:Nat}(hm:m=0/\a=x\/m=d)(hn:n=0/\b=y\/n=d)(hi:i<=d):((kq d x a b y m n).drop (m+i+1)).take d=av (d-i) a++av i b:=by
 have eL:(av (d+1) x++av m a).drop (m+1)=av d a:=by
  rcases hm with⟨rfl,rfl⟩|rfl
  ·simp
  rw[afE aE]
 have eR:(av n b++av (d+1) y).take i=av i b:=by
  rcases hn with⟨rfl,rfl⟩|rfl
  ·simp;omega
  rw[aoZ (by simpa using hi)];simp;omega
 have e1:(kq d x a b y m n).drop (m+1)=av d a++(av n b++av (d+1) y):=by
  unfold kq;rw[an4 aQ,eL]
 rw[show m+i+1=(m+1)+i by omega,<-rZ,e1,an4 (by simpa using hi),aC9,aCJ,cy aE,oG,show d-(d-i)=i by omega,eR]
theorem alT{d:Nat}{x y:Rat}{v args:List Rat}(hv:v.length=d+1):dk (a8 d x y) d d v args=blo d x y v args:=by
 have e0:(v.drop (d-d)).take (d+1)=v:=by rw[uz,jv,cy J]
 have key:∀r,r<=d->cK (gF (a8 d x y) d d args) v r=zf (fun t=>(t-x)/(y-x)) args v r:=by
  intro r
  induction r with
  |zero=>exact fun _=>rfl
  |succ r ih =>
   intro hr;rw[cK,zf,ih J];refine ahX (by rw[xG,ai7]) fun i hi=>?_;rw[xG,ahQ,hv]at hi;rw[aaL _ _ _ _ (by rw[ahQ,hv];exact hi),aqv _ _ _ _ (by rw[ahQ,hv];exact hi)];by_cases g:r<i
   ·rw[if_pos g,if_pos g];have e:gF (a8 d x y) d d args r i=(args.getD r 0-x)/(y-x):=by
     unfold gF;rw[jz _ _ _ _ J,jz _ _ _ _ J,if_pos J,if_neg J]
    rw[e]
   rw[if_neg g,if_neg g]
 unfold dk blo;rw[e0,key d (bF _)]
theorem aI5{d:Nat}{x y:Rat}{C:List Q4}{args:List Rat}(hC:C.length=d+1):ig (a8 d x y) d d C args=pol d x y C args:=by
 unfold ig pol;rw[alT (by simpa using hC),alT (by simpa using hC),alT (by simpa using hC),alT (by simpa using hC)]
def aiN(d:Nat)(x y:Rat)(C:List Q4)(a b:Rat):List Q4:=(cN (d+1)).map fun i=>pol d x y C (av (d-i) a++av i b)
theorem aLd{d:Nat}{x y:Rat}(h6:d<=6)(hxy:x<y)(hx:rl x<=100)(hy:rl y<=100):zJ (a8 d x y) d d where
 d6:=h6
 kl:=by rw[kz];omega
 kr:=adG hx hy
 srt:=fun i j ud hj=>by
  rw[kz]at hj;rw[jz _ _ _ _ J,jz _ _ _ _ hj];split<;>split<;>first|grind|(exfalso;omega)
 p1:=bF _
 p2:=by rw[kz];omega
 lt:=by rw[jz _ _ _ _ J,jz _ _ _ _ J,if_pos J,if_neg J];exact hxy
def dz(q:Q4):aF:=⟨⟨q.x/q.w,q.y/q.w,q.z/q.w⟩,q.w⟩
theorem aOh(d:Nat)(x y a b:Rat)(C:List Q4)(R:Nat)(h1:1<=d)(h6:d<=6)(hxa:x<=a)(cm:a<b)(lD:b<=y)(hx:rl x<=64)(hy:rl y<=64)(ha:rl a<=64)(hb:rl b<=64)(hC:C.length=d+1)(fL:1<=R)(hR:R<=10000000)(mY:∀q∈C,s8 R q):
  an ai 69 [.agg [ah d,.list 3 ((a8 d x y).map ae),.list 12 (C.map dY)],ae a,ae b] (.agg [ah d,.list 3 ((a8 d a b).map ae),.list 12 ((aiN d x y C a b).map dY)]):=by
 obtain⟨m,hm⟩:∃m,(m=0/\a=x)\/(m=d/\a≠x):=by
  by_cases e:a=x
  ·exact⟨0,.inl ⟨rfl,e⟩⟩
  exact⟨d,.inr ⟨rfl,e⟩⟩
 obtain⟨n,hn⟩:∃n,(n=0/\b=y)\/(n=d/\b≠y):=by
  by_cases e:b=y
  ·exact⟨0,.inl ⟨rfl,e⟩⟩
  exact⟨d,.inr ⟨rfl,e⟩⟩
 have zy:m<=d:=J;have hnd:n<=d:=J;have hma:0<m->x<a:=fun h=>by
  rcases hm with e|e
  ·omega
  have:=e.2;grind
 have hnb:0<n->b<y:=fun h=>by
  rcases hn with e|e
  ·omega
  have:=e.2;grind
 have n8:∀p q,∀t∈kq d x a b y p q,rl t<=64:=fun p q=>acv d x a b y p q hx ha hb hy;have jW:=sr d x a b y m n;have hTA:decide (a=x)=false->∀j,j<=m->an ai 148 [.list 3 ((kq d x a b y j 0).map ae),ae a] (ah (d-(m-j))):=fun hh j hj=>by
  have aZ:a≠x:=by simpa using hh
  have:=akR (kq d x a b y j 0) (by rw[sr];omega) (fun t ht=>aP (n8 j 0 t ht) aj) a J;rw[asV j (fun e=>aZ e.symm) ba]at this;rwa[show d-(m-j)=j by rcases hm with e|e;exact absurd e.2 aZ;omega]
 have hTB:decide (b=y)=false->∀j,j<=n->an ai 148 [.list 3 ((kq d x a b y m j).map ae),ae b] (ah (d-(n-j))):=fun hh j hj=>by
  have aZ:b≠y:=by simpa using hh
  have:=akR (kq d x a b y m j) (by rw[sr];omega) (fun t ht=>aP (n8 m j t ht) aj) b J;rw[aDU m j ba ba aZ]at this;rwa[show d-(n-j)=j by rcases hn with e|e;exact absurd e.2 aZ;omega]
 have hIA:∀j,j<m->an ai 149 [.list 3 ((kq d x a b y j 0).map ae),ae a] (.list 3 ((kq d x a b y (j+1) 0).map ae)):=fun j hj=>by
  have aQq:=hma J;have:=ana (kq d x a b y j 0) a (d+1+j) (by rw[sr];omega) (by rw[sr];omega) (fun t ht=>aP (n8 j 0 t ht) aj) J (fun i hi=>by
   rw[jo _ _ _ _ _ _ _ _ J];split
   ·exact hxa
   ·first|exact jM|(rw[if_pos hi];exact jM)) (by
   rw[jo _ _ _ _ _ _ _ _ J,if_neg J,if_neg J,if_neg J];grind)
  rwa[arQ]at this
 have hIB:∀j,j<n->an ai 149 [.list 3 ((kq d x a b y m j).map ae),ae b] (.list 3 ((kq d x a b y m (j+1)).map ae)):=fun j hj=>by
  have ai1:=hnb J;have:=ana (kq d x a b y m j) b (d+1+m+j) (by rw[sr];omega) (by rw[sr];omega) (fun t ht=>aP (n8 m j t ht) aj) J (fun i hi=>by
   rw[jo _ _ _ _ _ _ _ _ J];split
   ·grind
   ·split
    ·grind
    first|exact jM|(rw[if_pos hi];exact jM)) (by
   rw[jo _ _ _ _ _ _ _ _ J,if_neg J,if_neg J,if_neg J];exact ai1)
  rwa[aFD]at this
 have hI:∀j,j<d+1+m+n->∃r,j<=r/\r+1<2*(d+1)+m+n/\(kq d x a b y m n).getD r 0<(kq d x a b y m n).getD (r+1) 0/\(∀i,j<=i->i<r->¬(kq d x a b y m n).getD i 0<(kq d x a b y m n).getD (i+1) 0)/\x<=(kq d x a b y m n).getD r 0/\(kq d x a b y m n).getD r 0<y:=fun j hj=>by
  by_cases c1:j<=d
  ·refine⟨d,c1,J,?_,fun i h2 h3=>?_,?_,?_⟩
   ·rw[jo _ _ _ _ _ _ _ _ J,jo _ _ _ _ _ _ _ _ J,if_pos J,if_neg J];split
    ·exact hma J
    split<;>grind
   ·rw[jo _ _ _ _ _ _ _ _ J,jo _ _ _ _ _ _ _ _ J,if_pos J,if_pos J];grind
   ·rw[jo _ _ _ _ _ _ _ _ J,if_pos J];exact jM
   rw[jo _ _ _ _ _ _ _ _ J,if_pos J];grind
  by_cases c2:j<=d+m
  ·refine⟨d+m,c2,J,?_,fun i h2 h3=>?_,?_,?_⟩
   ·rw[jo _ _ _ _ _ _ _ _ J,jo _ _ _ _ _ _ _ _ J,if_neg J,if_pos J,if_neg J,if_neg J];split<;>grind
   ·rw[jo _ _ _ _ _ _ _ _ J,jo _ _ _ _ _ _ _ _ J,if_neg J,if_pos J,if_neg J,if_pos J];grind
   ·rw[jo _ _ _ _ _ _ _ _ J,if_neg J,if_pos J];exact hxa
   rw[jo _ _ _ _ _ _ _ _ J,if_neg J,if_pos J];grind
  have ai1:=hnb J;refine⟨d+m+n,J,J,?_,fun i h2 h3=>?_,?_,?_⟩
  ·rw[jo _ _ _ _ _ _ _ _ J,jo _ _ _ _ _ _ _ _ J,if_neg J,if_neg J,if_pos J,if_neg J,if_neg J,if_neg J];exact ai1
  ·rw[jo _ _ _ _ _ _ _ _ J,jo _ _ _ _ _ _ _ _ J,if_neg J,if_neg J,if_pos J,if_neg J,if_neg J,if_pos J];grind
  ·rw[jo _ _ _ _ _ _ _ _ J,if_neg J,if_neg J,if_pos J];grind
  rw[jo _ _ _ _ _ _ _ _ J,if_neg J,if_neg J,if_pos J];exact ai1
 obtain⟨I,hI⟩:∃I:Nat->Nat,∀j,j<d+1+m+n->j<=I j/\I j+1<2*(d+1)+m+n/\(kq d x a b y m n).getD (I j) 0<(kq d x a b y m n).getD (I j+1) 0/\(∀i,j<=i->i<I j->¬(kq d x a b y m n).getD i 0<(kq d x a b y m n).getD (i+1) 0)/\x<=(kq d x a b y m n).getD (I j) 0/\(kq d x a b y m n).getD (I j) 0<y :=
  ⟨fun j=>if h:j<d+1+m+n then(hI j h).choose else 0,fun j h=>by simp only[h,dif_pos];exact(hI j h).choose_spec⟩
 have hrW:∀i,i<2*(d+1)+m+n->rl ((kq d x a b y m n).getD i 0)<=64:=fun i hi=>n8 m n _ (dJ (by rw[jW];exact hi));have hO:=ayw (a8 d x y) (kq d x a b y m n) d (d+1+m+n) C R I (fun _=>d) J qQ qQ (fun t ht=>aP (n8 m n t ht) aj) (by rw[kz,hC];omega) fL hR mY (fun j hj=>by rw[jW];have:=(hI j hj).2.1;omega)
  (fun j hj=>aLd h6 ba J J)
  (fun j hj=>aro (kq d x a b y m n) j (I j) qQ (fun t ht=>aP (n8 m n t ht) aj) (hI j hj).1 (by rw[jW];exact(hI j hj).2.1) (hI j hj).2.2.1 (hI j hj).2.2.2.1)
  (fun j hj=>aEC d x y _ h6 J J (by have:=hrW (I j) (by have:=(hI j hj).2.1;omega);omega) (hI j hj).2.2.2.2.1 (hI j hj).2.2.2.2.2)
 have rG:an ai 151 [.list 3 ((kq d x a b y m n).map ae),.dT 152 [.cx (ae a)]] (ah (d+1+m)):=by
  have:=alc 152 [.cx (ae a)] (by simp[aO,LV.pure,ao.pure]) (fun x hx=>by rw[iM.1 hx];exact⟨rfl,rfl⟩) (fun t=>decide (fY t a > 0)) (kq d x a b y m n) qQ (fun t ht=>avY a t (by have:=n8 m n t ht;omega));rwa[aiE (i:=d+1+m) qQ (fun j hj=>by
   have e:(kq d x a b y m n).getD j default=(kq d x a b y m n).getD j 0:=rfl;rw[e,jo _ _ _ _ _ _ _ _ J];refine decide_eq_false fun hh=>?_;have hh:=qe.1 hh;split at hh
   ·grind
   ·first|grind|(rw[if_pos hj]at hh;grind)) (by
   have e:(kq d x a b y m n).getD (d+1+m) default=(kq d x a b y m n).getD (d+1+m) 0:=rfl;rw[e,jo _ _ _ _ _ _ _ _ J,if_neg J,if_neg J];refine decide_eq_true (qe.2 ?_);split<;>grind)]at this
 have uc:an ai 151 [.list 3 ((kq d x a b y m n).map ae),.dT 153 [.cx (ae b)]] (ah (d+1+m)):=by
  have:=alc 153 [.cx (ae b)] (by simp[aO,LV.pure,ao.pure]) (fun x hx=>by rw[iM.1 hx];exact⟨rfl,rfl⟩) (fun t=>decide (fY t b>=0)) (kq d x a b y m n) qQ (fun t ht=>axq b t (by have:=n8 m n t ht;omega));rwa[aiE (i:=d+1+m) qQ (fun j hj=>by
   have e:(kq d x a b y m n).getD j default=(kq d x a b y m n).getD j 0:=rfl;rw[e,jo _ _ _ _ _ _ _ _ J];refine decide_eq_false fun hh=>?_;have hh:=xx.1 hh;split at hh
   ·grind
   ·first|grind|(rw[if_pos hj]at hh;grind)) (by
   have e:(kq d x a b y m n).getD (d+1+m) default=(kq d x a b y m n).getD (d+1+m) 0:=rfl;rw[e,jo _ _ _ _ _ _ _ _ J,if_neg J,if_neg J];refine decide_eq_true (xx.2 ?_);split<;>grind)]at this
 have oK:=sr d x a b y m 0;have sL:(kq d x a b y m 0).getD 0 0=x:=by rw[jo _ _ _ _ _ _ _ _ J,if_pos J]
 have nx:(kq d x a b y m 0).getD ((kq d x a b y m 0).length-1) 0=y:=by rw[oK,jo _ _ _ _ _ _ _ _ J,if_neg J,if_neg J,if_neg J]
 have main:=aoh (a8 d x y) (kq d x a b y m n) d C _ a b (decide (a=x)) (decide (b=y)) m n (fun j=>kq d x a b y j 0) (fun j=>kq d x a b y m j) (d+1+m) (d+1+m) h6 J J (by rw[kz];omega) (by rw[kz];omega) (fun t ht=>aP (adG hx hy t ht) aj)
  (aO2 d x a b y) rfl rfl (by show 0<(kq d x a b y m 0).length;rw[oK];omega) (by show (kq d x a b y m 0).length<=100;rw[oK];omega) (fun t ht=>aP (n8 m 0 t ht) aj) qQ
  (by rw[ye,kz,zz,decide_eq_false (show ¬a=y by grind),Bool.or_false]) (by show (decide (b=(kq d x a b y m 0).getD 0 0)||decide (b=(kq d x a b y m 0).getD ((kq d x a b y m 0).length-1) 0))=_;rw[sL,nx,decide_eq_false (show ¬b=x by grind),Bool.false_or]) zy hnd
  (fun h=>by have:=of_decide_eq_true h;rcases hm with e|e<;>grind) (fun h=>by have:=of_decide_eq_true h;rcases hn with e|e<;>grind) hTA hTB hIA hIB hO rG uc J (bF _) aE (by rw[jW];simp;omega)
 have e1:((kq d x a b y m n).take (d+1+m)).drop (d+1+m)=[]:=mE (by rw[fH];exact apI _ _);have e2:((((cN (d+1+m+n)).map fun j=>ig (a8 d x y) d ((fun _=>d) j) C (((kq d x a b y m n).drop (j+1)).take d)).take (d+1+m)).drop (d+1+m-1-d))=aiN d x y C a b:=by
  unfold aiN;refine aaW aeJ fun i h1 h2=>?_;have hi:i<d+1:=by simpa using h2
  simp only[apQ,aqw,aqt,aox];rw[show d+1+m-1-d+i=m+i by omega,aI5 hC,av7 (by rcases hm with e|e;exact .inl e;exact .inr e.1) (by rcases hn with e|e;exact .inl e;exact .inr e.1) J]
 rw[e1,e2,ey]at main;exact main
def bB(d:Nat)(a t b:Rat):List Rat:=kq d a t t b 1 0
theorem qB(d:Nat)(a t b:Rat):(bB d a t b).length=2*d+3:=by rw[bB,sr];omega
theorem fI(d:Nat)(a t b:Rat)(i:Nat)(h:i<2*d+3):(bB d a t b).getD i 0=if i<d+1 then a else if i<d+2 then t else b:=by
 rw[bB,jo _ _ _ _ _ _ _ _ J];by_cases h1:i<d+1
 ·rw[if_pos h1,if_pos h1]
 rw[if_neg h1,if_neg h1];by_cases h2:i<d+1+1
 ·rw[if_pos h2,if_pos J]
 rw[if_neg h2]
theorem afL{d:Nat}{a t b:Rat}{R:Nat}(h1:rl a<=R)(h2:rl t<=R)(h3:rl b<=R):∀x∈bB d a t b,rl x<=R:=acv d a t t b 1 0 h1 h2 h2 h3
theorem aJX{d:Nat}{a t b:Rat}(h6:d<=6)(cJ:a<t)(eB:t<b)(ha:rl a<=100)(ht:rl t<=100)(hb:rl b<=100){p:Nat}(hp:p=d\/p=d+1)(iG:1<=d):zJ (bB d a t b) d p where
 d6:=h6
 kl:=by rw[qB];omega
 kr:=afL ha ht hb
 srt:=fun i j ud hj=>by
  rw[qB]at hj;rw[fI _ _ _ _ _ J,fI _ _ _ _ _ hj];by_cases i1:i<d+1<;>by_cases i2:i<d+2<;>by_cases j1:j<d+1<;>by_cases j2:j<d+2<;>simp only[i1,i2,j1,j2,if_true,if_false]<;>first|exact jM|grind|(exfalso;omega)
 p1:=by omega
 p2:=by rw[qB];omega
 lt:=by
  rcases hp with rfl|rfl
  ·rw[fI _ _ _ _ _ J,fI _ _ _ _ _ J,if_pos J,if_neg J,if_pos J];exact cJ
  rw[fI _ _ _ _ _ J,fI _ _ _ _ _ J,if_neg J,if_pos J,if_neg J,if_neg J];exact eB
def lI(d:Nat)(a t b:Rat)(C:List Q4):List Q4:=(cN (d+1)).map fun j=>ig (bB d a t b) d d C (av (d-j) a++av j t)
def lP(d:Nat)(a t b:Rat)(C:List Q4):List Q4:=(cN (d+1)).map fun i=>ig (bB d a t b) d (if i=0 then d else d+1) C (av (d-i) t++av i b)
theorem aMq{d:Nat}{a t b:Rat}{j:Nat}(hj:j<=d):((kq d a t t b d 0).drop (j+1)).take d=av (d-j) a++av j t:=by
 have e1:(kq d a t t b d 0).drop (j+1)=av (d-j) a++(av d t++av (d+1) b):=by
  have:kq d a t t b d 0=av (d+1) a++(av d t++av (d+1) b):=by simp[kq]
  rw[this,an4 aQ,aC9,show d+1-(j+1)=d-j by omega]
 rw[e1,aCJ,cy aE,oG,show d-(d-j)=j by omega,aoZ (by simpa using hj),List.take_replicate,nM hj]
theorem aBr(d:Nat)(a t b:Rat)(C:List Q4)(R:Nat)(h1:1<=d)(h6:d<=6)(cJ:a<t)(eB:t<b)(ha:rl a<=64)(ht:rl t<=64)(hb:rl b<=64)(hC:C.length=d+2)(fL:1<=R)(hR:R<=10000000)(mY:∀q∈C,s8 R q):an ai 150 [.agg [ah d,.list 3 ((bB d a t b).map ae),.list 12 (C.map dY)],.list 3 ((kq d a t t b d 0).map ae)] (.agg [ah d,.list 3 ((kq d a t t b d 0).map ae),.list 12 (((cN (2*d+1)).map fun j=>ig (bB d a t b) d ((fun j=>if j<=d then d else d+1) j) C (((kq d a t t b d 0).drop (j+1)).take d)).map dY)]):=by
 have jW:(kq d a t t b d 0).length=2*(d+1)+d+0:=sr d a t t b d 0;have n8:∀x∈(kq d a t t b d 0),rl x<=64:=acv d a t t b d 0 ha ht ht hb;have g:∀i,i<2*(d+1)+d+0->(kq d a t t b d 0).getD i 0=if i<d+1 then a else if i<d+1+d then t else b:=fun i hi=>by
  rw[jo _ _ _ _ _ _ _ _ hi];split
  ·rfl
  split
  ·rfl
  rw[if_neg J]
 refine ayw (bB d a t b) (kq d a t t b d 0) d (2*d+1) C R (fun j=>if j<=d then d else 2*d) (fun j=>if j<=d then d else d+1) J qQ qQ (fun x hx=>aP (n8 x hx) aj) (by rw[qB,hC];omega) fL hR mY (fun j hj=>by rw[jW];show (if j<=d then d else 2*d)<_;split<;>omega)
  (fun j hj=>aJX h6 cJ eB J J J (by show (if j<=d then d else d+1)=d\/_;split<;>simp) h1) (fun j hj=>?_) (fun j hj=>?_)
 ·by_cases c:j<=d
  ·rw[if_pos c];exact aro (kq d a t t b d 0) j d qQ (fun x hx=>aP (n8 x hx) aj) c qQ (by rw[g _ J,g _ J,if_pos J,if_neg J,if_pos J];exact cJ) (fun i q1 q2=>by rw[g _ J,g _ J,if_pos J,if_pos J];grind)
  rw[if_neg c];exact aro (kq d a t t b d 0) j (2*d) qQ (fun x hx=>aP (n8 x hx) aj) J qQ (by rw[g _ J,g _ J,if_neg J,if_pos J,if_neg J,if_neg J];exact eB) (fun i q1 q2=>by rw[g _ J,g _ J,if_neg J,if_pos J,if_neg J,if_pos J];grind)
 have e0:(bB d a t b).getD 0 0=a:=by rw[fI _ _ _ _ _ J,if_pos J]
 have e1:(bB d a t b).getD ((bB d a t b).length-1) 0=b:=by rw[qB,fI _ _ _ _ _ J,if_neg J,if_neg J]
 have sF:∀x∈(bB d a t b),rl x<=64:=afL ha ht hb;by_cases c:j<=d
 ·rw[if_pos c,if_pos c,g _ J,if_pos J];exact as2 d (bB d a t b) a d (by rw[qB];omega) (fun x hx=>aP (sF x hx) aj) J (by rw[e0];exact jM) (by rw[e1];grind) (by rw[qB];omega) (by rw[fI _ _ _ _ _ J,fI _ _ _ _ _ J,if_pos J,if_neg J,if_pos J];exact cJ)
   (fun i q1 q2=>by rw[fI _ _ _ _ _ J,if_pos J];exact jM) (.inl (by rw[fI _ _ _ _ _ J,if_neg J,if_pos J];exact cJ))
 rw[if_neg c,if_neg c,g _ J,if_neg J,if_pos J];exact as2 d (bB d a t b) t (d+1) (by rw[qB];omega) (fun x hx=>aP (sF x hx) aj) J (by rw[e0];grind) (by rw[e1];grind) (by rw[qB];omega) (by rw[fI _ _ _ _ _ J,fI _ _ _ _ _ J,if_neg J,if_pos J,if_neg J,if_neg J];exact eB)
  (fun i q1 q2=>by
   rw[fI _ _ _ _ _ J];split
   ·grind
   rw[if_pos J];exact jM) (.inl (by rw[fI _ _ _ _ _ J,if_neg J,if_neg J];exact eB))
theorem aAG(d:Nat)(a t b:Rat)(C:List Q4)(R:Nat)(h1:1<=d)(h6:d<=6)(cJ:a<t)(eB:t<b)(ha:rl a<=64)(ht:rl t<=64)(hb:rl b<=64)(hC:C.length=d+2)(fL:1<=R)(hR:R<=10000000)(mY:∀q∈C,s8 R q)(j:Nat)(hj:j<=d-1):an ai 148 [.list 3 ((kq d a t t b (1+j) 0).map ae),ae t] (ah (d-(d-1-j))):=by
 have:=akR (kq d a t t b (1+j) 0) (by rw[sr];omega) (fun x hx=>aP (acv d a t t b (1+j) 0 ha ht ht hb x hx) aj) t J;rw[asV (1+j) ba ba]at this;rwa[show d-(d-1-j)=1+j by omega]
theorem ay2(d:Nat)(a t b:Rat)(C:List Q4)(R:Nat)(h1:1<=d)(h6:d<=6)(cJ:a<t)(eB:t<b)(ha:rl a<=64)(ht:rl t<=64)(hb:rl b<=64)(hC:C.length=d+2)(fL:1<=R)(hR:R<=10000000)(mY:∀q∈C,s8 R q)(j:Nat)(hj:j<d-1):an ai 149 [.list 3 ((kq d a t t b (1+j) 0).map ae),ae t] (.list 3 ((kq d a t t b (1+(j+1)) 0).map ae)):=by
 have:=ana (kq d a t t b (1+j) 0) t (d+1+(1+j)) (by rw[sr];omega) (by rw[sr];omega) (fun x hx=>aP (acv d a t t b (1+j) 0 ha ht ht hb x hx) aj) J (fun i hi=>by
  rw[jo _ _ _ _ _ _ _ _ J];split
  ·grind
  ·first|exact jM|(rw[if_pos hi];exact jM)) (by
  rw[jo _ _ _ _ _ _ _ _ J,if_neg J,if_neg J,if_neg J];exact eB)
 rw[arQ]at this;rwa[show 1+(j+1)=1+j+1 by omega]
theorem azI(d:Nat)(a t b:Rat)(C:List Q4)(R:Nat)(h1:1<=d)(h6:d<=6)(cJ:a<t)(eB:t<b)(ha:rl a<=64)(ht:rl t<=64)(hb:rl b<=64)(hC:C.length=d+2)(fL:1<=R)(hR:R<=10000000)(mY:∀q∈C,s8 R q)(x:Rat)(hx:x=a\/x=t):an ai 151 [.list 3 ((kq d a t t b d 0).map ae),.dT 152 [.cx (ae x)]] (ah (if x=a then d+1 else 2*d+1)):=by
 have jW:(kq d a t t b d 0).length=2*(d+1)+d+0:=sr d a t t b d 0;have n8:∀x∈(kq d a t t b d 0),rl x<=64:=acv d a t t b d 0 ha ht ht hb;have xc:rl x<=64:=by rcases hx with rfl|rfl<;>assumption
 have:=alc 152 [.cx (ae x)] (by simp[aO,LV.pure,ao.pure]) (fun y hy=>by rw[iM.1 hy];exact⟨rfl,rfl⟩) (fun y=>decide (fY y x > 0)) (kq d a t t b d 0) qQ (fun y hy=>avY x y (by have:=n8 y hy;omega));rwa[aiE (i:=if x=a then d+1 else 2*d+1) (by rw[jW];split<;>omega) (fun j hj=>by
  have e:(kq d a t t b d 0).getD j default=(kq d a t t b d 0).getD j 0:=rfl;rw[e,jo _ _ _ _ _ _ _ _ (by split at hj<;>omega)];refine decide_eq_false fun hh=>?_;have hh:=qe.1 hh;rcases hx with rfl|rfl
  ·rw[if_pos rfl]at hj;rw[if_pos hj]at hh;grind
  ·rw[if_neg ba]at hj;split at hh
   ·grind
   first|grind|(rw[if_pos J]at hh;grind)) (by
  have e:∀j,(kq d a t t b d 0).getD j default=(kq d a t t b d 0).getD j 0:=fun _=>rfl;rw[e];refine decide_eq_true (qe.2 ?_);rcases hx with rfl|rfl
  ·rw[if_pos rfl,jo _ _ _ _ _ _ _ _ J,if_neg J,if_pos J];exact cJ
  rw[if_neg ba,jo _ _ _ _ _ _ _ _ J,if_neg J,if_neg J,if_neg J];exact eB)]at this
theorem aBh(d:Nat)(a t b:Rat)(C:List Q4)(R:Nat)(h1:1<=d)(h6:d<=6)(cJ:a<t)(eB:t<b)(ha:rl a<=64)(ht:rl t<=64)(hb:rl b<=64)(hC:C.length=d+2)(fL:1<=R)(hR:R<=10000000)(mY:∀q∈C,s8 R q)(x:Rat)(hx:x=t\/x=b):an ai 151 [.list 3 ((kq d a t t b d 0).map ae),.dT 153 [.cx (ae x)]] (ah (if x=t then d+1 else 2*d+1)):=by
 have jW:(kq d a t t b d 0).length=2*(d+1)+d+0:=sr d a t t b d 0;have n8:∀x∈(kq d a t t b d 0),rl x<=64:=acv d a t t b d 0 ha ht ht hb;have xc:rl x<=64:=by rcases hx with rfl|rfl<;>assumption
 have:=alc 153 [.cx (ae x)] (by simp[aO,LV.pure,ao.pure]) (fun y hy=>by rw[iM.1 hy];exact⟨rfl,rfl⟩) (fun y=>decide (fY y x>=0)) (kq d a t t b d 0) qQ (fun y hy=>axq x y (by have:=n8 y hy;omega));rwa[aiE (i:=if x=t then d+1 else 2*d+1) (by rw[jW];split<;>omega) (fun j hj=>by
  have e:(kq d a t t b d 0).getD j default=(kq d a t t b d 0).getD j 0:=rfl;rw[e,jo _ _ _ _ _ _ _ _ (by split at hj<;>omega)];refine decide_eq_false fun hh=>?_;have hh:=xx.1 hh;rcases hx with rfl|rfl
  ·rw[if_pos rfl]at hj;rw[if_pos hj]at hh;grind
  ·rw[if_neg ba]at hj;split at hh
   ·grind
   first|grind|(rw[if_pos J]at hh;grind)) (by
  have e:∀j,(kq d a t t b d 0).getD j default=(kq d a t t b d 0).getD j 0:=fun _=>rfl;rw[e];refine decide_eq_true (xx.2 ?_);rcases hx with rfl|rfl
  ·rw[if_pos rfl,jo _ _ _ _ _ _ _ _ J,if_neg J,if_pos J];exact jM
  rw[if_neg ba,jo _ _ _ _ _ _ _ _ J,if_neg J,if_neg J,if_neg J];exact jM)]at this
theorem aFJ(d:Nat)(a t b:Rat)(C:List Q4)(R:Nat)(h1:1<=d)(h6:d<=6)(cJ:a<t)(eB:t<b)(ha:rl a<=64)(ht:rl t<=64)(hb:rl b<=64)(hC:C.length=d+2)(fL:1<=R)(hR:R<=10000000)(mY:∀q∈C,s8 R q):an ai 69 [.agg [ah d,.list 3 ((bB d a t b).map ae),.list 12 (C.map dY)],ae a,ae t] (.agg [ah d,.list 3 ((a8 d a t).map ae),.list 12 ((lI d a t b C).map dY)]):=by
 have jW:(kq d a t t b d 0).length=2*(d+1)+d+0:=sr d a t t b d 0;have oy:=qB d a t b;have e0:(bB d a t b).getD 0 0=a:=by rw[fI _ _ _ _ _ J,if_pos J]
 have e1:(bB d a t b).getD ((bB d a t b).length-1) 0=b:=by rw[oy,fI _ _ _ _ _ J,if_neg J,if_neg J]
 have sF:∀x∈(bB d a t b),rl x<=64:=afL ha ht hb;have rG:=azI d a t b C R h1 h6 cJ eB ha ht hb hC fL hR mY a (.inl rfl);rw[if_pos rfl]at rG;have uc:=aBh d a t b C R h1 h6 cJ eB ha ht hb hC fL hR mY t (.inl rfl);rw[if_pos rfl]at uc;have main:=aoh (bB d a t b) (kq d a t t b d 0) d C ((cN (2*d+1)).map fun j=>ig (bB d a t b) d ((fun j=>if j<=d then d else d+1) j) C (((kq d a t t b d 0).drop (j+1)).take d)) a t true false 0 (d-1) (fun _=>(bB d a t b)) (fun j=>kq d a t t b (1+j) 0) (d+1) (d+1) h6 J J (by rw[oy];omega) (by rw[oy];omega) (fun x hx=>aP (sF x hx) aj)
  rfl rfl (by show kq d a t t b (1+(d-1)) 0=_;rw[show 1+(d-1)=d by omega]) (by show 0<(bB d a t b).length;rw[oy];omega) (by show (bB d a t b).length<=100;rw[oy];omega) (fun x hx=>aP (sF x hx) aj) qQ
  (by rw[e0,decide_eq_true rfl,Bool.true_or]) (by show (decide (t=(bB d a t b).getD 0 0)||decide (t=(bB d a t b).getD ((bB d a t b).length-1) 0))=_;rw[e0,e1,decide_eq_false ba,decide_eq_false ba];rfl) (bW _) J (fun _=>rfl) (fun h=>by cases h) (fun h=>by cases h) (fun _ j hj=>aAG d a t b C R h1 h6 cJ eB ha ht hb hC fL hR mY j hj) (fun j hj=>absurd hj (ake _)) (fun j hj=>ay2 d a t b C R h1 h6 cJ eB ha ht hb hC fL hR mY j hj)
  (aBr d a t b C R h1 h6 cJ eB ha ht hb hC fL hR mY) rG uc J (bF _) aQ (by rw[jW];simp;omega)
 have f1:((kq d a t t b d 0).take (d+1)).drop (d+1)=[]:=mE (by rw[fH];exact apI _ _);have f2:((((cN (2*d+1)).map fun j=>ig (bB d a t b) d ((fun j=>if j<=d then d else d+1) j) C (((kq d a t t b d 0).drop (j+1)).take d)).take (d+1)).drop (d+1-1-d))=lI d a t b C:=by
  unfold lI;refine aaW aQ fun i g1 g2=>?_;have hi:i<d+1:=by simpa using g2
  simp only[apQ,aqw,aqt,aox];rw[show d+1-1-d+i=i by omega,if_pos J,aMq J]
 rw[f1,f2,ey]at main;exact main
theorem aEP(d:Nat)(a t b:Rat)(C:List Q4)(R:Nat)(h1:1<=d)(h6:d<=6)(cJ:a<t)(eB:t<b)(ha:rl a<=64)(ht:rl t<=64)(hb:rl b<=64)(hC:C.length=d+2)(fL:1<=R)(hR:R<=10000000)(mY:∀q∈C,s8 R q):an ai 69 [.agg [ah d,.list 3 ((bB d a t b).map ae),.list 12 (C.map dY)],ae t,ae b] (.agg [ah d,.list 3 ((a8 d t b).map ae),.list 12 ((lP d a t b C).map dY)]):=by
 have jW:(kq d a t t b d 0).length=2*(d+1)+d+0:=sr d a t t b d 0;have oy:=qB d a t b;have e0:(bB d a t b).getD 0 0=a:=by rw[fI _ _ _ _ _ J,if_pos J]
 have e1:(bB d a t b).getD ((bB d a t b).length-1) 0=b:=by rw[oy,fI _ _ _ _ _ J,if_neg J,if_neg J]
 have sF:∀x∈(bB d a t b),rl x<=64:=afL ha ht hb;have hwr:∀x∈(kq d a t t b d 0),rl x<=64:=acv d a t t b d 0 ha ht ht hb;have hw0:(kq d a t t b d 0).getD 0 0=a:=by rw[jo _ _ _ _ _ _ _ _ J,if_pos J]
 have hw1:(kq d a t t b d 0).getD ((kq d a t t b d 0).length-1) 0=b:=by rw[jW,jo _ _ _ _ _ _ _ _ J,if_neg J,if_neg J,if_neg J]
 have rG:=azI d a t b C R h1 h6 cJ eB ha ht hb hC fL hR mY t (.inr rfl);rw[if_neg ba]at rG;have uc:=aBh d a t b C R h1 h6 cJ eB ha ht hb hC fL hR mY b (.inr rfl);rw[if_neg ba]at uc;have main:=aoh (bB d a t b) (kq d a t t b d 0) d C ((cN (2*d+1)).map fun j=>ig (bB d a t b) d ((fun j=>if j<=d then d else d+1) j) C (((kq d a t t b d 0).drop (j+1)).take d)) t b false true (d-1) 0 (fun j=>kq d a t t b (1+j) 0) (fun _=>(kq d a t t b d 0)) (2*d+1) (2*d+1) h6 J J (by rw[oy];omega) (by rw[oy];omega) (fun x hx=>aP (sF x hx) aj)
  rfl (by show kq d a t t b (1+(d-1)) 0=_;rw[show 1+(d-1)=d by omega]) rfl qQ qQ (fun x hx=>aP (hwr x hx) aj) qQ
  (by rw[e0,e1,decide_eq_false ba,decide_eq_false ba];rfl) (by rw[hw0,hw1,decide_eq_true rfl,Bool.or_true]) J (bW _) (fun h=>by cases h) (fun _=>rfl) (fun _ j hj=>aAG d a t b C R h1 h6 cJ eB ha ht hb hC fL hR mY j hj) (fun h=>by cases h) (fun j hj=>ay2 d a t b C R h1 h6 cJ eB ha ht hb hC fL hR mY j hj) (fun j hj=>absurd hj (ake _))
  (aBr d a t b C R h1 h6 cJ eB ha ht hb hC fL hR mY) rG uc J (bF _) aE (by rw[jW];simp;omega)
 have f1:((kq d a t t b d 0).take (2*d+1)).drop (2*d+1)=[]:=mE (by rw[fH];exact apI _ _);have f2:((((cN (2*d+1)).map fun j=>ig (bB d a t b) d ((fun j=>if j<=d then d else d+1) j) C (((kq d a t t b d 0).drop (j+1)).take d)).take (2*d+1)).drop (2*d+1-1-d))=lP d a t b C:=by
  unfold lP;refine aaW aQ fun i g1 g2=>?_;have hi:i<d+1:=by simpa using g2
  simp only[apQ,aqw,aqt,aox];rw[show 2*d+1-1-d+i=d+i by omega,show kq d a t t b d 0=kq d a t b b d 0 by simp[kq],av7 (.inr rfl) (.inl ⟨rfl,rfl⟩) J];congr 1;by_cases c:i=0
  ·rw[if_pos c,if_pos J]
  rw[if_neg c,if_neg J]
 rw[f1,f2,ey]at main;exact main
theorem aJY{p q:List Rat}{R:Nat}(h:p.length-1+(q.length-1)<=40)(gf:p.length<=41)(jG:q.length<=41)(fL:1<=R)(px:∀x∈p,rl x<=R)(o6:∀x∈q,rl x<=R):∀x∈oB p q,rl x<=p.length*(q.length*(2*R+5))+5:=fun x hx=>by
 obtain⟨k,hk,rfl⟩:=cZ.1 hx;have hS:=adW gf jG fL px o6 p.length;have nx:=ix J hS k;have hg2:=ix (S:=2) aj (z7 (n:=p.length-1+(q.length-1)) h) k;have h3:=pv ((allM p q p.length).getD k 0) ((iP (p.length-1+(q.length-1))).getD k 0);omega
theorem avT{p q:List Rat}{R a b:Nat}(ha:p.length=a)(hb:q.length=b)(h1:a*b<=30)(h2:a<=6)(h3:b<=6)(fL:1<=R)(px:∀x∈p,rl x<=R)(o6:∀x∈q,rl x<=R):∀x∈oB p q,rl x<=60*R+155:=fun x hx=>by
 have h:=aJY J J J fL px o6 x hx;rw[ha,hb,<-Nat.mul_assoc]at h;have:a*b*(2*R+5)<=30*(2*R+5):=Nat.mul_le_mul_right _ h1;omega
structure oh (po:List aF) (d R:Nat):Prop where
 c:uG po d R
 d5:d<=5
 R1:1<=R
 R2:R<=1000
section
variable {po:List aF} {d R:Nat} (h:oh po d R)
include h
theorem oh.n(k:Nat):(a7 po k).length=d+1/\∀x∈a7 po k,rl x<=2*R:=⟨by rw[s9,h.c.hl],aht h.c.ok k⟩
theorem oh.w:(aS po).length=d+1/\∀x∈aS po,rl x<=R:=⟨by rw[tb,h.c.hl],aha h.c.ok⟩
theorem oh.dn(k:Nat):(fG (a7 po k)).length=d/\∀x∈fG (a7 po k),rl x<=4*R+4:=by
 obtain⟨h1,h2⟩:=h.n k;have:=h.c.hd;have:=h.d5;have:=h.R1;exact⟨by rw[adL,h1,if_neg J];omega,fun x hx=>aP (aka J J h2 x hx) J⟩
theorem oh.dw:(fG (aS po)).length=d/\∀x∈fG (aS po),rl x<=4*R+4:=by
 obtain⟨h1,h2⟩:=h.w;have:=h.c.hd;have:=h.d5;exact⟨by rw[adL,h1,if_neg J];omega,fun x hx=>aP (aka h.R1 J h2 x hx) J⟩
theorem oh.dd:d*(d+1)<=30:=aP (nP h.d5 (show d+1<=6 by have:=h.d5;omega)) aj
theorem oh.m1(k:Nat):(oB (fG (a7 po k)) (aS po)).length=2*d-1+1/\∀x∈oB (fG (a7 po k)) (aS po),rl x<=240*R+395:=by
 obtain⟨h1,h2⟩:=h.dn k;obtain⟨h3,h4⟩:=h.w;have:=h.c.hd;have:=h.d5;have h9:=h.dd;exact⟨by rw[zN,h1,h3];omega,fun x hx=>aP (avT h1 h3 h9 J J J h2 (fun x hx=>aP (h4 x hx) J) x hx) J⟩
theorem oh.m2(k:Nat):(oB (a7 po k) (fG (aS po))).length=2*d-1+1/\∀x∈oB (a7 po k) (fG (aS po)),rl x<=240*R+395:=by
 obtain⟨h1,h2⟩:=h.n k;obtain⟨h3,h4⟩:=h.dw;have:=h.c.hd;have:=h.d5;have h9:=h.dd;exact⟨by rw[zN,h1,h3];omega,fun x hx=>aP (avT h1 h3 (by rw[Nat.mul_comm];exact h9) J J J (fun x hx=>aP (h2 x hx) J) h4 x hx) J⟩
theorem oh.t(k:Nat):(eF po k).length=2*d-1+1/\∀x∈eF po k,rl x<=480*R+791:=by
 obtain⟨h1,h2⟩:=h.m1 k;obtain⟨_,h4⟩:=h.m2 k;exact⟨by rw[eF,aaZ,h1],fun x hx=>aP (awq eX J h2 h4 x hx) J⟩
theorem oh.lo:0<(fj (aS po)).1:=by
 have hl:=tb po;have h0:0<(aS po).length:=by rw[hl,h.c.hl];omega
 obtain⟨i,hi,e⟩:=((ai9 (aS po) (aS po).length).2 h0).1;show 0<(jm (aS po) (aS po).length).1;rw[e];obtain⟨q,hq,hw⟩:=cZ.1 (dJ (p:=aS po) hi);rw[<-hw];exact(h.c.ok q hq).2.2
theorem oh.sq:cW (2*R) (jZ (fj (aS po)))/\ks (jZ (fj (aS po))) 0=false:=by
 have h0:0<(aS po).length:=by rw[tb,h.c.hl];omega
 exact⟨aJF (aiq h.R1 h.w.2) h.R1,(sq_pos h.lo (aJw h0)).2⟩
theorem oh.bt(k:Nat):cW (480*R+791) (fj (eF po k)):=aiq J (h.t k).2
theorem oh.qu(k:Nat):cW (482*R+792) (p6 (fj (eF po k)) (jZ (fj (aS po)))):=(axu (h.bt k) h.sq.1).le J
end
def spW(W:Rat)(po:List aF)(k:Nat):Rat×Rat:=p6 (p6 (fj (eF po k)) (jZ (fj (aS po)))) (W,W)
def aaD(W:Rat)(po:List aF):ny:=⟨spW W po 0,spW W po 1,spW W po 2⟩
theorem aHR{W:Rat}(h:W≠0):ks (W,W) 0=false:=by
 unfold ks;rcases(show W<0\/0<W by grind)with g|g
 ·rw[decide_eq_true (by show W<=0;grind),decide_eq_false (by show ¬(0<=W);grind)];rfl
 rw[decide_eq_false (by show ¬(W<=0);grind)];rfl
def aln(W:Rat)(po:List aF)(x:Rat):V3:=kJ (1/(W*(dq (aS po) x*dq (aS po) x))) ⟨dq (eF po 0) x,dq (eF po 1) x,dq (eF po 2) x⟩
open fc in
theorem aAT(d:Nat)(kn:List Rat)(po:List aF)(R:Nat)(h:oh po d R):an ai 175 [.agg [ah d,.list 3 (kn.map ae),.list 12 (po.map aA)]] (.agg [.list 3 ((eF po 0).map ae),.list 3 ((eF po 1).map ae),.list 3 ((eF po 2).map ae)]):=by
 have hl:=h.c.hl;have hd:=h.c.hd;have h6:=h.c.h6;have h5:=h.d5;have fL:=h.R1;have hR2:=h.R2;have dZ:LV.pure (.agg [ah d,.list 3 (kn.map ae),.list 12 (po.map aA)])=true:=eN;have w1:=h.w;have w2:=h.dw;have n0:=h.n 0;have d0:=h.dn 0;have p0a:=h.m1 0;have p0b:=h.m2 0;have n1:=h.n 1;have d1:=h.dn 1;have p1a:=h.m1 1;have p1b:=h.m2 1;have n2:=h.n 2;have d2:=h.dn 2;have p2a:=h.m1 2;have p2b:=h.m2 2;refine aL Tryz.func175 (ht:=(fun g=>LV.db g _ adf)) ?_;refine bf (akf d kn po R J h.c) ?_;refine bf (akr (aS po) J (fun x hx=>aP ((w1).2 x hx) J)) ?_;refine iR ?_;refine gH ?_;refine bf (akr (a7 po 0) J (fun x hx=>aP ((n0).2 x hx) J)) ?_;refine aN (ae0 (fG (a7 po 0)) (aS po) (4*R+4) J J J J J (fun x hx=>aP ((d0).2 x hx) J) (fun x hx=>aP ((w1).2 x hx) J)) ?_;refine aN (ae0 (a7 po 0) (fG (aS po)) (4*R+4) J J J J J (fun x hx=>aP ((n0).2 x hx) J) (fun x hx=>aP ((w2).2 x hx) J)) ?_;refine cp aC (apk _ _ (2*d-1) J p0a.1 p0b.1 (fun x hx=>aP ((p0a).2 x hx) J) (fun x hx=>aP ((p0b).2 x hx) J)) ?_;refine b7 ?_;refine gH ?_
 refine bf (akr (a7 po 1) J (fun x hx=>aP ((n1).2 x hx) J)) ?_;refine aN (ae0 (fG (a7 po 1)) (aS po) (4*R+4) J J J J J (fun x hx=>aP ((d1).2 x hx) J) (fun x hx=>aP ((w1).2 x hx) J)) ?_;refine aN (ae0 (a7 po 1) (fG (aS po)) (4*R+4) J J J J J (fun x hx=>aP ((n1).2 x hx) J) (fun x hx=>aP ((w2).2 x hx) J)) ?_;refine cp aC (apk _ _ (2*d-1) J p1a.1 p1b.1 (fun x hx=>aP ((p1a).2 x hx) J) (fun x hx=>aP ((p1b).2 x hx) J)) ?_;refine b7 ?_;refine gH ?_;refine bf (akr (a7 po 2) J (fun x hx=>aP ((n2).2 x hx) J)) ?_;refine aN (ae0 (fG (a7 po 2)) (aS po) (4*R+4) J J J J J (fun x hx=>aP ((d2).2 x hx) J) (fun x hx=>aP ((w1).2 x hx) J)) ?_;refine aN (ae0 (a7 po 2) (fG (aS po)) (4*R+4) J J J J J (fun x hx=>aP ((n2).2 x hx) J) (fun x hx=>aP ((w2).2 x hx) J)) ?_;refine cp aC (apk _ _ (2*d-1) J p2a.1 p2b.1 (fun x hx=>aP ((p2a).2 x hx) J) (fun x hx=>aP ((p2b).2 x hx) J)) ?_;refine b7 ?_;refine pa ?_;refine bG ?_;exact iJ [] rfl rfl rfl cs (cU cs rfl) anz (.pure adf)
open fc in
theorem aN7(d:Nat)(a b:Rat)(po:List aF)(ha:rl a<=100)(hb:rl b<=100)(cm:a<b)(h9:d<=6)(R:Nat)(h:oh po d R):an ai 83 [.agg [ah d,.list 3 ((a8 d a b).map ae),.list 12 (po.map aA)]] (iq (aaD (b-a) po)):=by
 have hl:=h.c.hl;have hd:=h.c.hd;have h6:=h.c.h6;have h5:=h.d5;have fL:=h.R1;have hR2:=h.R2;have km:∀l:List Rat,aO (l.map ae)=true:=fun l=>bm ao l;have gz:=kz d a b;have cI:=ye d a b;have jf:=zz d a b;have dZ:LV.pure (.agg [ah d,.list 3 ((a8 d a b).map ae),.list 12 (po.map aA)])=true:=eN;have w1:=h.w;have xp:=h.sq;have hzW:=eX b a;have hbW:cW 1000 (b-a,b-a):=⟨by show rl (b-a)<=_;omega,by show rl (b-a)<=_;omega⟩;have hnW:ks (b-a,b-a) 0=false:=aHR ba;have u0:=h.t 0;have qq0:=(h.qu 0).le (show 482*R+792<=1000000 by omega);have bb0:=(h.bt 0).le (show 480*R+791<=1000000 by omega);have u1:=h.t 1;have qq1:=(h.qu 1).le (show 482*R+792<=1000000 by omega);have bb1:=(h.bt 1).le (show 480*R+791<=1000000 by omega);have u2:=h.t 2;have qq2:=(h.qu 2).le (show 482*R+792<=1000000 by omega);have bb2:=(h.bt 2).le (show 480*R+791<=1000000 by omega);have hD:=ajR d a b po ha hb cm h9;have hW:an ai 154 [ar (a,b)] (ae (b-a)):=aoY (a,b) (by show rl b+rl a<=_;omega);have z0:an ai 176 [ar (p6 (fj (eF po 0)) (jZ (fj (aS po)))),ar (b-a,b-a)] (.aY [ar (spW (b-a) po 0),iL 0]):=afj (p6 (fj (eF po 0)) (jZ (fj (aS po)))) (b-a,b-a) 1000000 aj qq0 (hbW.le aj) hnW
 have z1:an ai 176 [ar (p6 (fj (eF po 1)) (jZ (fj (aS po)))),ar (b-a,b-a)] (.aY [ar (spW (b-a) po 1),iL 0]):=afj (p6 (fj (eF po 1)) (jZ (fj (aS po)))) (b-a,b-a) 1000000 aj qq1 (hbW.le aj) hnW;have z2:an ai 176 [ar (p6 (fj (eF po 2)) (jZ (fj (aS po)))),ar (b-a,b-a)] (.aY [ar (spW (b-a) po 2),iL 0]):=afj (p6 (fj (eF po 2)) (jZ (fj (aS po)))) (b-a,b-a) 1000000 aj qq2 (hbW.le aj) hnW;refine aL Tryz.func83 (ht:=(fun r=>LV.db r _ (ui.pure _))) ?_;refine bf (hD) ?_;refine cp cr (hW) ?_;refine cp cr (vn (b-a) J) ?_;refine bf (akf d (a8 d a b) po R J h.c) ?_;refine bf (akP (aS po) J (fun x hx=>aP ((w1).2 x hx) J)) ?_;refine cp cr (aPA (fj (aS po)) R J (aiq J w1.2)) ?_;refine bf (aAT d (a8 d a b) po R h) ?_;refine nR ?_;refine dj ?_;refine gE 8 [6] aG ?_;refine bf (akP (eF po 0) J (fun x hx=>aP ((u0).2 x hx) J)) ?_;refine aN (afj (fj (eF po 0)) (jZ (fj (aS po))) 1000000 aj bb0 (xp.1.le J) xp.2) ?_;refine aN (z0) ?_;refine bH ?_;refine cO (au.kill _ 8) ?_;refine nR ?_;refine dj ?_;refine gE 8 [6] aG ?_
 refine bf (akP (eF po 1) J (fun x hx=>aP ((u1).2 x hx) J)) ?_;refine aN (afj (fj (eF po 1)) (jZ (fj (aS po))) 1000000 aj bb1 (xp.1.le J) xp.2) ?_;refine aN (z1) ?_;refine bH ?_;refine cO (au.kill _ 8) ?_;refine nR ?_;refine dj ?_;refine gE 8 [6] aG ?_;refine bf (akP (eF po 2) J (fun x hx=>aP ((u2).2 x hx) J)) ?_;refine aN (afj (fj (eF po 2)) (jZ (fj (aS po))) 1000000 aj bb2 (xp.1.le J) xp.2) ?_;refine aN (z2) ?_;refine bH ?_;refine cO (au.kill _ 8) ?_;refine aK ?_;refine pa ?_;refine bG ?_;exact ah1
open fc in
theorem aJZ(d:Nat)(a b:Rat)(po:List aF)(ha:rl a<=100)(hb:rl b<=100)(cm:a<b)(h9:d<=6)(R:Nat)(h:oh po d R)(t x:Rat)(ht:rl t<=100)(h1:a<=t)(h2:t<=b)(hx:(t-a)/(b-a)=x)(xc:rl x<=1000):an ai 87 [.agg [ah d,.list 3 ((a8 d a b).map ae),.list 12 (po.map aA)],ae t] (.aY [aR (aln (b-a) po x),iL 0]):=by
 have jh:0<po.length:=by have:=h.c.hl;omega
 have hl:=h.c.hl;have hd:=h.c.hd;have h6:=h.c.h6;have h5:=h.d5;have fL:=h.R1;have hR2:=h.R2;have km:∀l:List Rat,aO (l.map ae)=true:=fun l=>bm ao l;have gz:=kz d a b;have cI:=ye d a b;have jf:=zz d a b;have dZ:LV.pure (.agg [ah d,.list 3 ((a8 d a b).map ae),.list 12 (po.map aA)])=true:=eN;have w1:=h.w;have fb:HS (aS po) x:=acm J (fun y hy=>aP (w1.2 y hy) J) J;have q0:=fb.ev;have hzW:=eX b a;have m0:=cF (dq (aS po) x) (dq (aS po) x);have m2:=cF (b-a) ((dq (aS po) x)*(dq (aS po) x));have m1:=pv 1 ((b-a)*((dq (aS po) x)*(dq (aS po) x)));have fR:rl 1=1:=rfl;have u0:=h.t 0;have v0:HS (eF po 0) x:=acm J (fun y hy=>aP (u0.2 y hy) J) J;have y0:=v0.ev;have u1:=h.t 1;have v1:HS (eF po 1) x:=acm J (fun y hy=>aP (u1.2 y hy) J) J;have y1:=v1.ev;have u2:=h.t 2;have v2:HS (eF po 2) x:=acm J (fun y hy=>aP (u2.2 y hy) J) J;have y2:=v2.ev;have pP:an ai 90 [iL 1] (ae 1):=zV 1 aj aj;refine aL Tryz.func87 (ht:=(iz (cu.pure _) rfl)) ?_;refine aN (aqW d a b po ha hb cm h9 t x ht h1 h2 hx jh) ?_;refine uV ?_;refine aD rfl ?_ ?_<;>intro qZ sb
 ·first|exact sb.elim|cases qZ
 refine bf (akf d (a8 d a b) po R J h.c) ?_;refine aN (ajO (aS po) x fb J) ?_;refine aW ?_;refine gE 11 [9] aG ?_;refine cp cr (pP) ?_;refine aN (jE (dq (aS po) x) (dq (aS po) x) J) ?_;refine cp aC (jE (b-a) ((dq (aS po) x)*(dq (aS po) x)) J) ?_;refine cp aC (zp 1 ((b-a)*((dq (aS po) x)*(dq (aS po) x))) J) ?_;refine bf (aAT d (a8 d a b) po R h) ?_;refine nR ?_;refine aN (ajO (eF po 0) x v0 J) ?_;refine cp aC (jE (1/((b-a)*((dq (aS po) x)*(dq (aS po) x)))) (dq (eF po 0) x) J) ?_;refine b7 ?_;refine gH ?_;refine aN (ajO (eF po 1) x v1 J) ?_;refine cp aC (jE (1/((b-a)*((dq (aS po) x)*(dq (aS po) x)))) (dq (eF po 1) x) J) ?_;refine b7 ?_;refine gH ?_;refine aN (ajO (eF po 2) x v2 J) ?_;refine cp aC (jE (1/((b-a)*((dq (aS po) x)*(dq (aS po) x)))) (dq (eF po 2) x) J) ?_;refine b7 ?_;refine pa ?_;refine dj ?_;exact wO [] rfl rfl rfl cs (cU cs rfl) jw (.pure pu) rfl (.pure rfl)
def iW(p q:V3):V3:=⟨p.y*q.z-p.z*q.y,p.z*q.x-p.x*q.z,p.x*q.y-p.y*q.x⟩
theorem abY{R:Nat}{p q:V3}(hp:cG R p)(hq:cG R q):cG (4*R+5) (iW p q):=by
 obtain⟨a1,a2,a3⟩:=hp;obtain⟨b1,b2,b3⟩:=hq;have g:∀a b c d:Rat,rl a<=R->rl b<=R->rl c<=R->rl d<=R->rl (a*b-c*d)<=4*R+5:=fun a b c d h1 h2 h3 h4=>by
  have m1:=cF a b;have m2:=cF c d;have m3:=eX (a*b) (c*d);omega
 exact⟨g _ _ _ _ a2 b3 a3 b2,g _ _ _ _ a3 b1 a1 b3,g _ _ _ _ a1 b2 a2 b1⟩
def sbS(s t:Rat×Rat):Rat×Rat:=(s.1-t.2,s.2-t.1)
theorem aGB(s t:Rat×Rat):sbS s t=(s.1+-t.2,s.2+-t.1):=by
 unfold sbS;rw[aid,aid]
theorem azD{R S:Nat}{s t:Rat×Rat}(hs:cW R s)(ht:cW S t):cW (R+S+1) (sbS s t):=by
 have m1:=eX s.1 t.2;have m2:=eX s.2 t.1;exact⟨by show rl (s.1-t.2)<=_;have:=hs.1;have:=ht.2;omega,by show rl (s.2-t.1)<=_;have:=hs.2;have:=ht.1;omega⟩
open fc in
theorem akJ(p q:V3)(R:Nat)(hR:R<=1000000000)(hp:cG R p)(hq:cG R q):an ai 188 [aR p,aR q] (aR (iW p q)):=by
 obtain⟨a1,a2,a3⟩:=hp;obtain⟨y1,y2,y3⟩:=hq;have m01:=cF p.x q.y;have m02:=cF p.x q.z;have m10:=cF p.y q.x;have m12:=cF p.y q.z;have m20:=cF p.z q.x;have m21:=cF p.z q.y;refine aL Tryz.func188 (ht:=(fun r=>LV.db r _ (cu.pure _))) ?_;refine lV ?_;refine gH ?_;refine dj ?_;refine al rfl (.bin rfl rfl (show eO .add .i64 0 1=some (.int .i64 ((1:Nat):Int)) from rfl)) ?_;refine al rfl (.bin rfl rfl (show eO .rem .i64 1 3=some (.int .i64 ((1:Nat):Int)) from rfl)) ?_;refine bn ?_;refine al rfl (.bin rfl rfl (show eO .add .i64 0 2=some (.int .i64 ((2:Nat):Int)) from rfl)) ?_;refine al rfl (.bin rfl rfl (show eO .rem .i64 2 3=some (.int .i64 ((2:Nat):Int)) from rfl)) ?_;refine aN (jE p.y q.z J) ?_;refine aN (jE p.z q.y J) ?_;refine cp aC (ue (p.y*q.z) (p.z*q.y) J) ?_;refine b7 ?_;refine gH ?_;refine dj ?_;refine al rfl (.bin rfl rfl (show eO .add .i64 1 1=some (.int .i64 ((2:Nat):Int)) from rfl)) ?_;refine al rfl (.bin rfl rfl (show eO .rem .i64 2 3=some (.int .i64 ((2:Nat):Int)) from rfl)) ?_;refine bn ?_;refine al rfl (.bin rfl rfl (show eO .add .i64 1 2=some (.int .i64 ((3:Nat):Int)) from rfl)) ?_
 refine al rfl (.bin rfl rfl (show eO .rem .i64 3 3=some (.int .i64 ((0:Nat):Int)) from rfl)) ?_;refine aN (jE p.z q.x J) ?_;refine aN (jE p.x q.z J) ?_;refine cp aC (ue (p.z*q.x) (p.x*q.z) J) ?_;refine b7 ?_;refine gH ?_;refine dj ?_;refine al rfl (.bin rfl rfl (show eO .add .i64 2 1=some (.int .i64 ((3:Nat):Int)) from rfl)) ?_;refine al rfl (.bin rfl rfl (show eO .rem .i64 3 3=some (.int .i64 ((0:Nat):Int)) from rfl)) ?_;refine bn ?_;refine al rfl (.bin rfl rfl (show eO .add .i64 2 2=some (.int .i64 ((4:Nat):Int)) from rfl)) ?_;refine al rfl (.bin rfl rfl (show eO .rem .i64 4 3=some (.int .i64 ((1:Nat):Int)) from rfl)) ?_;refine aN (jE p.x q.y J) ?_;refine aN (jE p.y q.x J) ?_;refine cp aC (ue (p.x*q.y) (p.y*q.x) J) ?_;refine b7 ?_;refine pa ?_;refine bG ?_;exact vG
open fc in
theorem ays(s t:Rat×Rat)(R:Nat)(hR:R<=1000000000)(hs:cW R s)(ht:cW R t):an ai 177 [ar s,ar t] (ar (sbS s t)):=by
 obtain⟨a1,a2⟩:=hs;obtain⟨y1,y2⟩:=ht;refine aL Tryz.func177 ?_;refine aN (ue s.1 t.2 J) ?_;refine aN (ue s.2 t.1 J) ?_;refine aW ?_;exact mL
open fc in
theorem aq1(t:Rat×Rat):an ai 109 [ar t] (ar (-t.2,-t.1)):=by
 refine aL Tryz.func109 ?_;refine bf (agS t.2) ?_;refine bf (agS t.1) ?_;refine aW ?_;exact mL
open fc in
theorem aE8(s t:Rat×Rat)(R:Nat)(hR:R<=1000000000)(hs:cW R s)(ht:cW R t):an ai 257 [ar s,ar t] (ar (s.1+t.1,s.2+t.2)):=by
 obtain⟨a1,a2⟩:=hs;obtain⟨y1,y2⟩:=ht;refine aL Tryz.func257 ?_;refine aN (n6 s.1 t.1 J) ?_;refine aN (n6 s.2 t.2 J) ?_;refine aW ?_;exact mL
open fc in
theorem awr(s t:Rat×Rat)(R:Nat)(hR:R<=1000000000)(hs:cW R s)(ht:cW R t):an ai 213 [ar s,ar t] (ar (sbS s t)):=by
 obtain⟨a1,a2⟩:=hs;obtain⟨y1,y2⟩:=ht;have n1:=aaO t.1;have n2:=aaO t.2;have hA:an ai 257 [ar s,ar (-t.2,-t.1)] (ar (sbS s t)):=by
  have:=aE8 s (-t.2,-t.1) R hR ⟨a1,a2⟩ ⟨by show rl (-t.2)<=R;omega,by show rl (-t.1)<=R;omega⟩;rwa[aGB]
 refine aL Tryz.func213 ?_;refine bf (aq1 t) ?_;refine cp aC (hA) ?_;refine aK ?_;exact mL
end Go.Proofs.YtbkmfcmgilhaaaaGreat
end
