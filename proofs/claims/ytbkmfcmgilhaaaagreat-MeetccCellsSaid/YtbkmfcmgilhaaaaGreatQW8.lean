/- Texts J2, J6, J7, J8, J41, LgZ, J42, J18, J19, LgQ, J30, J20, J12, J21, J22, J23, J36, J24, J25, J26 of this proof, joined. -/
import Derived.Test.YtbkmfcmgilhaaaaGreatQW7
set_option linter.unusedVariables false
set_option linter.unusedSimpArgs false
open Array renaming getD_eq_getD_getElem?->dQ,getElem?_eq_getElem->oX,getElem?_eq_some_iff->lX
open Bool renaming and_eq_true->jS,and_false->asi,and_self->sf,false_or->aoo,not_eq_true->y9
open Classical renaming byContradiction->rE
open Function renaming comp->aqn
open Go.Proofs.Tryz renaming func105->auW,func19->asB,prog->ai,underlying157->acq,underlying22->aaU,underlying25->dp,underlying26->mg,underlying51->nF
open Int renaming toNat_natCast->afi
open List renaming all_eq_true->nU,any_eq_false->atO,any_eq_true->apo,any_map->azh,append_assoc->pn,append_nil->ey,append_of_mem->aCO,drop_succ_cons->xr,drop_zero->jv,getD_eq_getElem?_getD->bq,getElem?_append_left->ab6,getElem?_append_right->abt,getElem?_drop->u6,getElem?_eq_getElem->ck,getElem?_map->jY,getElem?_replicate->zU,getElem_mem->qX,length_append->jx,length_cons->dR,length_drop->jD,length_map->cC,length_nil->fX,length_set->lQ,length_take->fH,map_append->wj,map_congr_left->tQ,map_cons->nK,map_drop->abj,map_map->tI,map_nil->gy,map_set->ahW,map_take->va,mem_append->nC,mem_cons->dS,mem_cons_of_mem->vC,mem_cons_self->su,mem_map->cZ,mem_singleton->iM,nil_append->fD,nodup_cons->aih,not_mem_nil->jR,pairwise_cons->akC,pairwise_map->aq0,range->cN,replicate->av,set_cons_succ->du,set_cons_zero->dD,take_add_one->te,take_nil->gU,take_of_length_le->cy,take_succ_cons->qS,take_zero->tn
open List.Perm renaming foldr_eq'->aH0
open Nat renaming add_le_add->ahl,beq_eq->uy,le_refl->bF,le_trans->aP,lt_irrefl->avN,lt_of_le_of_lt->wQ,lt_of_lt_of_le->zT,lt_or_ge->g7,mul_comm->ie,mul_le_mul->nP,mul_le_mul_left->l9,pow_le_pow_right->mN,reduceAdd->bp,reduceBEq->bh,reduceEqDiff->dC,reduceMul->bo,zero_le->bW
open Option renaming isSome_iff_exists->ayg
open Option.some renaming inj->aNx,injEq->gj
open Prod.mk renaming injEq->xw
open Rat renaming div_mul_cancel->tV,le_of_lt->kL,le_refl->jM,mul_comm->yQ,mul_nonneg->ua,mul_zero->abu
section
set_option linter.unusedVariables false
set_option linter.unusedSimpArgs false
set_option maxHeartbeats 8000000
set_option maxRecDepth 100000
attribute [local irreducible] Go.Lg.opsL Go.Lg.c9 Go.Lg.oF Go.Lg.qF
namespace Go.Proofs.YtbkmfcmgilhaaaaGreat
open Go.Lg
structure ivK (d:Nat) (k:List Rat) (pc:Nat) (t:Rat):Prop where
 d6:d<=6
 kl:2*d+2<=k.length
 k9:k.length<=100
 kr:∀x∈k,rl x<=100
 tr:rl t<=1000
 h1:k.getD 0 0<=t
 h2:t<=k.getD (k.length-1) 0
 p1:d<=pc
 p2:pc+d+1<k.length
 le:k.getD pc 0<=t
 gt:∀i,pc<i->i+d+1<k.length->t<k.getD i 0
def kE(k:List Rat)(d pc:Nat)(t:Rat):List Rat:=(cN (d+1)).map fun i=>gI k pc t d (pc-d+i)
theorem apY(k:List Rat)(d pc:Nat)(t:Rat):(kE k d pc t).length=d+1:=by simp[kE]
theorem apR{k:List Rat}{d pc:Nat}{t:Rat}{i:Nat}(h:i<d+1):(kE k d pc t).getD i 0=gI k pc t d (pc-d+i):=aoc h
theorem aPK{k:List Rat}{d pc:Nat}{t:Rat}{i:Nat}(h:i<d+1):(kE k d pc t).take i++[gI k pc t d (pc-d+i)]=(kE k d pc t).take (i+1):=by
 rw[<-apR h];exact adR (by rw[apY];exact h)
theorem aDc{k:List Rat}{d pc:Nat}{t:Rat}(h:ivK d k pc t):∀x∈kE k d pc t,rl x<=632000:=fun x hx=>by
 obtain⟨i,hi,rfl⟩:=cZ.1 hx;have h1:=ahe (at_:=pc) (R:=1000) aj (fun x hx=>aP (h.kr x hx) aj) h.tr d (pc-d+i);have h6:=h.d6;have s6:2^d<=2^6:=mN aj h6;omega
def iQ(k:List Rat)(d pc:Nat)(t:Rat)(po:List aF)(c i:Nat):Rat:=sm i fun j=>(kE k d pc t).getD j 0*(if c<3 then(a7 po c).getD (pc-d+j) 0 else(aS po).getD (pc-d+j) 0)
theorem awI{k:List Rat}{d pc R:Nat}{t:Rat}{po:List aF}(h6:d<=6)(hR:R<=40000)(fe:∀q∈po,oO R q)(hn:∀x∈kE k d pc t,rl x<=632000)(i:Nat)(hi:i<=d+1)(c:Nat):rl (iQ k d pc t po c i)<=6000000:=by
 have gn:∀c,∀z∈a7 po c,rl z<=100000:=fun c z hz=>by have:=aht fe c z hz;omega
 have gw:∀z∈aS po,rl z<=100000:=fun z hz=>by have:=aha fe z hz;omega
 have h1:=atE (f:=fun j=>(kE k d pc t).getD j 0*(if c<3 then(a7 po c).getD (pc-d+j) 0 else(aS po).getD (pc-d+j) 0)) (R:=732000) aj i (fun j hj=>by
  have a1:=ix aj hn j;have a2:=ix aj (gn c) (pc-d+j);have a3:=ix aj gw (pc-d+j);have m:=cF ((kE k d pc t).getD j 0) (if c<3 then(a7 po c).getD (pc-d+j) 0 else(aS po).getD (pc-d+j) 0);split at m<;>split<;>first|omega|contradiction)
 have h2:i*(732000+1)<=7*(732000+1):=Nat.mul_le_mul_right _ J;unfold iQ;omega
theorem aHB{k:List Rat}{d pc i:Nat}{t:Rat}{po:List aF}(h:pc-d+i<po.length):
  iQ k d pc t po 0 i+(kE k d pc t).getD i 0*((po.getD (pc-d+i) default).w*(po.getD (pc-d+i) default).p.x)=iQ k d pc t po 0 (i+1)/\iQ k d pc t po 1 i+(kE k d pc t).getD i 0*((po.getD (pc-d+i) default).w*(po.getD (pc-d+i) default).p.y)=iQ k d pc t po 1 (i+1) /\
  iQ k d pc t po 2 i+(kE k d pc t).getD i 0*((po.getD (pc-d+i) default).w*(po.getD (pc-d+i) default).p.z)=iQ k d pc t po 2 (i+1)/\iQ k d pc t po 3 i+(kE k d pc t).getD i 0*(po.getD (pc-d+i) default).w=iQ k d pc t po 3 (i+1):=by
 refine⟨?_,?_,?_,?_⟩
 ·unfold iQ;rw[sm,if_pos aj,aoL h];rfl
 ·unfold iQ;rw[sm,if_pos aj,aoL h];rfl
 ·unfold iQ;rw[sm,if_pos aj,aoL h];rfl
 unfold iQ;rw[sm,if_neg aj,aqU h]
theorem aOK{k:List Rat}{d pc:Nat}{t:Rat}{po:List aF}(hp:d<=pc)(hl:pc+1<=po.length)(hs:∀i j,i<=pc->pc<j->j<=pc+d->k.getD i 0≠k.getD j 0):(∀c,c<3->iQ k d pc t po c (d+1)=dk k d pc (a7 po c) (av d t))/\iQ k d pc t po 3 (d+1)=dk k d pc (aS po) (av d t):=by
 refine⟨fun c hc=>?_,?_⟩
 ·rw[<-ap9 (t:=t) (v:=a7 po c) (by rw[s9];exact hl) hp hs];unfold iQ;exact acJ _ _ _ fun i hi=>by rw[if_pos hc,apR hi]
 rw[<-ap9 (t:=t) (v:=aS po) (by rw[tb];exact hl) hp hs];unfold iQ;exact acJ _ _ _ fun i hi=>by rw[if_neg aj,apR hi]
open fc in
theorem aju(q:aF)(R:Nat)(hR:R<=1000000)(h:oO R q):an ai 133 [aA q] (.agg [ae (q.w*q.p.x),ae (q.w*q.p.y),ae (q.w*q.p.z),ae q.w]):=by
 obtain⟨hp,hw,nt⟩:=h;refine aL Tryz.func133 (ht:=(fun g=>LV.db g _ pu)) ?_;refine aN (avt q.w q.p R J hw hp) ?_;refine lV ?_;exact iJ [] rfl rfl rfl cs (cU cs rfl) al5 (.pure pu)
namespace axI
theorem aJ{p q:Prop}(k:q)(e:p=q:=by simp only[bD,bo,bp,bh,rL,cC,cg,dD,du,dC,reduceIte,if_true,if_false,dW,LV.kill,bC];exact rfl):p:=e.mpr k
end axI
open axI in
theorem amJ(d:Nat)(k:List Rat)(pc:Nat)(t:Rat)(hI:ivK d k pc t):an ai 55 [.list 3 (k.map ae),ah d,ae t] (.aY [ah pc,iL 0]):=by
 obtain⟨hd,gz,hk9,kW,ht,h1,h2,mj,tq,hle,hgt⟩:=hI;have uH:∀i,rl (k.getD i 0)<=100:=ix aj kW;have g0:=uH 0;have g9:=uH (k.length-1);have c1:¬fY t (k.getD 0 0)<0:=fun e=>by have:=xx.2 h1;omega
 have c2:¬fY t (k.getD (k.length-1) 0) > 0:=fun e=>by have:=ahq.2 h2;omega
 have rL:((k.length:Nat):Int).toNat-1=k.length-1:=J;refine aL Tryz.func55 (ht:=(iz rfl rfl)) ?_;refine bN ?_;refine jc ?_;refine b7 ?_
 try simp only[t1,cg]
 refine cp aC (uf t (k.getD 0 0) J) ?_;refine bc ?_;refine dU 19 rfl ?_ ?_<;>intro ab0 yI
 ·omega
 refine aW ?_
 try simp only[t1,cg,rL]
 refine cp aC (uf t (k.getD (k.length-1) 0) J) ?_;refine aK ?_;refine aD rfl ?_ ?_<;>intro aac h27
 ·omega
 refine a6 ?_;refine al rfl (.bin rfl rfl (yM (c:=k.length-1-d) J J)) ?_;refine jc ?_;refine aW ?_;refine dy (fun(i:Nat) L=>(mS L [(5,⟨3,[ae t],true⟩)] [(9,ah i),(5,.aB 5 3 0 0),(0,.list 3 (k.map ae))])) (fun i=>pc<=i/\i+d+1<k.length) (fun i=>i) (k.length-1-d-1) ⟨J,J⟩ ?_;rintro i L1 ⟨sC,cM⟩;refine a6 ?_;refine dU 34 rfl ?_ ?_<;>intro akT h34
 ·refine aW ?_
  try simp only[t1,cg,afi]
  refine cp aC (uf t (k.getD i 0) (by have:=uH i;omega)) ?_;refine aK ?_;refine aD rfl ?_ ?_<;>intro aMu h42
  ·have bV:t<k.getD i 0:=afN.1 h42;have aZ:i≠pc:=fun e=>by subst e;grind
   refine aW ?_;refine jc ?_;refine aK ?_;exact ji (i-1) ⟨J,J⟩
  obtain rfl:pc=i:=by
   rcases g7 pc i with g|g
   ·have e1:=afN.2 (hgt i g cM);exfalso
    first|omega|exact h42 e1
   omega
  refine dj ?_;exact wc
 obtain rfl:pc=i:=J;refine aW ?_
 try simp only[t1,cg,afi]
 refine lV ?_;exact wc
namespace ayX
theorem aJ{p q:Prop}(k:q)(e:p=q:=by simp only[bD,bo,bp,bh,fg,fw,cC,cg,jt,dR,fX,fD,gy,gU,ey,dD,du,dC,reduceIte,if_true,if_false,dW,LV.kill,bC];exact rfl):p:=e.mpr k
end ayX
open ayX in
theorem aPI(d:Nat)(k:List Rat)(pc:Nat)(t:Rat)(hI:ivK d k pc t):an ai 132 [.list 3 (k.map ae),ah d,ae t] (.aY [ah (pc-d),.list 3 ((kE k d pc t).map ae),iL 0]):=by
 have uc:=hI;obtain⟨hd,gz,hk9,kW,ht,h1,h2,mj,tq,hle,hgt⟩:=hI;have uH:∀i,rl (k.getD i 0)<=100:=ix aj kW;have mJ:=apY k d pc t;refine aL Tryz.func132 (ht:=(ahv rfl (eY ao _ _) rfl)) ?_;have fg:True:=trivial;have fw:True:=trivial;refine rC (amJ d k pc t uc) ?_;refine ff ?_;refine aD rfl ?_ ?_<;>intro acp h21
 ·first|exact h21.elim|cases acp
 refine bG ?_;refine al rfl (.bin rfl rfl (yM (c:=pc-d) J J)) ?_;refine aK ?_;refine iS (au.own (t:=11) 39 3 rfl rfl) ?_;refine dy (fun(i:Nat) L=>(mS L [(5,⟨3,[ae t],true⟩),(39,⟨3,((kE k d pc t).take i).map ae,true⟩)] [(12,ah (pc-d+i)),(11,.ref 39 3 0 i),(9,ah pc),(5,.aB 5 3 0 0),(1,ah d),(0,.list 3 (k.map ae))])) (fun i=>i<=d+1) (fun i=>d+1-i) 0 (bW _) ?_;rintro i L1 hi;refine bH ?_;refine aD rfl ?_ ?_<;>intro aa1 tX
 ·have cM:i<d+1:=J;have fg:=aPK (k:=k) (d:=d) (pc:=pc) (t:=t) cM;have fw:(((kE k d pc t).take i).map ae).take i=((kE k d pc t).take i).map ae:=cy wB;refine yc5 (aBx k pc t J J (fun x hx=>aP (kW x hx) aj) J d J (pc-d+i) J) ?_;refine bn ?_;refine cj rfl (.eU (d:=39) (news:=[ae (gI k pc t d (pc-d+i))]) rfl rfl rfl rfl aQ (.inl rfl) aj dp dp jg cS rfl jq (.inl ⟨38,0,_,rfl,by decide,rfl,rfl,by simp,rfl,by simp[aO,ao.pure]⟩) aQ aQ aj) ?_;refine aK ?_;refine cO (au.kill _ 38) ?_;refine nL ?_;exact gM
 obtain rfl:i=d+1:=J;have hE:(kE k d pc t).take (d+1)=(kE k d pc t):=cy J;refine bM ?_;refine al rfl (.bin rfl rfl (yM (c:=pc-d) J J)) ?_;refine bK ?_;simp only[hE];exact aea [39] rfl rfl (.pure rfl) rfl (da ao rfl rfl J) rfl (.pure rfl)
namespace aC6
theorem aJ{p q:Prop}(k:q)(e:p=q:=by simp only[bD,bo,bp,bh,cC,cg,mJ,iw,kZ,yg,dD,du,dC,reduceIte,if_true,if_false,dW,LV.kill,bC];exact rfl):p:=e.mpr k
end aC6
open aC6 in
theorem aFB(d:Nat)(k:List Rat)(pc:Nat)(t:Rat)(hI:ivK d k pc t)(po:List aF)(R:Nat)(hR:R<=40000)(hl:po.length+d+1=k.length)(fe:∀q∈po,oO R q):an ai 57 [.agg [ah d,.list 3 (k.map ae),.list 12 (po.map aA)],ae t] (.agg [ae (iQ k d pc t po 0 (d+1)),ae (iQ k d pc t po 1 (d+1)),ae (iQ k d pc t po 2 (d+1)),ae (iQ k d pc t po 3 (d+1))]):=by
 have uc:=hI;obtain⟨hd,gz,hk9,kW,ht,h1,h2,mj,tq,hle,hgt⟩:=hI;have uH:∀i,rl (k.getD i 0)<=100:=ix aj kW;have mJ:=apY k d pc t;have ax5:=fe;have iw:∀j,iQ k d pc t po j 0=0:=fun j=>rfl;have hnr:=aDc uc;have dZ:LV.pure (.agg [ah d,.list 3 (k.map ae),.list 12 (po.map aA)])=true:=eN;refine aL Tryz.func57 (ht:=(fun g=>LV.db g _ pu)) ?_;have yg:True:=trivial;refine rC (aPI d k pc t uc) ?_;refine ab7 ?_;refine dy (fun(i:Nat) L=>(mS L [(2,⟨3,[.agg [ah d,.list 3 (k.map ae),.list 12 (po.map aA)]],true⟩),(3,⟨3,[ae t],true⟩),(4,⟨12,[.agg [ae 0,ae 0,ae 0,ae 0]],true⟩),(8,⟨12,[.agg [ae (iQ k d pc t po 0 i),ae (iQ k d pc t po 1 i),ae (iQ k d pc t po 2 i),ae (iQ k d pc t po 3 i)]],true⟩)] [(9,ah i),(8,.aB 8 12 0 0),(6,.list 3 ((kE k d pc t).map ae)),(5,ah (pc-d)),(4,.aB 4 12 0 0),(2,.aB 2 3 0 0)])) (fun i=>i<=d+1) (fun i=>d+1-i) 0 (bW _) ?_;rintro i L1 hi;refine bM ?_;refine aD rfl ?_ ?_<;>intro acR qT
 ·have cM:pc-d+i<po.length:=J;have fe:=fe _ (qo cM);have hng:=ix aj hnr i;have gY:=awI (k:=k) (d:=d) (pc:=pc) (t:=t) (po:=po) hd hR ax5 hnr i J;have ef:=aHB (k:=k) (d:=d) (pc:=pc) (t:=t) (po:=po) cM;obtain⟨⟨ok1,ok2,ok3⟩,ok4,_⟩:=fe;have yg:(((pc-d:Nat):Int)+(i:Int)).toNat=pc-d+i:=J;have fe:=ax5 _ (qo cM);have bb0:=gY 0;have bb1:=gY 1;have bb2:=gY 2;have bb3:=gY 3;have m0:=cF ((kE k d pc t).getD i 0) ((po.getD (pc-d+i) default).w*(po.getD (pc-d+i) default).p.x);have m1:=cF ((kE k d pc t).getD i 0) ((po.getD (pc-d+i) default).w*(po.getD (pc-d+i) default).p.y);have m2:=cF ((kE k d pc t).getD i 0) ((po.getD (pc-d+i) default).w*(po.getD (pc-d+i) default).p.z);have m3:=cF ((kE k d pc t).getD i 0) (po.getD (pc-d+i) default).w;have n0:=cF (po.getD (pc-d+i) default).w (po.getD (pc-d+i) default).p.x;have n1:=cF (po.getD (pc-d+i) default).w (po.getD (pc-d+i) default).p.y;have n2:=cF (po.getD (pc-d+i) default).w (po.getD (pc-d+i) default).p.z;have hA0:an ai 51 [ae (iQ k d pc t po 0 i),ae ((kE k d pc t).getD i 0*((po.getD (pc-d+i) default).w*(po.getD (pc-d+i) default).p.x))] (ae (iQ k d pc t po 0 (i+1))):=by
   rw[<-ef.1];exact n6 _ _ J
  have hA1:an ai 51 [ae (iQ k d pc t po 1 i),ae ((kE k d pc t).getD i 0*((po.getD (pc-d+i) default).w*(po.getD (pc-d+i) default).p.y))] (ae (iQ k d pc t po 1 (i+1))):=by
   rw[<-ef.2.1];exact n6 _ _ J
  have hA2:an ai 51 [ae (iQ k d pc t po 2 i),ae ((kE k d pc t).getD i 0*((po.getD (pc-d+i) default).w*(po.getD (pc-d+i) default).p.z))] (ae (iQ k d pc t po 2 (i+1))):=by
   rw[<-ef.2.2.1];exact n6 _ _ J
  have hA3:an ai 51 [ae (iQ k d pc t po 3 i),ae ((kE k d pc t).getD i 0*(po.getD (pc-d+i) default).w)] (ae (iQ k d pc t po 3 (i+1))):=by
   rw[<-ef.2.2.2];exact n6 _ _ J
  refine b7 ?_;refine al rfl sZ ?_;refine bc ?_
  try simp only[t1,yg]
  refine cp cr (aju (po.getD (pc-d+i) default) R J fe) ?_;refine b7 ?_;refine qK ?_;refine lN ?_
  try simp only[t1,cg]
  refine cp aC (iY ((kE k d pc t).getD i 0) ((po.getD (pc-d+i) default).w*(po.getD (pc-d+i) default).p.x) J) ?_;refine cp aC (hA0) ?_;refine qM ?_;refine lN ?_
  try simp only[t1,cg]
  refine cp aC (iY ((kE k d pc t).getD i 0) ((po.getD (pc-d+i) default).w*(po.getD (pc-d+i) default).p.y) J) ?_;refine cp aC (hA1) ?_;refine qM ?_;refine lN ?_
  try simp only[t1,cg]
  refine cp aC (iY ((kE k d pc t).getD i 0) ((po.getD (pc-d+i) default).w*(po.getD (pc-d+i) default).p.z) J) ?_;refine cp aC (hA2) ?_;refine qM ?_;refine lN ?_
  try simp only[t1,cg]
  refine cp aC (iY ((kE k d pc t).getD i 0) (po.getD (pc-d+i) default).w J) ?_;refine cp aC (hA3) ?_;refine bN ?_;refine wq ?_;refine a6 ?_;refine cO (au.kill _ 10) ?_;refine nL ?_;exact gM
 obtain rfl:i=d+1:=J;refine bG ?_;exact iJ [] rfl rfl rfl cs (cU cs rfl) al5 (.pure pu)
open fc in
theorem aOI(d:Nat)(k:List Rat)(pc:Nat)(t:Rat)(hI:ivK d k pc t)(po:List aF)(R:Nat)(hR:R<=40000)(hl:po.length+d+1=k.length)(fe:∀q∈po,oO R q)(hs:∀i j,i<=pc->pc<j->j<=pc+d->k.getD i 0≠k.getD j 0):an ai 20 [.agg [ah d,.list 3 (k.map ae),.list 12 (po.map aA)],ae t] (.aY [aR (gpt k d pc po t),iL 0]):=by
 have hb:=awI (k:=k) (d:=d) (pc:=pc) (t:=t) (po:=po) hI.d6 hR fe (aDc hI) (d+1) (bF _);have he:=aOK (t:=t) hI.p1 (show pc+1<=po.length by have:=hI.p2;omega) hs;have hDr:an ai 56 [.agg [ae (iQ k d pc t po 0 (d+1)),ae (iQ k d pc t po 1 (d+1)),ae (iQ k d pc t po 2 (d+1)),ae (iQ k d pc t po 3 (d+1))]] (aA ⟨gpt k d pc po t,dk k d pc (aS po) (av d t)⟩):=by
  have:=apD _ _ _ _ 6000000 aj (hb 0) (hb 1) (hb 2) (hb 3);rw[he.1 0 aj,he.1 1 aj,he.1 2 aj,he.2]at this ⊢;exact this
 have ag4:LV.pure (.agg [ae (iQ k d pc t po 0 (d+1)),ae (iQ k d pc t po 1 (d+1)),ae (iQ k d pc t po 2 (d+1)),ae (iQ k d pc t po 3 (d+1))])=true:=tA;have dZ:LV.pure (.agg [ah d,.list 3 (k.map ae),.list 12 (po.map aA)])=true:=eN;refine aL Tryz.func20 (ht:=(iz (cu.pure _) rfl)) ?_;refine rC (amJ d k pc t hI) ?_;refine dj ?_;refine aD rfl ?_ ?_<;>intro re pR
 ·first|exact pR.elim|cases re
 refine aN (aFB d k pc t hI po R hR hl fe) ?_;refine cp cr (hDr) ?_;refine a6 ?_;exact wO [] rfl rfl rfl cs (cU cs rfl) jw (.pure pu) rfl (.pure rfl)
theorem aE4{α β:Type}[Inhabited α](f:α->β)(l:List α)(d:α){i:Nat}(h:i<l.length):(l.map f).take i++[f (l.getD i d)]=(l.map f).take (i+1):=by
 rw[te,jY,bq,ck h];rfl
open fc in
theorem aNO(m:M3)(p:V3)(R:Nat)(hR:R<=210000000)(hm:vr R m)(hp:cG R p):an ai 225 [fT m,aR p] (aR (m3t m p)):=by
 obtain⟨iX,fC,sG,qm⟩:=hm;refine aL Tryz.func225 (ht:=(fun r=>LV.db r _ (cu.pure _))) ?_;refine bN ?_;refine al rfl (.fa rfl rfl rfl rfl (fB.aq m) (aiz m) jw) ?_;refine aN (ahs m.a p R J iX hp) ?_;refine bc ?_;refine al rfl (.fa rfl rfl rfl rfl (fB.aq m) (ahO m) jw) ?_;refine aN (ahs m.b p R J fC hp) ?_;refine bc ?_;refine al rfl (.fa rfl rfl rfl rfl (fB.aq m) (ak9 m) jw) ?_;refine aN (ahs m.c p R J sG hp) ?_;refine aW ?_;exact vG
open fc in
theorem aN5(m:M3)(p:V3)(R:Nat)(hR:R<=210000000)(hm:vr R m)(hp:cG R p)(hR2:R<=1000000):an ai 134 [fT m,aR p] (aR (m3p m p)):=by
 have qm:=hm.2.2.2;have ht:=aAX hm hp;have hmp:LV.pure (fT m)=true:=fB.pure m;refine aL Tryz.func134 (ht:=(fun r=>LV.db r _ (cu.pure _))) ?_;refine bM ?_;refine al rfl amq ?_;refine aN (aNO m p R hR hm hp) ?_;refine bn ?_;refine al rfl (.fa rfl rfl rfl rfl (fB.aq m) (auA m) jw) ?_;refine cp aC (aL7 (m3t m p) m.t (6*R+4) J (ht.le J) (qm.le J)) ?_;refine aK ?_;exact vG
def vq(T:V3):M3:=⟨⟨1,0,0⟩,⟨0,1,0⟩,⟨0,0,1⟩,T⟩
theorem aLL{R:Nat}{T:V3}(h1:1<=R)(h:cG R T):vr R (vq T):=by
 have e0:rl 0=1:=rfl;have e1:rl 1=1:=rfl;exact⟨⟨by show rl 1<=_;omega,by show rl 0<=_;omega,by show rl 0<=_;omega⟩,⟨by show rl 0<=_;omega,by show rl 1<=_;omega,by show rl 0<=_;omega⟩,⟨by show rl 0<=_;omega,by show rl 0<=_;omega,by show rl 1<=_;omega⟩,h⟩
open fc in
theorem aOu:an ai 135 [iL 2] (aR ⟨0,0,1⟩):=by
 have rG:an ai 9 [iL 1] (ae 1):=nZ 1 aj aj;refine aL Tryz.func135 (ht:=(fun r=>LV.db r _ (cu.pure _))) ?_;refine bf (rG) ?_;refine bN ?_;exact vG
open fc in
theorem aOc:an ai 59 [] (fT (⟨⟨1,0,0⟩,⟨0,1,0⟩,⟨0,0,1⟩,⟨0,0,0⟩⟩:M3)):=by
 refine aL Tryz.func59 (ht:=(fun r=>LV.db r _ (fB.pure _))) ?_;refine bf (aFm) ?_;refine cp cr (aEG) ?_;refine cp cr (aOu) ?_;refine al rfl (aoi rfl rfl rfl) ?_;refine al rfl (apA (a:=⟨1,0,0⟩) (b:=⟨0,1,0⟩) (c:=⟨0,0,1⟩) rfl) ?_;refine cj rfl (.stE (e:=fT) (l:=[⟨⟨0,0,0⟩,⟨0,0,0⟩,⟨0,0,0⟩,⟨0,0,0⟩⟩]) (a:=(⟨⟨1,0,0⟩,⟨0,1,0⟩,⟨0,0,1⟩,⟨0,0,0⟩⟩:M3)) rfl rfl rfl aE) ?_;refine bI ?_;exact iJ [] rfl rfl rfl (fB.aq _) (cU (fB.aq _) rfl) T67 (.pure (fB.pure _))
open aow in
theorem aKI(p q:V3)(R:Nat)(hR:R<=100000000)(hp:cG R p)(hq:cG R q):an ai 22 [aR p,aR q] (fT (vq (rk q p))):=by
 refine aL Tryz.func22 (ht:=(fun r=>LV.db r _ (fB.pure _))) ?_;refine yc0 (aOc) ?_;refine bn ?_;refine cj rfl (.stE (e:=fT) (l:=[⟨⟨0,0,0⟩,⟨0,0,0⟩,⟨0,0,0⟩,⟨0,0,0⟩⟩]) (a:=(⟨⟨1,0,0⟩,⟨0,1,0⟩,⟨0,0,1⟩,⟨0,0,0⟩⟩:M3)) rfl rfl rfl aE) ?_;refine aN (aF4 q p R J hq hp) ?_;refine bn ?_;refine cj rfl (.store (y:=fT (⟨⟨1,0,0⟩,⟨0,1,0⟩,⟨0,0,1⟩,⟨0,0,0⟩⟩:M3)) (y':=fT (vq (rk q p))) rfl rfl rfl rfl rfl (fB.aq _) (asJ (⟨⟨1,0,0⟩,⟨0,1,0⟩,⟨0,0,1⟩,⟨0,0,0⟩⟩:M3) _) (by show bS _ _ (LV.aq (aR _)) (LV.isAgg (aR _));rw[cu.aq,cu.isAgg];exact jw) ⟨LV.fJ (cu.pure _),LV.fh (cu.pure _)⟩) ?_;refine aK ?_;refine al rfl (.fa rfl rfl rfl rfl (fB.aq (vq (rk q p))) (cU (fB.aq (vq (rk q p))) rfl) T67) ?_;refine cj rfl (.stE (e:=fT) (l:=[⟨⟨0,0,0⟩,⟨0,0,0⟩,⟨0,0,0⟩,⟨0,0,0⟩⟩]) (a:=(vq (rk q p))) rfl rfl rfl aE) ?_;refine bI ?_;exact iJ [] rfl rfl rfl (fB.aq _) (cU (fB.aq _) rfl) T67 (.pure (fB.pure _))
def s7(d:Nat)(k:List Rat)(s:Rat):Nat:=if k.length=2*d+2 then d else if s<k.getD (d+1) 0 then d else d+1
def mf(d:Nat)(k:List Rat)(po:List aF)(s:Rat):V3:=gpt k d (s7 d k s) po s
theorem rI.iv{d:Nat}{k:List Rat}{po:List aF}{a b s:Rat}(h:rI d k po a b)(h1:a<=s)(h2:s<=b)(hr:rl s<=1000):ivK d k (s7 d k s) s/\(∀i j,i<=s7 d k s->s7 d k s<j->j<=s7 d k s+d->k.getD i 0≠k.getD j 0)/\po.length+d+1=k.length:=by
 have hd:=h.d1;have h3:=h.d3;have ra:=td h.ca;have rb:=td h.cb;have cm:=h.ab;rcases h.kn with⟨rfl,hl⟩|⟨t,g1,g2,ht,rfl,hl⟩
 ·have hk:=kz d a b;have e:s7 d (a8 d a b) s=d:=by unfold s7;rw[if_pos J]
  rw[e];refine⟨⟨J,J,J,fun x hx=>aP (adG (R:=1) ra rb x hx) aj,hr,by rw[jz _ _ _ _ J,if_pos J];exact h1,by rw[hk,jz _ _ _ _ J,if_neg J];exact h2,bF _,J,by rw[jz _ _ _ _ J,if_pos J];exact h1,fun i j1 j2=>by omega⟩,fun i j j1 j2 j3=>?_,J⟩;rw[jz _ _ _ _ J,jz _ _ _ _ J,if_pos J,if_neg J];grind
 have hk:=qB d a t b;have rt:=td ht;have kW:∀x∈bB d a t b,rl x<=100:=fun x hx=>aP (afL J J J x hx) aj;have e1:(bB d a t b).getD 0 0=a:=by rw[fI _ _ _ _ _ J,if_pos J]
 have e2:(bB d a t b).getD (d+1) 0=t:=by rw[fI _ _ _ _ _ J,if_neg J,if_pos J]
 have e3:(bB d a t b).getD ((bB d a t b).length-1) 0=b:=by rw[hk,fI _ _ _ _ _ J,if_neg J,if_neg J]
 have e4:(bB d a t b).getD d 0=a:=by rw[fI _ _ _ _ _ J,if_pos J]
 unfold s7;rw[if_neg J,e2];by_cases c:s<t
 ·rw[if_pos c];refine⟨⟨J,J,J,kW,hr,by rw[e1];exact h1,by rw[e3];exact h2,bF _,J,by rw[e4];exact h1,fun i j1 j2=>by rw[show i=d+1 by omega,e2];exact c⟩,fun i j j1 j2 j3=>?_,J⟩;rw[fI _ _ _ _ _ J,fI _ _ _ _ _ J,if_pos J,if_neg J];split<;>grind
 rw[if_neg c];refine⟨⟨J,J,J,kW,hr,by rw[e1];exact h1,by rw[e3];exact h2,J,J,by rw[e2];grind,fun i j1 j2=>by omega⟩,fun i j j1 j2 j3=>?_,J⟩;rw[fI _ _ _ _ _ J,fI _ _ _ _ (j) J,if_neg (show ¬j<d+1 by omega),if_neg (show ¬j<d+2 by omega)];split
 ·grind
 split<;>grind
theorem rI.pp{d:Nat}{k:List Rat}{po:List aF}{a b s:Rat}{D N:Nat}(h:rI d k po a b)(c:mM po D N)(h1:a<=s)(h2:s<=b):(∃q∈nO d k po,inS (q.a,q.b) s/\aFn q s=mf d k po s)/\0<dk k d (s7 d k s) (aS po) (av d s):=by
 have hwp:∀x∈aS po,0<x:=fun x hx=>by obtain⟨z,hz,rfl⟩:=cZ.1 hx;exact c.p z hz
 rcases h.kn with⟨rfl,hl⟩|⟨t,g1,g2,ht,rfl,hl⟩
 ·have hk:=kz d a b;have e:s7 d (a8 d a b) s=d:=by unfold s7;rw[if_pos J]
  unfold mf;rw[adq hl,e];refine⟨⟨⟨d,a,b,po⟩,iM.2 rfl,⟨h1,h2⟩,(aGN h.d1 h.d3 h.ab hl).symm⟩,?_⟩;have ho:=alB h.ab h1 h2;rw[ait h.d1 h.d3 h.ab (by rw[tb,hl]),agk (by rw[tb];omega)];exact agV ba ho.1 ba _ _ fun i hi=>hwp _ (dJ (by rw[tb]at *;omega))
 have hk:=qB d a t b;have hC:(po.map de).length=d+2:=by rw[cC,hl]
 have hw:∀q∈po.map de,0<q.w:=fun q hq=>by obtain⟨z,hz,rfl⟩:=cZ.1 hq;exact c.p z hz
 have e2:(bB d a t b).getD (d+1) 0=t:=by rw[fI _ _ _ _ _ J,if_neg J,if_pos J]
 unfold mf;rw[ahh hl];by_cases g:s<t
 ·have e:s7 d (bB d a t b) s=d:=by unfold s7;rw[if_neg J,e2,if_pos g]
  rw[e];refine⟨⟨⟨d,a,t,(lI d a t b (po.map de)).map dz⟩,su,⟨h1,kL g⟩,aIh h.d1 h.d3 g1 h.ab hl (apO g1 g2 hC hw)⟩,?_⟩;exact agL hwp (by rw[tb];omega) (bF _) fun r j j1 j2 j3=>ann g1 g2 (fun r hr=>by rw[acC hr];exact⟨h1,kL g⟩) j1 j2 j3
 have e:s7 d (bB d a t b) s=d+1:=by unfold s7;rw[if_neg J,e2,if_neg g]
 have g:t<=s:=ba;rw[e];refine⟨⟨⟨d,t,b,(lP d a t b (po.map de)).map dz⟩,vC _ su,⟨g,h2⟩,aIb h.d1 h.d3 g1 g2 hl (anv g1 g2 hC hw)⟩,?_⟩;exact agL hwp (by rw[tb];omega) J fun r j j1 j2 j3=>aA6 g1 g2 (fun r hr=>by rw[acC hr];exact⟨g,h2⟩) j1 j2 j3
theorem aHh{a b:Rat}(ca:cY 2 20 a)(cb:cY 2 20 b)(n:Int):∃m,0<m/\cY (2*m) 720 (lg (a,b) n)/\∀x,cY 2 20 x->cY (2*m) 720 x:=by
 have hd:=akU n;have h1:=Int.emod_nonneg n (show kv n+1≠0 by omega);have h2:=Int.emod_lt_of_pos n (show (0:Int)<kv n+1 by omega);have hp:cY (kv n).toNat 12 (sg n):=by
  refine⟨n%(kv n+1),?_,J⟩;unfold sg;rw[Int.toNat_of_nonneg J];exact tV (by have:(0:Rat)<((kv n:Int):Rat):=Rat.intCast_pos.2 J;grind)
 have hs:∀x,cY 2 20 x->cY (2*(kv n).toNat) 240 x:=fun x hx=>(hx.scale (E:=(kv n).toNat)).mono J;refine⟨(kv n).toNat,J,?_,fun x hx=>(hs x hx).mono aj⟩;have hm:=hp.ao5 (cb.axt ca);rw[ie (kv n).toNat 2]at hm;exact(hs a ca).ajS hm
theorem ag0{a b:Rat}(h:a<b)(n:Int):a<=lg (a,b) n/\lg (a,b) n<=b:=by
 have hp:=aKR n;have m1:=ua hp.1 (show 0<=b-a by grind);have m2:=ua (show 0<=1-sg n by grind) (show 0<=b-a by grind);show a<=a+sg n*(b-a)/\a+sg n*(b-a)<=b;generalize sg n=p at *
 constructor<;>grind
theorem ajM{a b:Rat}(ca:cY 2 20 a)(cb:cY 2 20 b)(n:Int):rl (lg (a,b) n)<=10:=by
 have h1:=td ca;have h2:=td cb;have h3:=aBC n;have m1:=eX b a;have m2:=cF (sg n) (b-a);have m3:=kO a (sg n*(b-a));show rl (a+sg n*(b-a))<=_;omega
theorem rI.pt{d:Nat}{k:List Rat}{po:List aF}{a b:Rat}{D N:Nat}(h:rI d k po a b)(c:mM po D N)(n:Int):∃M,0<M/\M<=N*40^3*1440^3/\∀j,j<3->cY M (N*40^3*1440^3) ((mf d k po (lg (a,b) n)).at j):=by
 have uT:=ag0 h.ab n;obtain⟨⟨q,hq,vL,he⟩,_⟩:=h.pp c uT.1 uT.2;obtain⟨E,e0,e1,hP⟩:=h.pcs c;have hp:=hP q hq;obtain⟨m,m0,m1,m2⟩:=aHh h.ca h.cb n;obtain⟨F,f0,f1,f2⟩:=aqK J m1 (m2 _ hp.ca) (m2 _ hp.cb) vL.1 vL.2 hp.ab;have ho:=alB hp.ab vL.1 vL.2;obtain⟨M,g0,g1,g2⟩:=aMG hp.c hp.l f2 f0 ho.1 ho.2;have hle:N*E^d*F^d<=N*40^3*1440^3:=nP (l9 _ (aoE e1 aj h.d3)) (aoE f1 aj h.d3);refine⟨M,g0,aP g1 hle,fun j hj=>?_⟩;rw[<-he];exact(g2 j hj).mono hle
structure ob (d:Nat) (k:List Rat) (po:List aF) (a b:Rat):Prop where
 dr:rI d k po a b
 c:∃D N,mM po D N/\D<=2^200/\N<=2^200
 z:∀q∈po,q.p.z=0
def c19(po:List aF):Prop:=∃D N,mM po D N/\D<=2^190/\N<=2^190
theorem c19.c{po:List aF}:c19 po->∃D N,mM po D N/\D<=2^200/\N<=2^200:=fun⟨D,N,h,a,b⟩=>⟨D,N,h,aP a aG,aP b aG⟩
theorem ob.of{d:Nat}{k:List Rat}{po:List aF}{a b:Rat}(h:rI d k po a b)(hs:∀q∈po,smP q):ob d k po a b:=⟨h,⟨12,216,ah0 hs,by decide,by decide⟩,fun q hq=>(hs q hq).2.2.2⟩
theorem aMN(p q:V3)(k:Nat):(rk p q).at k=p.at k-q.at k:=by
 match k with
 |0=>rfl
 |1=>rfl
 |k+2=>rfl
theorem aGG{k:List Rat}{d pc:Nat}{v:List Rat}{t:Rat}(hv:pc+1<=v.length)(hp:d<=pc)(hs:∀i j,i<=pc->pc<j->j<=pc+d->k.getD i 0≠k.getD j 0)(h0:∀x∈v,x=0):dk k d pc v (av d t)=0:=by
 rw[<-ap9 hv hp hs];refine aO5 _ _ fun i hi=>?_;rw[h0 _ (dJ J),abu]
theorem aAq{d:Nat}{k:List Rat}{po:List aF}{a b s:Rat}(h:rI d k po a b)(hz:∀q∈po,q.p.z=0)(h1:a<=s)(h2:s<=b)(hr:rl s<=1000):(mf d k po s).z=0:=by
 obtain⟨hi,hs,hl⟩:=h.iv h1 h2 hr;have tq:=hi.p2;have e:dk k d (s7 d k s) (a7 po 2) (av d s)=0:=aGG (by rw[s9];omega) hi.p1 hs fun x hx=>by
  obtain⟨q,hq,rfl⟩:=cZ.1 hx;show q.w*q.p.z=0;rw[hz q hq,abu]
 show 1/_*dk k d (s7 d k s) (a7 po 2) (av d s)=0;rw[e,abu]
theorem ob.sh{d e:Nat}{k m:List Rat}{po pq:List aF}{a b a' b':Rat}(hc:rI d k po a b)(hx:rI e m pq a' b')(sc:∀q∈po,smP q)(sx:∀q∈pq,smP q)(i j:Int):
  c19 (pq.map (sfP (rk (mf d k po (lg (a,b) i)) (mf e m pq (lg (a',b') j)))))/\ob e m (pq.map (sfP (rk (mf d k po (lg (a,b) i)) (mf e m pq (lg (a',b') j))))) a' b'/\cG 10 (rk (mf d k po (lg (a,b) i)) (mf e m pq (lg (a',b') j)))/\cG 10 (mf d k po (lg (a,b) i))/\cG 10 (mf e m pq (lg (a',b') j)):=by
 obtain⟨M,m0,m1,m2⟩:=hc.pt (ah0 sc) i;obtain⟨L,l0,l1,l2⟩:=hx.pt (ah0 sx) j;obtain⟨B,hB⟩:∃B,216*40^3*1440^3=B:=⟨_,rfl⟩;rw[hB]at m1 m2 l1 l2;have hT:∀k',k'<3->cY (M*L) (B*L+B*M) ((rk (mf d k po (lg (a,b) i)) (mf e m pq (lg (a',b') j))).at k'):=fun k' hk=>by
  rw[aMN];have h2:=(l2 k' hk).scale (E:=M);rw[ie L M]at h2;exact((m2 k' hk).scale (E:=L)).axt h2
 have p1:M*L<=B*B:=nP m1 l1;have p2:B*L+B*M<=B*B+B*B:=ahl (l9 _ l1) (l9 _ m1);have hML:0<M*L:=Nat.mul_pos m0 l0;have hsm:B*B+B*B<4294967296^10:=by rw[<-hB];decide +kernel
 have bnd:∀(x:V3) (D' N':Nat),0<D'->D'<=B*B->N'<=B*B+B*B->(∀k',k'<3->cY D' N' (x.at k'))->cG 10 x:=fun x D' N' h0 h1 h2 h=>⟨(h 0 aj).rl h0 J J aj,(h 1 aj).rl h0 J J aj,(h 2 aj).rl h0 J J aj⟩;have hBB:B<=B*B:=Nat.le_mul_of_pos_left _ J;have h9:c19 (pq.map (sfP (rk (mf d k po (lg (a,b) i)) (mf e m pq (lg (a',b') j))))):=⟨_,_,aK0 (ah0 sx) hML hT,aP (l9 _ p1) (by rw[<-hB];decide +kernel),aP (ahl (l9 _ p1) (l9 _ p2)) (by rw[<-hB];decide +kernel)⟩;refine⟨h9,⟨⟨hx.d1,hx.d3,hx.ab,hx.ca,hx.cb,?_⟩,h9.c,fun q hq=>?_⟩,bnd _ _ _ hML p1 p2 hT,bnd _ _ _ m0 J J m2,bnd _ _ _ l0 J J l2⟩
 ·rw[cC];exact hx.kn
 obtain⟨y,hy,rfl⟩:=cZ.1 hq;have hi:=ag0 hc.ab i;have hj:=ag0 hx.ab j;have z1:=aAq hc (fun q hq=>(sc q hq).2.2.2) hi.1 hi.2 (aP (ajM hc.ca hc.cb i) aj);have z2:=aAq hx (fun q hq=>(sx q hq).2.2.2) hj.1 hj.2 (aP (ajM hx.ca hx.cb j) aj);show y.p.z+((mf d k po (lg (a,b) i)).z-(mf e m pq (lg (a',b') j)).z)=0;rw[z1,z2,(sx y hy).2.2.2];decide +kernel
theorem aGX(T:V3):vw (vq T)=sfP T:=by
 funext q;show (⟨⟨0+1*q.p.x+0*q.p.y+0*q.p.z+T.x,0+0*q.p.x+1*q.p.y+0*q.p.z+T.y,0+0*q.p.x+0*q.p.y+1*q.p.z+T.z⟩,q.w⟩:aF)=⟨⟨q.p.x+T.x,q.p.y+T.y,q.p.z+T.z⟩,q.w⟩;congr 2<;>grind
theorem aMQ{D W:Nat}{wd:Rat}{lk:mC}{I:ga->Prop}{Q:lW->Prop}(hH:∀x,I x->x.2.1<D->I (nJ x)/\I (n5 x))(hC:∀x v,I x->v=(false,0,0)\/v=lk (x.1.take 1) (x.1.drop 1)->Q (rq 1 x v)){s:RunT}(h0:∀x∈s.1,I x)(h:∀c∈s.2.2,Q c):∀c∈(yk D W 1 wd lk s).2.2,Q c:=by
 have:=ajP (D:=D) (W:=W) (na:=1) (wd:=wd) (lk:=lk) (fun s=>(∀x∈s.1,I x)/\∀c∈s.2.2,Q c) (fun x st n cs hI0=>by
  obtain⟨hA,hI⟩:=hI0;have lH:=hA x aE;have ef:∀y∈st,I y:=fun y hy=>hA y (by simp[hy]);have hq:∀v,v=(false,0,0)\/v=lk (x.1.take 1) (x.1.drop 1)->∀c∈cs++[rq 1 x v],Q c:=fun v hv c hc=>by
   rcases nC.1 hc with g|g
   ·exact hI c g
   rw[iM.1 g];exact hC x v lH hv
  rw[qn];split
  ·exact⟨ef,hq _ (.inl rfl)⟩
  split
  ·exact⟨ef,hI⟩
  split
  ·exact⟨ef,hq _ (.inr rfl)⟩
  rename_i ke;have bV:x.2.1<D:=by
   rcases g7 x.2.1 D with g|g
   ·exact g
   exact absurd (amf (x:=x) (wd:=wd) g) ke
  have hh:=hH x lH bV;refine⟨fun y hy=>?_,hI⟩;simp only[dS]at hy;rcases hy with rfl|rfl|hy
  ·exact hh.1
  ·exact hh.2
  exact ef y hy) (im D s.1) (bF _) ⟨h0,h⟩ (ahR D W 1 wd lk s)
 exact this.1.2
section
variable {d w:Nat} {wd:Rat} {lk:dP->dP->mC} {dm:dP->Sp} {Q:lW->Prop}
theorem aA7{c:dP}:∀(l:List dP) {s:qG},(∀e∈l,∀s:qG,(∀x∈s.2,Q x)->∀x∈(ti d w wd lk dm c e s).2,Q x)->(∀x∈s.2,Q x)->∀x∈(ry d w wd lk dm c l s).2,Q x
 | [],_,_,h=>h
 |e::l,s,hp,h=>aA7 l (s:=ti d w wd lk dm c e s) (fun e he=>hp e (by simp[he])) (hp e aE s h)
theorem azy{m:List dP}:∀(l:List dP) {s:qG},(∀c∈l,∀e∈m,∀s:qG,(∀x∈s.2,Q x)->∀x∈(ti d w wd lk dm c e s).2,Q x)->(∀x∈s.2,Q x)->∀x∈(qw d w wd lk dm l m s).2,Q x
 | [],_,_,h=>h
 |c::l,s,hp,h=>azy l (s:=ry d w wd lk dm c m s) (fun c hc=>hp c (by simp[hc])) (aA7 m (hp c aE) h)
theorem aBj(hd:d<=10)(hW:w<=4096){c:dP}:∀(l:List dP) {s:qG} {n:Nat},s.1<=4096->s.2.length<=n->(ry d w wd lk dm c l s).1<=4096/\(ry d w wd lk dm c l s).2.length<=n+2048*l.length
 | [],s,n,h1,h2=>⟨h1,h2⟩
 |e::l,s,n,h1,h2=>by
  obtain⟨g1,g2⟩:=apV (wd:=wd) (lk:=lk) (dm:=dm) (c:=c) (e:=e) hd hW h1 h2;obtain⟨k1,k2⟩:=aBj hd hW (c:=c) l (s:=ti d w wd lk dm c e s) (n:=n+2048) g1 g2;refine⟨k1,aP k2 ?_⟩;simp only[dR];omega
theorem ay0(hd:d<=10)(hW:w<=4096){m:List dP}(hm:m.length<=10):∀(l:List dP) {s:qG} {n:Nat},s.1<=4096->s.2.length<=n->(qw d w wd lk dm l m s).1<=4096/\(qw d w wd lk dm l m s).2.length<=n+20480*l.length
 | [],s,n,h1,h2=>⟨h1,h2⟩
 |c::l,s,n,h1,h2=>by
  obtain⟨g1,g2⟩:=aBj (wd:=wd) (lk:=lk) (dm:=dm) hd hW (c:=c) m h1 h2;obtain⟨k1,k2⟩:=ay0 hd hW hm l (s:=ry d w wd lk dm c m s) (n:=n+20480) g1 J;refine⟨k1,aP k2 ?_⟩;simp only[dR];omega
end
theorem aLQ{d w:Nat}{wd:Rat}{lA lB:List jP}{Q:lW->Prop}(h:∀p∈lA,∀q∈lB,∀x v,xM d p.a p.b q.a q.b x->v=(false,0,0)\/v=xP p q (x.1.take 1) (x.1.drop 1)->Q (rq 1 x v)):∀c∈(xL d w wd lA lB).2,Q c:=by
 refine azy _ (fun c hc e he s hs=>?_) (fun x hx=>by cases hx);obtain⟨p,hp,rfl⟩:=cZ.1 hc;obtain⟨q,hq,rfl⟩:=cZ.1 he;refine aMQ (I:=xM d (iK (ko p)).a (iK (ko p)).b (iK (ko q)).a (iK (ko q)).b) (fun x=>avp) (fun x v hx hv=>?_) (fun x hx=>?_) hs
 ·rw[aaV,aaV]at hx;have hv:v=(false,0,0)\/v=xP (iK (ko p)) (iK (ko q)) (x.1.take 1) (x.1.drop 1):=hv;rw[aaV,aaV]at hv;exact h p hp q hq x v hx hv
 rw[iM.1 hx];exact aqS ..
theorem aJM{d w:Nat}{wd:Rat}{lA lB:List jP}(hd:d<=10)(hw:w<=4096)(hA:lA.length<=10)(hB:lB.length<=10):(xL d w wd lA lB).2.length<=204800:=by
 have:=(ay0 (wd:=wd) (lk:=fun c e=>xP (iK c) (iK e)) (dm:=fun c=>((iK c).a,(iK c).b)) hd hw (m:=lB.map ko) (by rw[cC];exact hB) (lA.map ko) (s:=(0,[])) (n:=0) (bW _) (bF _)).2;rw[cC]at this;unfold xL;omega
def alD(c:lW):Prop:=∃s r:Sp,c.1=[s]/\c.2.1=[r]/\rl s.1<=100/\rl s.2<=100/\rl r.1<=100/\rl r.2<=100/\s.1<s.2/\r.1<r.2
theorem aMl{d:Nat}{a b a' b':Rat}(hd:d<=24)(cm:a<b)(aPy:a'<b')(h1:rl a<=30)(h2:rl b<=30)(h3:rl a'<=30)(h4:rl b'<=30){x:ga}{v:Bool×Nat×Nat}(h:xM d a b a' b' x):alD (rq 1 x v):=by
 obtain⟨s,r,i,j,e,f,ud,hle,hs,hr⟩:=h;have g1:=hs.rl J;have g2:=hr.rl J;refine⟨cH a b s,cH a' b' r,by unfold rq;rw[e];rfl,by unfold rq;rw[e];rfl,?_,?_,?_,?_,afP cm hs.2.2.2.1,afP aPy hr.2.2.2.1⟩
 ·have:=tu h1 h2 g1.1;show rl (a+(b-a)*s.1)<=_;omega
 ·have:=tu h1 h2 g1.2;show rl (a+(b-a)*s.2)<=_;omega
 ·have:=tu h3 h4 g2.1;show rl (a'+(b'-a')*r.1)<=_;omega
 have:=tu h3 h4 g2.2;show rl (a'+(b'-a')*r.2)<=_;omega
theorem mM.b4{C:List Q4}{D N k:Nat}(c:mM (C.map dz) D N)(hw:∀q∈C,0<q.w)(hN:N<4294967296^k)(hD:D<4294967296^k)(hk:1<=k):∀q∈C,s8 k q:=fun q hq=>by
 obtain⟨n0,n1,n2,n3⟩:=ahB hw;exact⟨(c.n 0 _ (by rw[n0];exact cZ.2 ⟨q,hq,rfl⟩)).rl c.D0 hN hD hk,(c.n 1 _ (by rw[n1];exact cZ.2 ⟨q,hq,rfl⟩)).rl c.D0 hN hD hk,(c.n 2 _ (by rw[n2];exact cZ.2 ⟨q,hq,rfl⟩)).rl c.D0 hN hD hk,(c.w _ (by rw[n3];exact cZ.2 ⟨q,hq,rfl⟩)).rl c.D0 hN hD hk⟩
theorem aix{po:List aF}{D N k:Nat}(c:mM po D N)(hN:N<4294967296^k)(hD:D<4294967296^k)(hk:1<=k):∀q∈po.map de,s8 k q:=fun q hq=>by
 obtain⟨z,hz,rfl⟩:=cZ.1 hq;exact⟨(c.n 0 _ (cZ.2 ⟨z,hz,rfl⟩)).rl c.D0 hN hD hk,(c.n 1 _ (cZ.2 ⟨z,hz,rfl⟩)).rl c.D0 hN hD hk,(c.n 2 _ (cZ.2 ⟨z,hz,rfl⟩)).rl c.D0 hN hD hk,(c.w _ (cZ.2 ⟨z,hz,rfl⟩)).rl c.D0 hN hD hk⟩
theorem sa{n:Nat}(h:n<=2^200):n<4294967296^7:=wQ h aG
theorem acb{n E d:Nat}(h:n<=2^200)(hE:E<=40)(hd:d<=3):n*E^d<4294967296^7:=wQ (nP h (aoE hE aj hd)) aG
theorem asp{d:Nat}{k:List Rat}{po:List aF}{a b s:Rat}(h:ob d k po a b)(h1:a<=s)(h2:s<=b)(hr:rl s<=1000):an ai 20 [.agg [ah d,.list 3 (k.map ae),.list 12 (po.map aA)],ae s] (.aY [aR (mf d k po s),iL 0]):=by
 obtain⟨hi,hs,hl⟩:=h.dr.iv h1 h2 hr;obtain⟨D,N,c,hD,hN⟩:=h.c;exact aOI d k _ s hi po 7 aj hl (c.okR (sa hN) (sa hD) aj) hs
theorem afX(d:Nat)(k:List Rat)(po:List aF):(nO d k po).length<=2:=by unfold nO;split<;>simp
theorem wC{q:aF}(h:0<q.w):dz (de q)=q:=by
 obtain⟨⟨x,y,z⟩,w⟩:=q;have h:(0:Rat)<w:=h;have e:∀x:Rat,w*x/w=x:=fun x=>by rw[yQ,Rat.mul_div_cancel ba]
 show (⟨⟨w*x/w,w*y/w,w*z/w⟩,w⟩:aF)=_;rw[e,e,e]
theorem aPJ{d:Nat}{a b:Rat}{C:List Q4}(cm:a<b)(hC:C.length=d+1):aiN d a b C a b=C:=by
 unfold aiN;refine List.ext_getElem (by simp[hC]) fun i g1 g2=>?_;have hi:i<d+1:=by simpa using g1
 have e:∀f:Q4->Rat,blo d a b (C.map f) (av (d-i) a++av i b)=f C[i]:=fun f=>by
  rw[<-aCW J,aKk cm (by rw[cC];exact hC) J,bq,jY,ck g2];rfl
 simp only[List.getElem_map,List.getElem_range,pol,e]
theorem aJT(d:Nat)(a b:Rat)(po:List aF)(h1:1<=d)(h6:d<=6)(cm:a<b)(ha:rl a<=64)(hb:rl b<=64)(hl:po.length=d+1)(xl:∀q∈po,oO 7 q)(hQ:∀q∈po.map de,s8 7 q):an ai 27 [.agg [ah d,.list 3 ((a8 d a b).map ae),.list 12 (po.map aA)]] (.list 3 [cR (d,a8 d a b,po)]):=by
 have hk:=aJ4 h1 h6 cm ha hb;have gz:=kz d a b;have kW:=adG (d:=d) ha hb;have hC:(po.map de).length=d+1:=by rw[cC,hl]
 have hw:∀q∈po.map de,0<q.w:=fun q hq=>by obtain⟨z,hz,rfl⟩:=cZ.1 hq;exact(xl z hz).2.2
 have e:(po.map de).map dz=po:=by
  rw[tI];exact(tQ fun q hq=>wC (xl q hq).2.2).trans (List.map_id _)
 have main:=atQ d (a8 d a b) [a,b] po (fun _=>po.map de) 1 rfl aj J J kW (axR cm) (axx d (a8 d a b) po hk J) (at1 d (a8 d a b) po 7 aj aj J J (fun x hx=>aP (kW x hx) aj) J xl)
  (fun i hi=>by
   obtain rfl:i=0:=J;have:=aOh d a b a b (po.map de) 7 h1 h6 jM cm jM ha hb ha hb hC aj aj hQ;rw[aPJ cm hC]at this;exact this)
  (fun i hi=>by
   obtain rfl:i=0:=J;exact anu d (a8 d a b) _ 7 aj J J (fun x hx=>aP (kW x hx) aj) J fun q hq=>⟨hQ q hq,hw q hq⟩)
 have e2:((cN 1).map fun i=>((d,a8 d ([a,b].getD i 0) ([a,b].getD (i+1) 0),((fun _=>po.map de) i).map dz):dP))=[(d,a8 d a b,po)]:=by
  show [((d,a8 d a b,(po.map de).map dz):dP)]=_;rw[e]
 rw[e2]at main;exact main
theorem awU{d:Nat}{k:List Rat}{po:List aF}{a b:Rat}(h:ob d k po a b):an ai 27 [.agg [ah d,.list 3 (k.map ae),.list 12 (po.map aA)]] (.list 3 (((nO d k po).map ko).map cR)):=by
 obtain⟨D,N,c,hD,hN⟩:=h.c;have hd:=h.dr.d1;have h3:=h.dr.d3;have ra:=td h.dr.ca;have rb:=td h.dr.cb;rcases h.dr.kn with⟨rfl,hl⟩|⟨t,g1,g2,ht,rfl,hl⟩
 ·rw[adq hl];exact aJT d a b po hd J h.dr.ab J J hl (c.okR (sa hN) (sa hD) aj) (aix c (sa hN) (sa hD) aj)
 rw[ahh hl];have rt:=td ht;have hC:(po.map de).length=d+2:=by rw[cC,hl]
 have hw:∀q∈po.map de,0<q.w:=fun q hq=>by obtain⟨z,hz,rfl⟩:=cZ.1 hq;exact c.p z hz
 obtain⟨E,e0,e1,e2⟩:=aqK aj ht h.dr.ca h.dr.cb (kL g1) (kL g2) h.dr.ab;have wA:=apO g1 g2 hC hw;have wZ:=anv g1 g2 hC hw;have bA:=(av9 g1 g2 hl c e0 e2).b4 wA (acb hN e1 h3) (acb hD e1 h3) aj;have bZ:=(awS g1 g2 hl c e0 e2).b4 wZ (acb hN e1 h3) (acb hD e1 h3) aj;exact aMX d a t b po 7 7 hd J g1 g2 J J J hl aj aj (c.okR (sa hN) (sa hD) aj) (fun q hq=>⟨aP (aix c (sa hN) (sa hD) aj q hq).1 aj,aP (aix c (sa hN) (sa hD) aj q hq).2.1 aj,aP (aix c (sa hN) (sa hD) aj q hq).2.2.1 aj,aP (aix c (sa hN) (sa hD) aj q hq).2.2.2 aj⟩) (aHT hd J g1 g2 J J J) (auS g1 g2) aj (fun q hq=>⟨bA q hq,wA q hq⟩) (fun q hq=>⟨bZ q hq,wZ q hq⟩) (by simp[lI];omega) (by simp[lP];omega)
theorem ob.pk{d:Nat}{k:List Rat}{po:List aF}{a b:Rat}(h:ob d k po a b){Dp:Nat}(qc:Dp<=24):∀q∈nO d k po,∃D N,u9 q Dp D N:=fun q hq=>by
 obtain⟨D,N,c,hD,hN⟩:=h.c;obtain⟨E,e0,e1,hP⟩:=h.dr.pcs c;have hp:=hP q hq;have h7:(4294967296:Nat)^7<=4294967296^80:=mN aj aj;have ra:=td hp.ca;have rb:=td hp.cb;obtain⟨qd,qa,qb,qp⟩:=q;obtain rfl:qd=d:=hp.dd;exact⟨_,_,aJQ h.dr.d1 h.dr.d3 hp.ab (by show rl qa<=30;exact aP ra aj) (by show rl qb<=30;exact aP rb aj) hp.l hp.c (zT (acb hN e1 h.dr.d3) h7) (zT (acb hD e1 h.dr.d3) h7) qc⟩
theorem anj{d e:Nat}{k m:List Rat}{po pq:List aF}{a b a' b':Rat}(h:ob d k po a b)(g:ob e m pq a' b')(dn w:Nat)(wd:Rat)(hd:dn<=10)(hw:w<=4096)(uX:rl wd<=100)(qY:an ai 25 [.agg [ah dn,ah w,ae wd]] (bL true)):
  an ai 10 [.agg [ah d,.list 3 (k.map ae),.list 12 (po.map aA)],.agg [ah e,.list 3 (m.map ae),.list 12 (pq.map aA)],.agg [ah dn,ah w,ae wd]] (.aY [.list 4 ((xL dn w wd (nO d k po) (nO e m pq)).2.map fv),iL 0]):=by
 have h3:=h.dr.d3;have g3:=g.dr.d3;have hl:po.length<=d+2:=by rcases h.dr.kn with⟨_,e⟩|⟨_,_,_,_,_,e⟩<;>omega
 have gl:pq.length<=e+2:=by rcases g.dr.kn with⟨_,e⟩|⟨_,_,_,_,_,e⟩<;>omega
 have l1:=afX d k po;have l2:=afX e m pq;exact aOV d e k m po pq J J h.z g.z _ _ J J dn w wd hd hw uX qY (awU h) (awU g) (h.pk J) (g.pk J)
theorem ob.cells{d e:Nat}{k m:List Rat}{po pq:List aF}{a b a' b':Rat}(h:ob d k po a b)(g:ob e m pq a' b'){dn w:Nat}{wd:Rat}(hd:dn<=24):∀c∈(xL dn w wd (nO d k po) (nO e m pq)).2,alD c:=aLQ fun p hp q hq x v hx _=>by
 obtain⟨_,_,kp⟩:=h.pk hd p hp;obtain⟨_,_,kq⟩:=g.pk hd q hq;exact aMl hd kp.ab kq.ab kp.ra kp.rb kq.ra kq.rb hx
namespace apw
theorem aJ{p q:Prop}(k:q)(e:p=q:=by simp only[bD,bo,bp,bh,h0,h1,rL,cC,cg,dD,du,dC,reduceIte,if_true,if_false,dW,LV.kill,bC];exact rfl):p:=e.mpr k
end apw
open apw in
theorem aLM(d:Nat)(k:List Rat)(po:List aF)(a b:Rat)(gz:0<k.length)(hk9:k.length<=1000)(h0:k.getD 0 0=a)(h1:k.getD (k.length-1) 0=b):an ai 19 [.agg [ah d,.list 3 (k.map ae),.list 12 (po.map aA)]] (ar (a,b)):=by
 have dZ:LV.pure (.agg [ah d,.list 3 (k.map ae),.list 12 (po.map aA)])=true:=eN;have rL:((k.length:Nat):Int).toNat-1=k.length-1:=J;refine aL asB (ht:=(fun g=>LV.db g _ (bj.pure _))) ?_;refine nh ?_;refine jc ?_;refine bK ?_;exact mL
theorem atU{H:cd}{d:Nat}{blk:aV}(hd:H d=some blk)(hp:aO blk.vals=true)(k b:Nat)(hk:([d]:List Nat)[k]?=some b):∃bl:aV,H b=some bl/\[blk][k]?=some bl/\aO bl.vals=true:=by
 cases k with
 |zero=>simp at hk;subst hk;exact⟨blk,hd,rfl,hp⟩
 |succ k=>simp at hk
theorem aGz{P:Program}{L:St}{a:Nat}{T:TypeId}{b sz s len d:Nat}{u v u' v':LV}{blk:aV}{m:Bool}{n:Nat}{ag:Bool}(bs:List Nat)(h0:bs.contains 0=false)(h:L.slot a=.aB b sz 0 0)(hb:L.heap b=some ⟨sz,[.agg [u,v,.ref d s 0 len]],m⟩)
  (hx:(LV.agg [u,v,.ref d s 0 len]).aq=sz) (cJ:(LV.agg [u,v,.ref d s 0 len]).at 0 n ag=some (.agg [u,v,.ref d s 0 len])) (hT:bS P T n ag) (hu:dt (L.b9 bs).heap u u') (hv:dt (L.b9 bs).heap v v') (hd:(L.b9 bs).heap d=some blk) (hp:aO blk.vals=true) :
  pB P [.cell a T] L (.agg [u',v',.ref 1 s 0 len]) [blk] :=
 ⟨[_],[_],(L.b9 bs).heap,[d],.cons ⟨b,sz,0,0,_,_,n,ag,h,hb,rfl,rfl,hx,cJ,hT⟩ .nil,vW bs h0,.cons (.net (k:=0) hu hv rfl) .nil,by simp,rfl,atU hd hp,rfl⟩
theorem aAn{P:Program}{L:St}{a1 a2 a3 a4 t:Nat}{T1 T2 T3 T4:TypeId}{b1 b2 b3 b4 s1 s2 s3 s4 s d len:Nat}{x1 u v x3 x4 x5:LV}{m1 m2 m3 m4:Bool}{n1 n2 n3 n4:Nat}{g1 g2 g3 g4:Bool}{blk:aV}
  (h1:L.slot a1=.aB b1 s1 0 0) (k1:L.heap b1=some ⟨s1,[x1],m1⟩) (z1:x1.aq=s1) (c1:x1.at 0 n1 g1=some x1) (y1:bS P T1 n1 g1) (w1:x1.pure=true)
  (h2:L.slot a2=.aB b2 s2 0 0) (k2:L.heap b2=some ⟨s2,[.agg [u,v,.ref d s 0 len]],m2⟩) (z2:(LV.agg [u,v,.ref d s 0 len]).aq=s2) (c2:(LV.agg [u,v,.ref d s 0 len]).at 0 n2 g2=some (.agg [u,v,.ref d s 0 len])) (y2:bS P T2 n2 g2) (wu:u.pure=true) (wv:v.pure=true) (hd:L.heap d=some blk) (hp:aO blk.vals=true)
  (h3:L.slot a3=.aB b3 s3 0 0) (k3:L.heap b3=some ⟨s3,[x3],m3⟩) (z3:x3.aq=s3) (c3:x3.at 0 n3 g3=some x3) (y3:bS P T3 n3 g3) (w3:x3.pure=true)
  (h4:L.slot a4=.aB b4 s4 0 0) (k4:L.heap b4=some ⟨s4,[x4],m4⟩) (z4:x4.aq=s4) (c4:x4.at 0 n4 g4=some x4) (y4:bS P T4 n4 g4) (w4:x4.pure=true)
  (h5:L.slot t=x5) (w5:x5.pure=true):pB P [.cell a1 T1,.cell a2 T2,.cell a3 T3,.cell a4 T4,.tmp t] L (.aY [x1,.agg [u,v,.ref 1 s 0 len],x3,x4,x5]) [blk] :=
 ⟨[x1,_,x3,x4,x5],[x1,_,x3,x4,x5],L.heap,[d],.cons ⟨b1,s1,0,0,_,x1,n1,g1,h1,k1,rfl,rfl,z1,c1,y1⟩ (.cons ⟨b2,s2,0,0,_,_,n2,g2,h2,k2,rfl,rfl,z2,c2,y2⟩ (.cons ⟨b3,s3,0,0,_,x3,n3,g3,h3,k3,rfl,rfl,z3,c3,y3⟩ (.cons ⟨b4,s4,0,0,_,x4,n4,g4,h4,k4,rfl,rfl,z4,c4,y4⟩ (.cons h5 .nil)))),cd.le_refl _,.cons (.dH (.pure w1)) (.cons (.net (k:=0) (.pure wu) (.pure wv) rfl) (.cons (.dH (.pure w3)) (.cons (.dH (.pure w4)) (.cons (.dH (.pure w5)) .nil)))),by simp,rfl,atU hd hp,rfl⟩
namespace awJ
theorem aJ{p q:Prop}(k:q)(e:p=q:=by simp only[bD,bo,bp,bh,fw,egr,aio,dO ez,cC,cg,jt,dR,fX,fD,gy,gU,ey,dD,du,dC,reduceIte,if_true,if_false,dW,LV.kill,bC];exact rfl):p:=e.mpr k
end awJ
open awJ in
theorem aOe(m:M3)(po:List aF)(R:Nat)(hR:R<=1000000)(hm:vr R m)(hl:po.length<=100)(fe:∀q∈po,oO R q):mW ai 58 [.list 12 (po.map aA),fT m] (.ref 1 12 0 po.length) [⟨12,(po.map (vw m)).map aA,true⟩]:=by
 have hmp:LV.pure (fT m)=true:=fB.pure m;refine zi Tryz.func58 ?_;have fw:True:=trivial;have egr:True:=trivial;refine uV ?_;refine iS (au.own (t:=5) 95 12 rfl rfl) ?_;refine dy (fun(i:Nat) L=>(mS L [(3,⟨36,[fT m],true⟩),(95,⟨12,((po.map (vw m)).take i).map aA,true⟩)] [(6,ah i),(5,.ref 95 12 0 i),(3,.aB 3 36 0 0),(0,.list 12 (po.map aA))])) (fun i=>i<=po.length) (fun i=>po.length-i) 0 (bW _) ?_;rintro i L1 hi;refine bM ?_;refine aD rfl ?_ ?_<;>intro nj pC
 ·have cM:i<po.length:=J;have hq:=fe _ (qo cM);have fw:(((po.map (vw m)).take i).map aA).take i=((po.map (vw m)).take i).map aA:=cy aQ;have egr:=aE4 (vw m) po default cM;refine a6 ?_;refine al rfl amq ?_;refine aN (aN5 m (po.getD i default).p R J hm hq.1 hR) ?_;refine aW ?_;refine tj (ahz rfl rfl) ?_;refine bn ?_;refine cj rfl (.eU (d:=95) (news:=[aA (vw m (po.getD i default))]) rfl rfl rfl rfl aQ (.inl rfl) aj mg mg xu oT cs B42 (.inl ⟨27,0,_,rfl,by decide,rfl,rfl,by simp,rfl,by simp[aO,ez.pure]⟩) aQ aQ aj) ?_;refine aK ?_;refine cO (au.kill _ 27) ?_;refine nL ?_;exact gM
 obtain rfl:i=po.length:=J;rw[(cy fW:(po.map (vw m)).take po.length=po.map (vw m))];refine bG ?_;exact age rfl rfl (bm ez _)
namespace asd
theorem aJ{p q:Prop}(k:q)(e:p=q:=by simp only[bD,bo,bp,bh,aio,dO ao,dO ez,cg,jt,dR,fX,fD,gy,gU,ey,dD,du,dC,reduceIte,if_true,if_false,dW,LV.kill,bC];exact rfl):p:=e.mpr k
end asd
open asd in
theorem aFx(d:Nat)(kV:List Rat)(m:M3)(po:List aF)(R:Nat)(hR:R<=1000000)(hm:vr R m)(hl:po.length<=100)(hkv:kV.length<=100)(fe:∀q∈po,oO R q):mW ai 21 [.agg [ah d,.list 3 (kV.map ae),.list 12 (po.map aA)],fT m] (.agg [ah d,.list 3 (kV.map ae),.ref 1 12 0 po.length]) [⟨12,(po.map (vw m)).map aA,true⟩]:=by
 have hmp:LV.pure (fT m)=true:=fB.pure m;have dZ:LV.pure (.agg [ah d,.list 3 (kV.map ae),.list 12 (po.map aA)])=true:=eN;have pG:=bm ao kV;have xl:=bm ez po;refine zi Tryz.func21 ?_;refine bH ?_;refine afn ((au.cx (t:=3) (b:=3) rfl rfl (fB.aq m) rfl hmp).trans (au.cx (t:=2) (b:=2) rfl rfl cs rfl dZ)) ?_;refine fx 0 rfl rfl aG (.pure l5) gu fy ?_;refine fx 1 rfl rfl aG (.pure gJ) gu fy ?_;refine fx 3 rfl rfl aG (.pure l5) gu fy ?_;refine fx 4 rfl rfl aG (.pure (.kQ rfl pG rfl rfl)) gu fy ?_;refine fx 6 rfl rfl aG (.pure l5) gu fy ?_;refine fx 7 rfl rfl aG (.pure (.kQ rfl xl rfl rfl)) gu fy ?_;refine fx 8 rfl rfl aG (.pure (.kQ rfl hmp (fB.aq m) rfl)) (fun b=>LV.oH b _ hmp) fy ?_;refine di 2 _ aG rfl ?_;refine eT ?_;refine di 5 _ aG rfl ?_;refine cj rfl (.eU (d:=7) (news:=kV.map ae) rfl rfl rfl rfl aE (.inl rfl) aj dp dp jg cS rfl jq (.inr (.inl rfl)) aQ aQ aj) ?_;refine iy ?_;refine di 9 _ aG rfl ?_;refine aJ ?_;refine wU [] rfl rfl (.cons (.pure (eY ez 12 po)) (.cons (.pure hmp) .nil)) (aOe m po R hR hm hl fe) (bm ez _) rfl ?_;refine iy ?_;refine di 10 _ aG rfl ?_;refine eT ?_
 refine di 11 _ aG rfl ?_;refine eT ?_;refine pb aG ?_;refine bc ?_;exact aGz [7] rfl rfl rfl cs (cU cs rfl) fo (.pure rfl) (da ao rfl rfl aE) rfl (bm ez _)
open apw in
theorem aIq(d:Nat)(k:List Rat)(a b:Rat)(gz:0<k.length)(hk9:k.length<=1000)(h0:k.getD 0 0=a)(h1:k.getD (k.length-1) 0=b):an ai 19 [.agg [ah d,.list 3 (k.map ae),.any]] (ar (a,b)):=by
 have pG:=eY ao 3 k;have rL:((k.length:Nat):Int).toNat-1=k.length-1:=J;refine aL asB (ht:=(fun g=>LV.db g _ (bj.pure _))) ?_;refine nh ?_;refine jc ?_;refine bK ?_;exact mL
end Go.Proofs.YtbkmfcmgilhaaaaGreat
end
section
set_option linter.unusedVariables false
set_option linter.unusedSimpArgs false
namespace Go.Lg
section
variable {P:Program} {ops:Array Oper}
theorem Step.aLg{o:Oper}{L L':St}(h:Step P true ops o L L'):Step P false ops o L L':=by
 cases h with
 |skip hg h=>exact .skip hg h
 |val hg hle eM ho h=>exact .val hg hle eM ho h
 |st hg ho=>exact .st hg ho
 |stM ir _ _=>cases ir
def agA:Op->Bool
 | .store ..=>true
 | .call ⟨.builtin .append,_,_⟩=>true
 |op=>!wK op
def St.more(L:St)(d:Nat)(v:LV)(x:aV):St:=(L.put (some d) v).bO d (some x)
theorem aar{L:St}{d c:Nat}{v:LV}{x:aV}(h:c≠d):(L.more d v x).heap c=L.heap c:=by
 show (if c=d then _ else(L.put (some d) v).heap c)=_;rw[if_neg h,kH]
theorem aNh{L:St}{d:Nat}{v:LV}{x:aV}{o:Oper}{res:Bool}(h:d∉o.looksAt ops)(hg:eg ops L o res):eg ops (L.more d v x) o res:=by
 unfold eg at hg ⊢
 cases hh:o.guard with
 |none=>rw[hh]at hg;exact hg
 |some pr =>
  obtain⟨j,want⟩:=pr;rw[hh]at hg;obtain⟨t,vF,q'⟩:=hg;have aZ:t≠d:=fun q=>h (by rw[<-q];unfold Oper.looksAt;rw[hh];simp[vF]);have e1:(L.more d v x).slot t=L.slot t:=by
   show (L.put (some d) v).slot t=_;rw[iU,if_neg aZ]
  refine⟨t,vF,?_⟩;show (∃b,(L.more d v x).slot t=_/\_)\/((L.more d v x).slot t=_/\_);rw[e1];exact q'
theorem afQ{L:St}{d:Nat}{v:LV}{x:aV}{e:Option Nat}(h:e≠some d)(r:LV):(L.put e r).more d v x=(L.more d v x).put e r:=by
 unfold St.more;rw[<-vu L h v r]
 cases e<;>rfl
theorem akH{L:St}{d b:Nat}{v:LV}{x:aV}{y:Option aV}(h:b≠d):(L.bO b y).more d v x=(L.more d v x).bO b y:=by
 refine congrArg (St.mk _) (funext fun c=>?_);show (if c=d then some x else(if c=b then y else L.heap c))=if c=b then y else(if c=d then some x else L.heap c)
 by_cases h1:c=d
 ·rw[if_pos h1,if_neg (fun q=>h (q.symm.trans h1)),if_pos h1]
 rw[if_neg h1,if_neg h1]
theorem aMZ{L:St}{d b:Nat}{v:LV}{x:aV}(hb:b≠d)(hv:v.kill b=v)(hx:bC b x.vals=x.vals):(L.more d v x).kill b=(L.kill b).more d v x:=by
 have h1:∀t,((L.more d v x).kill b).slot t=((L.kill b).more d v x).slot t:=fun t=>by
  show ((L.put (some d) v).slot t).kill b=((L.kill b).put (some d) v).slot t;rw[iU,iU];split
  ·exact hv
  rfl
 have h2:∀c,((L.more d v x).kill b).heap c=((L.kill b).more d v x).heap c:=fun c=>by
  show (if c=b then none else((L.more d v x).heap c).map _)=(if c=d then some x else((L.kill b).put (some d) v).heap c);rw[kH];show _=if c=d then some x else(if c=b then none else(L.heap c).map _)
  by_cases h1:c=d
  ·subst h1;rw[if_neg (Ne.symm hb),if_pos rfl];show (if c=c then some x else _:Option aV).map _=_;rw[if_pos rfl];simp[hx]
  rw[if_neg h1,aar h1]
 rw[show (L.more d v x).kill b=St.mk ((L.more d v x).kill b).slot ((L.more d v x).kill b).heap from rfl,funext h1,funext h2]
theorem aHY{o:Oper}{L L':St}{d:Nat}{v:LV}{x:aV}(ht:agA o.op=true)(hw:wS o.op=true)(hl:d∉o.looksAt ops)(hd:o.dst≠some d)(hL:L.heap d=none)(hL':L'.heap d=none)
  (hk:∀c,c≠d->v.kill c=v/\bC c x.vals=x.vals) (h:Step P true ops o L L'):Step P true ops o (L.more d v x) (L'.more d v x):=by
 have gV:∀y∈o.op.operands,(L.more d v x).ev y=L.ev y:=fun y hy=>apr (L:=L) (v:=v) hl y hy;have hG:∀res,eg ops L o res->eg ops (L.more d v x) o res:=fun res h=>aNh hl h;have hbn:∀{b:Nat} {y:aV},L.heap b=some y->b≠d:=fun h q=>by rw[q,hL]at h;cases h
 cases h with
 |skip hg h=>exact .skip (hG _ hg) (by rw[h,afQ hd])
 | @val r fr H1 hg hle eM ho h =>
  have r9:H1 d=none:=by rw[h]at hL';exact hL'
  have aq6:∀{A B:cd},A.le B->cd.le (fun c=>if c=d then some x else A c) (fun c=>if c=d then some x else B c):=fun {A B} cm c blk hc=>by
   change (if c=d then some x else A c)=some blk at hc;show ∃m,(if c=d then some x else B c)=_/\_;by_cases e:c=d
   ·rw[if_pos e]at hc ⊢
    cases hc
    exact⟨x.mt,rfl,fun h=>h,fun h1 h2=>by rw[h1]at h2;cases h2⟩
   rw[if_neg e]at hc ⊢;exact cm c blk hc
  have ahj:H1.le (fun c=>if c=d then some x else H1 c):=fun c blk hc=>by
   have e:c≠d:=fun e=>by subst e;rw[r9]at hc;cases hc
   exact⟨blk.mt,by show (if c=d then _ else _)=_;rw[if_neg e];exact hc,fun h=>h,fun h1 h2=>by rw[h1]at h2;cases h2⟩
  refine .val (r:=r) (fr:=fr) (H1:=fun c=>if c=d then some x else H1 c) (hG _ hg) ?_ (fun c blk hc=>?_) ((ho.aoa hw gV).le ahj) ?_
  ·have:=aq6 (A:=L.heap) hle;intro c blk hc;exact this c blk (by rw[<-hc];show _=(if c=d then some x else(L.put (some d) v).heap c);rw[kH])
  ·obtain⟨q1,mm,q2,q3⟩:=eM c blk hc;have e:c≠d:=fun e=>by subst e;rw[r9]at q2;cases q2
   exact⟨by rw[aar e];exact q1,mm,by show (if c=d then _ else _)=_;rw[if_neg e];exact q2,q3⟩
  rw[h];have h1:(((L.put o.dst r).more d v x)).slot=((L.more d v x).put o.dst r).slot:=by rw[afQ hd]
  show St.mk (((L.put o.dst r).more d v x)).slot (fun c=>if c=d then some x else _)=_;rw[h1];refine congrArg (St.mk _) (funext fun c=>?_);by_cases e:c=d
  ·rw[if_pos e,if_pos e]
  rw[if_neg e,if_neg e,kH]
 |st hg rX =>
  obtain⟨dst,op,ty,pos,after,gd⟩:=o;refine .st (hG _ hg) ?_
  cases rX with
  |store hp hb hs hm hi hy nG hT aZ =>
   rename_i T p y b sz i o' blk z z';have e1:=gV p cX;have e2:=gV y cX;have gY:=hbn hb;have:=iI.store (P:=P) (L:=L.more d v x) (dst:=dst) (T:=T) (p:=p) (x:=y) (y':=z') (e1.trans hp) (by rw[aar gY];exact hb) hs hm hi hy (by rw[e2];exact nG) (by rw[e2];exact hT) (by rw[e2];exact aZ);rw[afQ hd,akH gY];exact this
  |eU hx hb hs hm hlen gY gh hT hU hz hE fk lD hy bU jl fb =>
   rename_i T U E E' d' b sz len blk y w news z eH;have e1:=gV y mB;have e2:=gV w mB;have xH:=hbn hb;have iG:d'≠d:=fun q=>by
    subst q;rw[kH]at hL';have:(if d'=d' then some (⟨sz,bC b (blk.vals.take len++news),true⟩:aV)else _)=none:=hL';rw[if_pos rfl]at this
    cases this
   obtain⟨k1,k2⟩:=hk b xH;have:=iI.eU (P:=P) (L:=L.more d v x) (dst:=dst) (d:=d') (T:=T) (U:=U) (x:=y) (y:=w) (e1.trans hx) (by rw[aar xH];exact hb) hs hm hlen (gY.imp id fun q=>by rw[aar iG];exact q) gh hT hU hz hE fk lD
    (by
     rw[e2];refine hy.imp (fun⟨c,off,eQ,a1,a2,a3,a4⟩=>⟨c,off,eQ,a1,a2,?_,a4⟩) id;rw[aar (hbn a3)];exact a3) bU jl fb
   rw[afQ hd,akH iG,<-aMZ xH k1 k2];exact this
  |zG hx gY hT hU hz hE fk lD hy hn bU jl fb =>
   rename_i T U E E' d' sz y w news z eH;have e1:=gV y mB;have e2:=gV w mB;have iG:d'≠d:=fun q=>by
    subst q;rw[kH]at hL';have:(if d'=d' then some (⟨sz,news,true⟩:aV)else _)=none:=hL';rw[if_pos rfl]at this
    cases this
   have:=iI.zG (P:=P) (L:=L.more d v x) (dst:=dst) (d:=d') (T:=T) (U:=U) (x:=y) (y:=w) (e1.trans hx) (by rw[aar iG];exact gY) hT hU hz hE fk lD
    (by
     rw[e2];refine hy.imp (fun⟨c,off,eQ,a1,a3,a4⟩=>⟨c,off,eQ,a1,?_,a4⟩) id;rw[aar (hbn a3)];exact a3) hn bU jl fb
   rw[afQ hd,akH iG];exact this
  |_=>exfalso;revert ht;simp[agA,wK]
 |stM ir _ _=>cases ir
abbrev qC:=Nat×Option (LV×aV)
def eJ(ops:Array Oper)(i:Nat):Nat:=((ops.getD i default).dst).getD 0
def aaC(P:Program)(ops:Array Oper):List qC->St->(St->Prop)->Prop
 | [],L,K=>K L
 |(i,none)::rest,L,K=>(∀e∈rest,e.2.isSome=true->L.heap (eJ ops e.1)=none)/\∃o L',ops[i]?=some o/\Step P true ops o L L'/\aaC P ops rest L' K
 |(i,some (v,x))::rest,L,K=>L.heap (eJ ops i)=none/\(∀e∈rest,e.2.isSome=true->L.heap (eJ ops e.1)=none)/\aaC P ops rest (L.more (eJ ops i) v x) K
def ac8(ops:Array Oper)(L:St)(E:List (Nat×LV×aV)):St:=E.foldr (fun e L=>L.more (eJ ops e.1) e.2.1 e.2.2) L
theorem amn{L:St}{c:Nat}:∀{E:List (Nat×LV×aV)},(∀e∈E,c≠eJ ops e.1)->(ac8 ops L E).heap c=L.heap c
 | [],_=>rfl
 |e::E,h=>(aar (h e (su))).trans (amn fun e' he'=>h e' (vC _ he'))
theorem aOC{L:St}{d d':Nat}{v v':LV}{x x':aV}(h:d≠d'):(L.more d v x).more d' v' x'=(L.more d' v' x').more d v x:=by
 have:∀(M:St),M.more d' v' x'=(M.put (some d') v').bO d' (some x'):=fun _=>rfl;rw[this,this,<-afQ (e:=some d') (fun q=>h (aNx q).symm),<-akH (Ne.symm h)]
theorem aKn{L:St}{E E':List (Nat×LV×aV)}(hp:E.Perm E')(hd:∀x∈E,∀y∈E,eJ ops x.1=eJ ops y.1->x=y):ac8 ops L E=ac8 ops L E' :=
 aH0 hp (fun x hx y hy z=>by
  by_cases q:eJ ops x.1=eJ ops y.1
  ·rw[hd x hx y hy q]
  exact aOC q) L
theorem asW{o:Oper}{L L':St}(ht:agA o.op=true)(hw:wS o.op=true)(h:Step P true ops o L L'):∀(E:List (Nat×LV×aV)),(∀e∈E,eJ ops e.1∉o.looksAt ops/\o.dst≠some (eJ ops e.1)/\L.heap (eJ ops e.1)=none/\L'.heap (eJ ops e.1)=none /\
  ∀c,c≠eJ ops e.1->e.2.1.kill c=e.2.1/\bC c e.2.2.vals=e.2.2.vals)->(E.map fun e=>eJ ops e.1).Nodup->Step P true ops o (ac8 ops L E) (ac8 ops L' E)
 | [],_,_=>h
 |e::E,he,hn=>by
  have hn':=aih.1 hn;obtain⟨a1,a2,a3,a4,a5⟩:=he e su;have aZ:∀e'∈E,eJ ops e.1≠eJ ops e'.1:=fun e' h' q=>hn'.1 (cZ.2 ⟨e',h',q.symm⟩);exact aHY ht hw a1 a2 ((amn aZ).trans a3) ((amn aZ).trans a4) a5 (asW ht hw h E (fun e' h'=>he e' (vC _ h')) hn'.2)
theorem aAD{K:St->Prop}:∀{l:List qC} {L:St},aaC P ops l L K->∀e∈l,e.2.isSome=true->L.heap (eJ ops e.1)=none
 | [],_,_,e,he,_=>by cases he
 |(i,none)::rest,L,h,e,he,hs=>by
  rcases dS.1 he with q|q
  ·subst q;cases hs
  exact h.1 e q hs
 |(i,some (v,x))::rest,L,h,e,he,hs=>by
  rcases dS.1 he with q|q
  ·subst q;exact h.1
  exact h.2.1 e q hs
def aq4(ops:Array Oper)(bs:List Nat)(a b:Nat×Bool):Bool :=
 a.1 != b.1&&(b.2||(bs.getD b.1 0).testBit a.1)&&(!b.2||(!((ops.getD a.1 default).looksAt ops).contains (eJ ops b.1)&&(ops.getD a.1 default).dst != some (eJ ops b.1)))
def ark(ops:Array Oper)(e:Nat×Bool):Bool :=
 decide (e.1<ops.size)&&(if e.2 then(ops.getD e.1 default).guard.isNone&&(ops.getD e.1 default).dst.isSome&&(ops.getD e.1 default).op.operands.isEmpty else agA (ops.getD e.1 default).op&&wS (ops.getD e.1 default).op)
def ak7(ops:Array Oper)(bs:List Nat):List (Nat×Bool)->Bool
 | []=>true
 |a::r=>r.all (aq4 ops bs a)&&ak7 ops bs r
def axm(ops:Array Oper)(D:Array Bool)(l:List (Nat×Bool)):Bool :=
 D.size==ops.size&&(cN ops.size).all (fun i=>(D.getD i false != l.any (·.1==i))&&(kh (ops.getD i default)).all (fun j=>decide (j<i)&&(!D.getD i false||D.getD j false)))&&l.all (ark ops)&&ak7 ops (bef ops.toList []) l
def shut(ops:Array Oper)(D:Array Bool):Prop:=∀(i:Nat) (o:Oper),ops[i]?=some o->D.getD i false=true->∀j∈kh o,D.getD j false=true
theorem aF1{D:Array Bool}(hD:shut ops D){j i:Nat}(h:oa ops j i)(hi:D.getD i false=true):D.getD j false=true:=by
 induction h with
 |one ho hj=>exact hD _ _ ho hi _ hj
 |step h ho hk ih=>exact ih (hD _ _ ho hi _ hk)
theorem amh{D:Array Bool}{i j:Nat}(hi:i<D.size):(D.setIfInBounds i true).getD j false=(if j=i then true else D.getD j false):=by
 by_cases h:j=i
 ·subst h;rw[if_pos rfl,dQ,Array.getElem?_setIfInBounds_self_of_lt hi];rfl
 rw[if_neg h,dQ,Array.getElem?_setIfInBounds_ne (Ne.symm h),<-dQ]
structure aa0 (P:Program) (ops:Array Oper) (K:St->Prop) (l:List qC) (E:List (Nat×LV×aV)) (D:Array Bool) (Lt Lr:St):Prop where
 pr:l.Pairwise fun a b=>a.1≠b.1/\(b.2=none->oa ops a.1 b.1)/\(b.2.isSome=true->eJ ops b.1∉(ops.getD a.1 default).looksAt ops/\(ops.getD a.1 default).dst≠some (eJ ops b.1))
 en:∀e∈l,e.1<ops.size/\(e.2=none->agA (ops.getD e.1 default).op=true/\wS (ops.getD e.1 default).op=true)
 lt:∀e∈l,∀v x,e.2=some (v,x)->(ops.getD e.1 default).guard=none/\(ops.getD e.1 default).dst=some (eJ ops e.1)/\(ops.getD e.1 default).op.operands=#[]/\dV P (fun _=>.any) (eJ ops e.1) (ops.getD e.1 default).op v x /\
  ∀c,c≠eJ ops e.1->v.kill c=v/\bC c x.vals=x.vals
 bk:∀(i:Nat) (o:Oper),ops[i]?=some o->∀j∈kh o,j<i
 sz:D.size=ops.size
 cl:shut ops D
 hE:∀e∈E,(e.1,some e.2)∈l
 nE:(E.map fun e=>eJ ops e.1).Nodup
 hD:∀i,i<ops.size->(D.getD i false=true↔(∀e∈l,e.1≠i)\/∃e∈E,e.1=i)
 eq:Lr=ac8 ops Lt E
 hL:aaC P ops l Lt K
theorem alH{i:Nat}{o:Oper}(h:ops[i]?=some o):ops.getD i default=o:=by rw[dQ,h];rfl
theorem aLR{l:List qC}(h:l.Pairwise fun a b=>a.1≠b.1):∀a∈l,∀b∈l,a.1=b.1->a=b:=by
 induction l with
 |nil=>intro a ha;cases ha
 |cons c r ih =>
  have h':=akC.1 h;intro a ha b hb cm;rcases dS.1 ha with q1|q1<;>rcases dS.1 hb with q2|q2
  ·rw[q1,q2]
  ·exact absurd (q1▸cm) (h'.1 b q2)
  ·exact absurd (q2▸cm.symm) (h'.1 a q1)
  exact ih h'.2 a q1 b q2 cm
theorem aa0.inj{K:St->Prop}{l:List qC}{E:List (Nat×LV×aV)}{D:Array Bool}{Lt Lr:St}(R:aa0 P ops K l E D Lt Lr):∀a∈l,∀b∈l,a.1=b.1->a=b:=aLR (R.pr.imp fun h=>h.1)
theorem aLp{l:List qC}(pr:l.Pairwise fun a b=>b.2.isSome=true->(ops.getD a.1 default).dst≠some (eJ ops b.1))(lt:∀e∈l,∀v x,e.2=some (v,x)->(ops.getD e.1 default).dst=some (eJ ops e.1)):
  ∀a∈l,∀b∈l,a.2.isSome=true->b.2.isSome=true->eJ ops a.1=eJ ops b.1->a.1=b.1:=by
 induction l with
 |nil=>intro a ha;cases ha
 |cons c r ih =>
  have h':=akC.1 pr;have key:∀b∈r,c.2.isSome=true->b.2.isSome=true->eJ ops c.1≠eJ ops b.1:=fun b hb hc uj q=>by
   obtain⟨⟨v,x⟩,hc⟩:=ayg.1 hc;exact h'.1 b hb uj (by rw[lt c su v x hc,q])
  intro a ha b hb s1 s2 cm;rcases dS.1 ha with q1|q1<;>rcases dS.1 hb with q2|q2
  ·rw[q1,q2]
  ·subst q1;exact absurd cm (key b q2 s1 s2)
  ·subst q2;exact absurd cm.symm (key a q1 s2 s1)
  exact ih h'.2 (fun e he=>lt e (vC _ he)) a q1 b q2 s1 s2 cm
theorem aa0.anA{K:St->Prop}{l:List qC}{E:List (Nat×LV×aV)}{D:Array Bool}{Lt Lr:St}(R:aa0 P ops K l E D Lt Lr):∀a∈l,∀b∈l,a.2.isSome=true->b.2.isSome=true->eJ ops a.1=eJ ops b.1->a.1=b.1 :=
 aLp (R.pr.imp fun h q=>(h.2.2 q).2) fun e he v x hx=>(R.lt e he v x hx).2.1
theorem ayj:∀{E:List (Nat×LV×aV)},(E.map fun e=>eJ ops e.1).Nodup->∀a∈E,∀b∈E,eJ ops a.1=eJ ops b.1->a=b
 | [],_,a,ha,_,_,_=>by cases ha
 |c::r,h,a,ha,b,hb,cm=>by
  have h':=aih.1 h;rcases dS.1 ha with q1|q1<;>rcases dS.1 hb with q2|q2
  ·rw[q1,q2]
  ·subst q1;exact absurd (cZ.2 ⟨b,q2,cm.symm⟩) h'.1
  ·subst q2;exact absurd (cZ.2 ⟨a,q1,cm⟩) h'.1
  exact ayj h'.2 a q1 b q2 cm
theorem aa0.adv{K:St->Prop}{i:Nat}{v:LV}{x:aV}{rest:List qC}{E:List (Nat×LV×aV)}{D:Array Bool}{Lt Lr:St}(R:aa0 P ops K ((i,some (v,x))::rest) E D Lt Lr)(hi:∃e∈E,e.1=i):
  ∃E',E.length=E'.length+1/\aa0 P ops K rest E' D (Lt.more (eJ ops i) v x) Lr:=by
 have inj:=R.inj;obtain⟨pr,en,lt,bk,sz,cl,hE,nE,hD,eq,hL⟩:=R;obtain⟨e,he,hei⟩:=hi;have h1:=inj _ (hE e he) _ su hei;have he':(i,v,x)∈E:=by
  have h2:e=(i,v,x):=by
   obtain⟨a,b,c⟩:=e;simp only[xw,gj]at h1;simp only[xw];exact h1
  rw[<-h2];exact he
 obtain⟨s,t,rfl⟩:=aCO he';have hp:(s++(i,v,x)::t).Perm ((i,v,x)::(s++t)):=List.perm_middle;have tq:(s++(i,v,x)::t).Perm ((s++t)++[(i,v,x)]):=hp.trans (List.perm_append_comm (l₁:=[(i,v,x)]));have hd:∀a∈s++(i,v,x)::t,∀b∈s++(i,v,x)::t,eJ ops a.1=eJ ops b.1->a=b:=ayj nE;have hn:((s++t).map fun e=>eJ ops e.1).Nodup/\∀e∈s++t,eJ ops e.1≠eJ ops i:=by
  have:=(hp.map fun e=>eJ ops e.1).nodup_iff.1 nE;have h4:=aih.1 this;exact⟨h4.2,fun e h q=>h4.1 (cZ.2 ⟨e,h,q⟩)⟩
 have uT:∀e∈s++t,e∈s++(i,v,x)::t:=fun e h=>hp.mem_iff.2 (vC _ h);have h':=akC.1 pr;refine⟨s++t,by rw[hp.length_eq];rfl,⟨h'.2,fun e h=>en e (vC _ h),fun e h=>lt e (vC _ h),bk,sz,cl,fun e h=>?_,hn.1,fun j hj=>?_,?_,hL.2.2⟩⟩
 ·rcases dS.1 (hE e (uT e h))with q|q
  ·simp only[xw]at q;exact absurd (by rw[q.1]) (hn.2 e h)
  exact q
 ·rw[hD j hj];constructor
  ·rintro(q|⟨e,h1,h2⟩)
   ·exact .inl fun e h=>q e (vC _ h)
   by_cases kD:j=i
   ·exact .inl fun e h q=>(h'.1 e h).1 (by rw[q,kD])
   refine .inr ⟨e,?_,h2⟩;rcases dS.1 (hp.mem_iff.1 h1)with q|q
   ·exact absurd (by rw[<-h2,q]) kD
   exact q
  rintro(q|⟨e,h1,h2⟩)
  ·by_cases kD:j=i
   ·exact .inr ⟨(i,v,x),he',kD.symm⟩
   refine .inl fun e h q2=>?_;rcases dS.1 h with r|r
   ·exact kD (by rw[<-q2,r])
   exact q e r q2
  exact .inr ⟨e,uT e h1,h2⟩
 rw[eq,aKn tq hd];unfold ac8;rw[List.foldr_append];rfl
theorem azi:∀(a b:List Nat),a.Nodup->(∀x∈a,x∈b)->a.length<=b.length
 | [],b,_,_=>bW _
 |x::a,b,hn,h=>by
  obtain⟨s,t,rfl⟩:=aCO (h x su);have hn':=aih.1 hn;have:=azi a (s++t) hn'.2 fun y hy=>by
   have:=h y (vC _ hy);have aZ:y≠x:=fun q=>hn'.1 (q▸hy);simp only[nC,dS]at this ⊢;rcases this with q|q|q
   ·exact .inl q
   ·exact absurd q aZ
   exact .inr q
  simp only[jx,dR]at this ⊢;omega
theorem auI{hd:qC}{rest:List qC}{E:List (Nat×LV×aV)}(hE:∀e∈E,(e.1,some e.2)∈hd::rest)(nE:(E.map fun e=>eJ ops e.1).Nodup)(hi:¬∃e∈E,e.1=hd.1):E.length<=rest.length:=by
 have h1:(E.map (·.1)).Nodup:=aq0.2 ((aq0.1 nE).imp fun h q=>h (by rw[q]));have:=azi (E.map (·.1)) (rest.map (·.1)) h1 fun y hy=>by
  obtain⟨e,he,rfl⟩:=cZ.1 hy;rcases dS.1 (hE e he)with q|q
  ·exact absurd ⟨e,he,by rw[<-q]⟩ hi
  exact cZ.2 ⟨_,q,rfl⟩
 simpa using this
theorem aCq{D:Array Bool}{j:Nat}{o:Oper}(hs:D.size=ops.size)(hD:shut ops D)(ho:ops[j]?=some o)(h3:∀k∈kh o,D.getD k false=true):shut ops (D.setIfInBounds j true):=by
 have hj:j<D.size:=by rw[hs];exact(lX.1 ho).1
 intro i o' ki hi k hk;rw[amh hj];split
 ·rfl
 rw[amh hj]at hi;split at hi
 ·rename_i q;subst q;rw[ho]at ki;cases ki;exact h3 k hk
 exact hD i o' ki hi k hk
theorem awe{K:St->Prop}(n:Nat)(hd:qC)(rest:List qC)(E:List (Nat×LV×aV))(D:Array Bool)(Lt Lr:St)(R:aa0 P ops K (hd::rest) E D Lt Lr)(hn:(hd::rest).length<=n+1+E.length)(hi:¬∃e∈E,e.1=hd.1)
  (ih:∀(l:List qC) (E:List (Nat×LV×aV)) (D:Array Bool) (Lt Lr:St),aa0 P ops K l E D Lt Lr->l.length<=n+E.length->jA P ops n D Lr K):jA P ops (n+1) D Lr K:=by
 have auY:¬D.getD hd.1 false=true:=fun q=>by
  rcases(R.hD hd.1 (R.en hd su).1).1 q with r|r
  ·exact r hd su rfl
  exact hi r
 refine⟨fun hr=>?_,fun j hj=>?_⟩
 ·exfalso;have fM:∀i,i<ops.size->D.getD i false=true:=by
   intro i
   induction i using Nat.strongRecOn with
   |_ i ih =>
    intro hi
    cases h:D.getD i false with
    |true=>rfl
    |false =>
     have:i∈Region.ready .any ops D:=(pV R.sz).2 ⟨ops[i],oX hi,by rw[tO (by rw[R.sz];exact hi) true false];exact h,fun j hj=>by
      have:=R.bk i _ (oX hi) j hj;exact ih j this J⟩
     rw[hr]at this;cases this
  exact auY (fM _ (R.en hd su).1)
 obtain⟨o,h1,h2,h3⟩:=(pV R.sz).1 hj;have hjs:=(lX.1 h1).1;have hjD:j<D.size:=by rw[R.sz];exact hjs
 have vV:¬D.getD j false=true:=fun q=>by rw[tO hjD false true,h2]at q;cases q
 have mJ:∃e∈hd::rest,e.1=j:=rE fun q=>vV ((R.hD j hjs).2 (.inl fun e he r=>q ⟨e,he,r⟩));have hnE:¬∃e∈E,e.1=j:=fun q=>vV ((R.hD j hjs).2 (.inr q));have inj:=R.inj;have anA:=R.anA;obtain⟨⟨j',t⟩,aik,hq⟩:=mJ;obtain rfl:j=j':=hq.symm;have eo:=alH h1;obtain⟨pr,en,lt,bk,sz,cl,hE,nE,hD,eq,hL⟩:=R;have h':=akC.1 pr
 cases t with
 |none =>
  have hhd:(j,none)=hd:=by
   rcases dS.1 aik with q|q
   ·exact q
   exfalso;have oP:=(h'.1 _ q).2.1 rfl;refine auY ?_
   cases oP with
   |one ho hj'=>exact h3 _ (by rw[h1]at ho;cases ho;exact hj')
   |step ha ho hk=>exact aF1 cl ha (h3 _ (by rw[h1]at ho;cases ho;exact hk))
  subst hhd;obtain⟨hh,o',L',ki,hs,ahk⟩:=hL;rw[h1]at ki;cases ki;have hEr:∀e∈E,(e.1,some e.2)∈rest:=fun e he=>by
   rcases dS.1 (hE e he)with q|q
   ·simp only[xw]at q;cases q.2
   exact q
  obtain⟨e1,e2⟩:=(en _ su).2 rfl;rw[eo]at e1 e2;refine⟨o,ac8 ops L' E,h1,eq▸(asW e1 e2 hs E (fun e he=>?_) nE).aLg,ih rest E _ L' _ ⟨h'.2,fun e h=>en e (vC _ h),fun e h=>lt e (vC _ h),bk,by simpa using sz,aCq sz cl h1 h3,hEr,nE,fun i qW=>?_,rfl,ahk⟩ (by simp only[dR]at hn;omega)⟩
  ·have q:=hEr e he;obtain⟨_,_,q3⟩:=h'.1 _ q;obtain⟨q3,q4⟩:=q3 rfl;rw[eo]at q3 q4;exact⟨q3,q4,hh _ q rfl,aAD ahk _ q rfl,(lt _ (vC _ q) _ _ rfl).2.2.2.2⟩
  rw[amh hjD];split
  ·rename_i q;subst q;exact⟨fun _=>.inl fun e he r=>(h'.1 e he).1 r.symm,fun _=>rfl⟩
  rename_i q;rw[hD i qW];constructor
  ·rintro(r|r)
   ·exact .inl fun e he=>r e (vC _ he)
   exact .inr r
  rintro(r|r)
  ·refine .inl fun e he s=>?_;rcases dS.1 he with w|w
   ·rw[w]at s;exact q s.symm
   exact r e w s
  exact .inr r
 |some vx =>
  obtain⟨v,x⟩:=vx;obtain⟨g1,g2,g3,g4,g5⟩:=lt _ aik v x rfl;simp only at g1 g2 g3 g4 g5;rw[eo]at g1 g2 g3 g4;have hdE:∀e∈E,eJ ops j≠eJ ops e.1:=fun e he q=>hnE ⟨e,he,(anA _ aik _ (hE e he) rfl rfl q).symm⟩;have aCh:Lr.heap (eJ ops j)=none:=by rw[eq,amn hdE];exact aAD hL _ aik rfl
  refine⟨o,Lr.more (eJ ops j) v x,h1,?_,ih (hd::rest) ((j,v,x)::E) _ Lt _ ⟨pr,en,lt,bk,by simpa using sz,aCq sz cl h1 h3,fun e he=>?_,?_,fun i qW=>?_,by rw[eq];rfl,hL⟩ (by simp only[dR]at hn ⊢;omega)⟩
  ·refine .val (r:=v) (fr:=[(eJ ops j,x)]) (H1:=(Lr.more (eJ ops j) v x).heap) (by unfold eg;rw[g1]) (fun c blk hc=>?_) (fun b blk hb=>?_) ?_ ?_
   ·have:c≠eJ ops j:=fun q=>by rw[q,aCh]at hc;cases hc
    exact⟨blk.mt,by rw[aar this];exact hc,fun h=>h,fun h1 h2=>by rw[h1]at h2;cases h2⟩
   ·simp only[iM,xw]at hb;obtain⟨rfl,rfl⟩:=hb;refine⟨aCh,blk.mt,?_,fun h=>h⟩;show (if eJ ops j=eJ ops j then some blk else _)=_;rw[if_pos rfl]
   ·rw[g2];exact .alloc (g4.aek fun y hy=>by rw[g3]at hy;simp at hy)
   rw[g2];rfl
  ·rcases dS.1 he with q|q
   ·rw[q];exact aik
   exact hE e q
  ·rw[nK];exact aih.2 ⟨fun q=>by obtain⟨e,he,r⟩:=cZ.1 q;exact hdE e he r.symm,nE⟩
  rw[amh hjD];split
  ·rename_i q;subst q;exact⟨fun _=>.inr ⟨_,su,rfl⟩,fun _=>rfl⟩
  rename_i q;rw[hD i qW];constructor
  ·rintro(r|⟨e,he,r⟩)
   ·exact .inl r
   exact .inr ⟨e,vC _ he,r⟩
  rintro(r|⟨e,he,r⟩)
  ·exact .inl r
  rcases dS.1 he with w|w
  ·rw[w]at r;exact absurd r.symm q
  exact .inr ⟨e,w,r⟩
theorem alF{K:St->Prop}:∀(n:Nat) (l:List qC) (E:List (Nat×LV×aV)) (D:Array Bool) (Lt Lr:St),aa0 P ops K l E D Lt Lr->l.length<=n+E.length->jA P ops n D Lr K
 |n,[],E,D,Lt,Lr,R,hn=>by
  have hE0:E=[]:=by cases hE:E with|nil=>rfl|cons e r=>have:=R.hE e (by rw[hE];exact su);cases this
  have hr:Region.ready .any ops D=[]:=by
   refine List.eq_nil_iff_forall_not_mem.2 fun i hi=>?_;obtain⟨o,h1,h2,_⟩:=(pV R.sz).1 hi;have bV:=(lX.1 h1).1;have:=(R.hD i bV).2 (.inl fun e he=>by cases he);rw[tO (by rw[R.sz];exact bV) false true,h2]at this;cases this
  have hK:K Lr:=by have h1:=R.eq;have h2:=R.hL;subst hE0;rw[h1];exact h2
  cases n with
  |zero=>exact⟨hr,hK⟩
  |succ n=>exact⟨fun _=>hK,fun i hi=>by rw[hr]at hi;cases hi⟩
 |n,(i,some (v,x))::rest,E,D,Lt,Lr,R,hn=>by
  by_cases hi:∃e∈E,e.1=i
  ·obtain⟨E',hl,R'⟩:=R.adv hi;exact alF n rest E' D _ Lr R' (by simp only[dR]at hn;omega)
  cases n with
  |zero =>
   exfalso;have:E.length<=rest.length:=auI R.hE R.nE hi;simp only[dR]at hn;omega
  |succ n=>exact awe n _ rest E D Lt Lr R hn hi fun l E D Lt Lr R hn=>alF n l E D Lt Lr R hn
 |n,(i,none)::rest,E,D,Lt,Lr,R,hn=>by
  have hi:¬∃e∈E,e.1=i:=fun⟨e,he,q⟩=>by
   have:=R.inj _ (R.hE e he) _ su q;simp only[xw]at this
   cases this.2
  cases n with
  |zero =>
   exfalso;have:E.length<=rest.length:=auI R.hE R.nE hi;simp only[dR]at hn;omega
  |succ n=>exact awe n _ rest E D Lt Lr R hn hi fun l E D Lt Lr R hn=>alF n l E D Lt Lr R hn
def abN(P:Program)(ops:Array Oper):List qC->Prop
 | []=>True
 |(_,none)::r=>abN P ops r
 |(i,some (v,x))::r=>dV P (fun _=>.any) (eJ ops i) (ops.getD i default).op v x/\(∀c,c≠eJ ops i->v.kill c=v/\bC c x.vals=x.vals)/\abN P ops r
theorem apm:∀{l:List qC},abN P ops l->∀e∈l,∀v x,e.2=some (v,x)->dV P (fun _=>.any) (eJ ops e.1) (ops.getD e.1 default).op v x/\∀c,c≠eJ ops e.1->v.kill c=v/\bC c x.vals=x.vals
 | [],_,e,he,_,_,_=>by cases he
 |(_,none)::r,h,e,he,v,x,hx=>by
  rcases dS.1 he with q|q
  ·subst q;cases hx
  exact apm (l:=r) h e q v x hx
 |(i,some (v',x'))::r,h,e,he,v,x,hx=>by
  rcases dS.1 he with q|q
  ·subst q;cases hx;exact⟨h.1,h.2.1⟩
  exact apm h.2.2 e q v x hx
theorem aDe{bs:List Nat}:∀{l:List (Nat×Bool)},ak7 ops bs l=true->l.Pairwise fun a b=>aq4 ops bs a b=true
 | [],_=>.nil
 |a::r,h=>by
  unfold ak7 at h;rw[jS]at h;exact .cons (nU.1 h.1) (aDe h.2)
theorem aND{K:St->Prop}{D:Array Bool}{L:St}{n:Nat}(l:List qC)(fe:axm ops D (l.map fun e=>(e.1,e.2.isSome))=true)(hA:abN P ops l)(hn:l.length<=n)(h:aaC P ops l L K):jA P ops n D L K:=by
 unfold axm at fe;simp only[jS,beq_iff_eq,nU,List.mem_range,decide_eq_true_eq,apo,bne_iff_ne,ne_eq,List.all_map,aqn]at fe;obtain⟨⟨⟨h1,h2⟩,h3⟩,h4⟩:=fe;have oP:=aeM ops ops.toList [] (fun i=>by simp) (fun i t h=>by simp at h);have hA':=apm hA;refine alF n l [] D L L ⟨?_,fun e he=>?_,fun e he v x hx=>?_,fun i o ho j hj=>?_,h1,fun i o ho hi j hj=>?_,(fun e he=>by cases he),.nil,fun i hi=>?_,rfl,h⟩ (by simpa using hn)
 ·refine(aq0.1 (aDe h4)).imp fun {a b} q=>?_;unfold aq4 at q;simp only[jS,bne_iff_ne,ne_eq,Bool.or_eq_true,Bool.not_eq_true']at q;obtain⟨⟨q1,q2⟩,q3⟩:=q;refine⟨q1,fun hb=>?_,fun hb=>?_⟩
  ·rw[hb]at q2;rcases q2 with r|r
   ·cases r
   exact oP _ _ r
  rw[hb]at q3;rcases q3 with r|r
  ·cases r
  exact⟨(fun hm=>by rw[List.contains_iff_mem.2 hm]at r;cases r.1),r.2⟩
 ·have:=h3 e he;unfold ark at this;simp only[jS,decide_eq_true_eq]at this;refine⟨this.1,fun q=>?_⟩;have h5:=this.2;rw[q]at h5;simpa using h5
 ·have:=h3 e he;unfold ark at this;simp only[jS,decide_eq_true_eq]at this;have h5:=this.2;rw[hx]at h5;simp only[Option.isSome_some,if_true,jS,Option.isNone_iff_eq_none,Array.isEmpty_iff]at h5;obtain⟨⟨a1,a2⟩,a3⟩:=h5;refine⟨a1,?_,a3,hA' e he v x hx⟩;unfold eJ;obtain⟨d,hd⟩:=ayg.1 a2;rw[hd];rfl
 ·have:=(h2 i (lX.1 ho).1).2 j (by rw[alH ho];exact hj);exact this.1
 ·have:=(h2 i (lX.1 ho).1).2 j (by rw[alH ho];exact hj);rw[hi]at this;simpa using this.2
 have:=(h2 i hi).1;constructor
 ·intro q;refine .inl fun e he r=>this ?_;rw[q];symm;simp only[azh,apo,aqn,beq_iff_eq];exact⟨e,he,r⟩
 rintro(q|⟨e,he,_⟩)
 ·cases hd:D.getD i false with
  |true=>rfl
  |false =>
   exfalso;refine this ?_;rw[hd];symm;simp only[azh,atO,aqn,beq_iff_eq];exact fun e he=>q e he
 cases he
section
variable {K:St->Prop} {L:St} {rest:List qC} {n:Nat}
theorem aiv{i:Nat}{o:Oper}(ho:ops[i]?=some o)(hb:(rest.all fun e=>!e.2.isSome||(L.heap (eJ ops e.1)).isNone)=true)(h:opsL P true ops [o] L (fun L'=>aaC P ops rest L' K)):aaC P ops ((i,none)::rest) L K:=by
 refine⟨fun e he hs=>?_,?_⟩
 ·have:=nU.1 hb e he;rw[hs]at this;simpa using this
 obtain⟨L',h1,h2⟩:=h;exact⟨o,L',ho,h1,h2⟩
theorem akp{i d:Nat}{v:LV}{x:aV}(hd:eJ ops i=d)(hb:(rest.all fun e=>!e.2.isSome||(L.heap (eJ ops e.1)).isNone)=true)(h0:L.heap d=none)(h:aaC P ops rest ((L.bO d (some x)).put (some d) v) K):aaC P ops ((i,some (v,x))::rest) L K:=by
 subst hd;refine⟨h0,fun e he hs=>?_,h⟩;have:=nU.1 hb e he;rw[hs]at this;simpa using this
theorem aGZ(k:K L):aaC P ops [] L K:=k
theorem laZ:abN P ops []:=trivial
theorem laO{i:Nat}{r:List qC}(h:abN P ops r):abN P ops ((i,none)::r):=h
theorem laN{i d:Nat}{v:LV}{x:aV}{r:List qC}{o:Oper}(ho:ops[i]?=some o)(hd:eJ ops i=d)(h:dV P (fun _=>.any) d o.op v x)(hk:∀c,c≠d->v.kill c=v/\bC c x.vals=x.vals)(hr:abN P ops r):abN P ops ((i,some (v,x))::r):=by
 subst hd;refine⟨?_,hk,hr⟩;rw[alH ho];exact h
theorem amQ{d sz off n c:Nat}(h:c≠d):(LV.ref d sz off n).kill c=.ref d sz off n:=by simp only[LV.kill];rw[if_neg (Ne.symm h)]
theorem aE0{d sz i o c:Nat}(h:c≠d):(LV.aB d sz i o).kill c=.aB d sz i o:=by simp only[LV.kill];rw[if_neg (Ne.symm h)]
end
end
end Go.Lg
end
section
set_option linter.unusedVariables false
set_option linter.unusedSimpArgs false
set_option maxHeartbeats 8000000
set_option maxRecDepth 100000
attribute [local irreducible] Go.Lg.opsL Go.Lg.c9 Go.Lg.oF Go.Lg.qF
namespace Go.Proofs.YtbkmfcmgilhaaaaGreat
open Go.Lg
namespace arN
theorem aJ{p q:Prop}(k:q)(e:p=q:=by simp only[bD,bo,bp,bh,w9,abh,aio,aiD,nm,ma,hnR,hnB,hnC,hnD,dD,du,dC,reduceIte,if_true,if_false,dW,LV.kill,bC];exact rfl):p:=e.mpr k
end arN
open arN in
theorem aKB(l:List Int)(i j v:Int)(k1 k2 k3:Nat)(d e:Nat)(k m:List Rat)(po pq pf:List aF)(a b a' b' t u:Rat)(P Q:V3)(gz:0<k.length)(hk9:k.length<=1000)(vR:0<m.length)(hm9:m.length<=1000)(ha:k.getD 0 0=a)(hb:k.getD (k.length-1) 0=b)(ha':m.getD 0 0=a')(rM:m.getD (m.length-1) 0=b')(hNx:pe ai 16 ⟨2,[jL l 0],true⟩ [.aB 0 2 0 0,iL 5] (iL v) ⟨2,[jL l k1],true⟩)(hC1:pe ai 17 ⟨2,[jL l k1],true⟩ [.aB 0 2 0 0,iL 3,iL 1,bL true] (.agg [ah d,.list 3 (k.map ae),.list 12 (po.map aA)]) ⟨2,[jL l k2],true⟩)(hC2:zo ai 17 ⟨2,[jL l k2],true⟩ ⟨12,[],true⟩ [.aB 0 2 0 0,iL 3,iL 1,bL true] (.agg [ah e,.list 3 (m.map ae),.ref 1 12 0 pq.length]) ⟨2,[jL l k3],true⟩ [⟨12,pq.map aA,true⟩,⟨3,[.agg [ah e,.list 3 (m.map ae),.ref 1 12 0 pq.length]],true⟩])(hW1:an ai 18 [ar (a,b),iL i] (ae t))(hW2:an ai 18 [ar (a',b'),iL j] (ae u))(zx:an ai 20 [.agg [ah d,.list 3 (k.map ae),.list 12 (po.map aA)],ae t] (.aY [aR P,iL 0]))(w7:an ai 20 [.agg [ah e,.list 3 (m.map ae),.list 12 (pq.map aA)],ae u] (.aY [aR Q,iL 0]))(hSh:an ai 22 [aR Q,aR P] (fT (vq (rk P Q))))(hMv:mW ai 21 [.agg [ah e,.list 3 (m.map ae),.list 12 (pq.map aA)],fT (vq (rk P Q))] (.agg [ah e,.list 3 (m.map ae),.ref 1 12 0 pq.length]) [⟨12,(pq.map (vw (vq (rk P Q)))).map aA,true⟩])(hl0:0<pq.length)(hV1:v > 0->pf=(pq.map (vw (vq (rk P Q)))))(hV2:¬v > 0->pf=pq):mW ai 6 [.list 1 (l.map eE),iL i,iL j] (.aY [.agg [ah d,.list 3 (k.map ae),.list 12 (po.map aA)],.agg [ah e,.list 3 (m.map ae),.ref 1 12 0 pq.length],ae t,ae u,bL (decide (v > 0))]) [⟨12,pf.map aA,true⟩]:=by
 have dZ:LV.pure (.agg [ah d,.list 3 (k.map ae),.list 12 (po.map aA)])=true:=by simp[LV.pure,aO,bm ao,bm ez,-tI]
 have tW:LV.pure (.agg [ah e,.list 3 (m.map ae),.list 12 (pq.map aA)])=true:=by simp[LV.pure,aO,bm ao,bm ez,-tI]
 have xy:=eY ao 3 m;have nm:kY 1000353 29 1=1000465:=rfl;have ma:kY 1000353 29 2=1000466:=rfl;have hnR:(LV.agg [ah e,.list 3 (m.map ae),.ref 1 12 0 pq.length]).b8 (kY 1000353 29)=.agg [ah e,.list 3 (m.map ae),.ref 1000465 12 0 pq.length]:=by
  simp only[LV.b8,dL,my _ _ (bm ao m)];rfl
 have hnM:(LV.agg [ah e,.list 3 (m.map ae),.ref 1 12 0 pq.length]).b8 (dv 55)=.agg [ah e,.list 3 (m.map ae),.ref 1000881 12 0 pq.length]:=by
  simp only[LV.b8,dL,my _ _ (bm ao m)];rfl
 have hnB:dL (kY 1000353 29) (pq.map aA)=pq.map aA:=my _ _ (bm ez _);have hnC:dL (kY 1000353 29) [.agg [ah e,.list 3 (m.map ae),.ref 1 12 0 pq.length]]=[.agg [ah e,.list 3 (m.map ae),.ref 1000465 12 0 pq.length]]:=by rw[show dL (kY 1000353 29) [.agg [ah e,.list 3 (m.map ae),.ref 1 12 0 pq.length]]=[(LV.agg [ah e,.list 3 (m.map ae),.ref 1 12 0 pq.length]).b8 (kY 1000353 29)] from rfl,hnR]
 have hnD:∀q,dL (kY 1000353 29) [jL l q]=[jL l q]:=fun q=>my _ _ (gC l q);refine zi Tryz.func6 ?_;refine bG ?_;refine wU [] rfl rfl (.cons eu .nil) (aGh l) (gC l 0) rfl ?_;refine a6 ?_;refine ub 1000353 rfl rfl rfl (gC l _) (.cons .ptr (.cons (.dH (.pure rfl)) .nil)) .ptr hNx rfl (gC l _) rfl ?_;refine aW ?_;refine aOs 3 (au.qy _ 77 12 rfl) ?_;simp only[qS,tn];refine bn ?_;refine ub 1000353 rfl rfl rfl (gC l _) (.cons .ptr (.cons (.dH (.pure rfl)) (.cons (.dH (.pure rfl)) (.cons (.dH (.pure rfl)) .nil)))) .ptr hC1 rfl (gC l _) dZ ?_;refine bn ?_;refine aJ ?_;refine aNp rfl (an8 (f:=17) (b:=1000353) (c:=77) (sz:=2) (csz:=12) (vals:=[jL l k2]) (cvals:=[]) 29 rfl aj aj (by rw[my _ _ (gC l _)];rfl) rfl (.cons (.b8 (y:=.aB 0 2 0 0) ⟨by simp,by simp⟩) (.cons (.dH (.pure rfl)) (.cons (.dH (.pure rfl)) (.cons (.dH (.pure rfl)) .nil)))) .ptr hC2 aE (fun kk wH=>aBE aqi)) ?_;simp only[vk,nm,ma,hnR,hnB,hnC,hnD]
 try refine aJ ?_
 simp only[xr,jv];refine bK ?_;refine avJ 10 aG ((au.kill _ 1000466).trans (au.kill _ 1000353)) ?_;refine bf (aLM d k po a b gz hk9 ha hb) ?_;refine aN (hW1) ?_;refine aJ ?_;refine al rfl ahL ?_;refine aPk rfl rfl rfl xy (aIq e m a' b' vR hm9 ha' rM) ?_;refine aN (hW2) ?_;refine bG ?_;refine aD rfl ?_ ?_<;>intro abv h38
 ·obtain rfl:=hV1 h38;refine aN (zx) ?_;refine bM ?_;refine cO ((au.aoA 14 [1000465] rfl rfl (.agg (.cons (.pure rfl) (.cons (.pure xy) (.cons (da ez rfl rfl rfl) .nil))))).trans (au.kill _ 1000465)) ?_;refine aJ ?_;refine aN (w7) ?_;refine aN (hSh) ?_;refine wU [] rfl rfl (.cons (.pure tW) (.cons (.pure (fB.pure _)) .nil)) hMv (bm ez _) rfl ?_;rw[hnM];refine aK ?_;refine aAZ ?_;refine jy 1 5 _ _ aG rfl rfl ?_ ?_
  ·refine al rfl ahL ?_;refine iy ?_;refine ac4 ?_;refine agB ?_;refine pb aG ?_;refine bc ?_
   try refine aJ ?_
   exact atF
  refine eT ?_;refine di 1 _ aG rfl ?_;refine al rfl ahL ?_;refine iy ?_;refine di 6 _ aG rfl ?_;refine eT ?_;refine agB ?_;refine pb aG ?_;refine bc ?_
  try refine aJ ?_
  exact atF
 obtain rfl:=hV2 h38;refine bI ?_;refine aAZ ?_;refine jy 1 5 _ _ aG rfl rfl ?_ ?_
 ·refine al rfl ahL ?_;refine iy ?_;refine ac4 ?_;refine agB ?_;refine pb aG ?_;refine bc ?_
  try refine aJ ?_
  exact auj
 refine eT ?_;refine di 1 _ aG rfl ?_;refine al rfl ahL ?_;refine iy ?_;refine di 6 _ aG rfl ?_;refine eT ?_;refine agB ?_;refine pb aG ?_;refine bc ?_
 try refine aJ ?_
 exact auj
open fc in
theorem arK(s:Rat×Rat)(h1:rl s.1<=1000)(h2:rl s.2<=1000):an ai 113 [ar s] (ae (jO s)):=by
 have hM:=aNJ s.1 s.2 h1 h2;rw[ayA]at hM;refine aL Tryz.func113 ?_;refine aN (hM) ?_;refine aK ?_;exact fO
open fc in
theorem auf(s:Rat×Rat)(h1:rl s.1<=1000)(h2:rl s.2<=1000):an ai 121 [ar s] (.aY [ar (oY s),ar (qA s)]):=by
 refine aL Tryz.func121 (ht:=(iz (bj.pure _) (bj.pure _))) ?_;refine bf (arK s h1 h2) ?_;refine aW ?_;refine ace rfl 8 2 [4,5,6,7] aG rfl ?_;simp only[qS,tn,bD,bo,bp,bh,bh7,dh1,dh2,dh3];refine bH ?_;refine abZ ?_;simp only[xr,jv];refine aW ?_;exact aes [] rfl rfl rfl (bj.aq _) (aca _) lF (.pure (bj.pure _)) rfl rfl (bj.aq _) (aca _) lF (.pure (bj.pure _))
open fc in
theorem aj2(s t:Rat×Rat)(R:Nat)(hR:R<=100000000)(hs:cW R s)(ht:cW R t)(hm:l6 s t=true):an ai 105 [ar s,ar t] (.aY [ar (fN s.1 t.1,gg s.2 t.2),bL true]):=by
 obtain⟨a1,a2⟩:=hs;obtain⟨y1,y2⟩:=ht;have hle:=of_decide_eq_true hm;have ri:rl (fN s.1 t.1)<=R:=by unfold fN;split<;>assumption
 have yG:rl (gg s.2 t.2)<=R:=by unfold gg;split<;>assumption
 have xW:¬fY (fN s.1 t.1) (gg s.2 t.2) > 0:=fun e=>by have:=qe.1 e;grind
 refine aL auW (ht:=(iz (bj.pure _) rfl)) ?_;refine aN (alp s.1 t.1 J) ?_;refine aN (alI s.2 t.2 J) ?_;refine aN (uf (fN s.1 t.1) (gg s.2 t.2) J) ?_;refine bI ?_;refine rA (b:=_) rfl (decide_eq_false xW) ?_;refine b7 ?_;exact ae2
open fc in
theorem amV(s t:Rat×Rat)(R:Nat)(hR:R<=100000000)(hs:cW R s)(ht:cW R t)(hm:l6 s t=false):an ai 105 [ar s,ar t] (.aY [ar (0,0),bL false]):=by
 obtain⟨a1,a2⟩:=hs;obtain⟨y1,y2⟩:=ht;have hle:=of_decide_eq_false hm;have ri:rl (fN s.1 t.1)<=R:=by unfold fN;split<;>assumption
 have yG:rl (gg s.2 t.2)<=R:=by unfold gg;split<;>assumption
 have xW:fY (fN s.1 t.1) (gg s.2 t.2) > 0:=qe.2 ba;refine aL auW (ht:=(iz (bj.pure _) rfl)) ?_;refine aN (alp s.1 t.1 J) ?_;refine aN (alI s.2 t.2 J) ?_;refine aN (uf (fN s.1 t.1) (gg s.2 t.2) J) ?_;refine bI ?_;refine qO (b:=_) rfl (decide_eq_true xW) ?_;refine bc ?_;refine al rfl (awX aiO yN) ?_;refine a6 ?_;exact ae2
open oS in
theorem aG6(a b:ny)(R:Nat)(hR:R<=100000000)(ha:lL R a)(hb:lL R b)(iw:l6 a.x b.x=true)(iX:l6 a.y b.y=true)(fC:l6 a.z b.z=true):an ai 41 [iq a,iq b] (bL true):=by
 obtain⟨a1,a2,a3⟩:=ha;obtain⟨y1,y2,y3⟩:=hb;refine aqg ?_;refine ad0 ?_;refine aN (aj2 a.y b.y R hR a2 y2 iX) ?_;refine acX ?_;refine aW ?_;refine ad0 ?_;refine aN (aj2 a.z b.z R hR a3 y3 fC) ?_;refine acX ?_;refine aW ?_;refine wq ?_;refine bN ?_;exact iB
open oS in
theorem aOX(a b:ny)(R:Nat)(hR:R<=100000000)(ha:lL R a)(hb:lL R b)(iw:l6 a.x b.x=true)(iX:l6 a.y b.y=true)(fC:l6 a.z b.z=false):an ai 41 [iq a,iq b] (bL false):=by
 obtain⟨a1,a2,a3⟩:=ha;obtain⟨y1,y2,y3⟩:=hb;refine aqg ?_;refine ad0 ?_;refine aN (aj2 a.y b.y R hR a2 y2 iX) ?_;refine acX ?_;refine aW ?_;refine ad0 ?_;refine aN (amV a.z b.z R hR a3 y3 fC) ?_;refine afa ?_;exact iB
open oS in
theorem aDr(a b:ny)(R:Nat)(hR:R<=100000000)(ha:lL R a)(hb:lL R b)(iw:l6 a.x b.x=true)(iX:l6 a.y b.y=false):an ai 41 [iq a,iq b] (bL false):=by
 obtain⟨a1,a2,a3⟩:=ha;obtain⟨y1,y2,y3⟩:=hb;refine aqg ?_;refine ad0 ?_;refine aN (amV a.y b.y R hR a2 y2 iX) ?_;refine afa ?_;exact iB
open oS in
theorem aFc(a b:ny)(R:Nat)(hR:R<=100000000)(ha:lL R a)(hb:lL R b)(iw:l6 a.x b.x=false):an ai 41 [iq a,iq b] (bL false):=by
 obtain⟨a1,a2,a3⟩:=ha;obtain⟨y1,y2,y3⟩:=hb;refine aL Tryz.func41 ?_;refine ff ?_;refine ad0 ?_;refine aN (amV a.x b.x R hR a1 y1 iw) ?_;refine afa ?_;exact iB
theorem aNZ(a b:ny)(R:Nat)(hR:R<=100000000)(ha:lL R a)(hb:lL R b):an ai 41 [iq a,iq b] (bL (meB a b)):=by
 unfold meB
 cases h0:l6 a.x b.x with
 |false=>exact aFc a b R hR ha hb h0
 |true =>
  cases h1:l6 a.y b.y with
  |false=>exact aDr a b R hR ha hb h0 h1
  |true =>
   cases h2:l6 a.z b.z with
   |false=>exact aOX a b R hR ha hb h0 h1 h2
   |true=>exact aG6 a b R hR ha hb h0 h1 h2
theorem abq(x:Rat):(cq x=1/\0<x)\/(cq x=0/\x=0)\/(cq x=-1/\x<0):=by
 unfold cq;by_cases h:x=0
 ·exact .inr (.inl ⟨if_pos h,h⟩)
 rw[if_neg h];by_cases g:x<0
 ·exact .inr (.inr ⟨if_pos g,g⟩)
 exact .inl ⟨if_neg g,by grind⟩
theorem aMv{s:Rat×Rat}(h:s.1<=s.2)(g:cq s.1 > 0):cq s.1=1/\cq s.2=1:=by
 rcases abq s.1 with⟨e,f⟩|⟨e,f⟩|⟨e,f⟩<;>rcases abq s.2 with⟨e',f'⟩|⟨e',f'⟩|⟨e',f'⟩<;>first|exact⟨e,e'⟩|(exfalso;grind)
theorem aHF{s:Rat×Rat}(h:s.1<=s.2)(g:cq s.2<0):cq s.1=-1/\cq s.2=-1:=by
 rcases abq s.1 with⟨e,f⟩|⟨e,f⟩|⟨e,f⟩<;>rcases abq s.2 with⟨e',f'⟩|⟨e',f'⟩|⟨e',f'⟩<;>first|exact⟨e,e'⟩|(exfalso;grind)
theorem avL{s:Rat×Rat}(g1:¬cq s.1 > 0)(g2:¬cq s.2<0):(cq s.1=cq s.2↔cq s.1=0/\cq s.2=0):=by
 constructor
 ·intro e;omega
 rintro⟨a,b⟩;omega
open fc in
theorem auv(s:Rat×Rat)(hle:s.1<=s.2):an ai 218 [ar s] (.aY [iL (if cq s.1=cq s.2 then cq s.1 else 0),bL (decide (cq s.1=cq s.2))]):=by
 have g1:=arj s.1;have g2:=arj s.2;refine aL Tryz.func218 (ht:=(iz rfl rfl)) ?_;refine bf (abw s.1) ?_;refine bf (abw s.2) ?_;refine bN ?_;refine aD rfl ?_ ?_<;>intro zu h13
 ·refine bH ?_;obtain⟨e1,e2⟩:=aMv hle J;rw[if_pos (e1.trans e2.symm),decide_eq_true (e1.trans e2.symm),e1];exact wc
 refine bM ?_;refine aD rfl ?_ ?_<;>intro rB n9
 ·refine bH ?_;obtain⟨e1,e2⟩:=aHF hle J;rw[if_pos (e1.trans e2.symm),decide_eq_true (e1.trans e2.symm),e1];exact wc
 refine bK ?_;refine dU 18 rfl ?_ ?_<;>intro re pR
 ·refine bH ?_;have e0:=avL (s:=s) J J;have e9:(if cq s.1=cq s.2 then cq s.1 else 0)=0:=by split<;>omega
  have e8:decide (cq s.1=cq s.2)=decide (cq s.2=0):=decide_eq_decide.2 ⟨fun h=>(e0.1 h).2,fun h=>by omega⟩;rw[e9,e8];exact wc
 refine bH ?_;have e0:=avL (s:=s) J J;have e9:(if cq s.1=cq s.2 then cq s.1 else 0)=0:=by split<;>omega
 have e8:decide (cq s.1=cq s.2)=false:=decide_eq_false fun h=>by omega
 rw[e9,e8];exact wc
open fc in
theorem aD4(s:Rat×Rat)(h1:rl s.1<=1000000000)(h2:rl s.2<=1000000000):an ai 110 [ar s] (bL (!ks s 0)):=by
 have r0:rl 0=1:=rfl;refine aL Tryz.func110 ?_;refine aN (afk s 0 J J) ?_;refine aW ?_;exact iB
open aeO in
theorem avX(d w:Nat)(wd:Rat)(hd:d<=24)(hw:w<=4096)(h0:0<=wd)(hr:rl wd<=100):an ai 35 [.agg [ah d,ah w,ae wd]] (bL true):=by
 have qY:=aAM wd J;have vE:=abw wd;have hp:LV.pure (.agg [ah d,ah w,ae wd])=true:=tA;have mr:cq wd>=0:=by rcases abq wd with⟨e,f⟩|⟨e,f⟩|⟨e,f⟩<;>first|omega|(exfalso;grind)
 refine aL Tryz.func35 ?_;refine bG ?_;refine agW ?_;refine aj4 ?_;rw[show decide (cq wd>=0)=true from decide_eq_true mr];exact .pure rfl
open am9 in
theorem amC(d:Nat)(kn:List Rat)(po:List aF)(hl:po.length<=1000)(hz:∀q∈po,q.p.z=0):an ai 36 [.agg [ah d,.list 3 (kn.map ae),.list 12 (po.map aA)]] (bL true):=by
 have dZ:LV.pure (.agg [ah d,.list 3 (kn.map ae),.list 12 (po.map aA)])=true:=eN;refine aL Tryz.func36 ?_;refine dj ?_;refine dy (fun(i:Nat) L=>(mS L [(1,⟨3,[.agg [ah d,.list 3 (kn.map ae),.list 12 (po.map aA)]],true⟩)] [(3,ah i),(1,.aB 1 3 0 0)])) (fun i=>i<=po.length) (fun i=>po.length-i) 0 (bW _) ?_;rintro i L1 hi;refine b7 ?_;refine aD rfl ?_ ?_<;>intro nX h8
 ·have cM:i<po.length:=J;have vH:=hz _ (qo cM);refine bf (abw (po.getD i default).p.z) ?_;refine bI ?_;refine rA (b:=_) rfl (by rw[vH];rfl) ?_;refine aW ?_;refine eP ?_;exact gM
 refine bN ?_;exact iB
open oS in
theorem aJr(p q r s:Rat×Rat)(R:Nat)(hR:R<=100000000)(hp9:cW R p)(hq9:cW R q)(hr9:cW R r)(hs9:cW R s):an ai 111 [.agg [.agg [ar p,ar q],.agg [ar r,ar s]]] (ar (tM p q r s)):=by
 have m1:=adY hp9 hs9;have m2:=adY hq9 hr9;refine aL Tryz.func111 (ht:=(fun r=>LV.db r _ (bj.pure _))) ?_;refine aN (af4 p s R J hp9 hs9) ?_;refine aN (af4 q r R J hq9 hr9) ?_;refine cp aC (awr (yU p s) (yU q r) (R+R) J m1 m2) ?_;refine aK ?_;exact mL
open anT in
theorem aCk(p:V3)(l:List V3)(R:Nat)(hR:R<=90000000)(vy:cG R p)(h0:0<l.length)(hl9:l.length<=1000)(hl:∀q∈l,cG R q):an ai 219 [aR p,.list 9 (l.map aR)] (ar (mh p l)):=by
 have mi:∀q∈l,rl (cA p q)<=10*R+10:=fun q hq=>aP (adn vy (hl q hq)) J;have hdR:∀x∈l.map (cA p),rl x<=10*R+10:=fun x hx=>by
  obtain⟨q,hq,rfl⟩:=cZ.1 hx;exact mi q hq
 have iw:(l.getD 0 default)∈l:=by rw[bq,ck h0];exact qX h0
 have aPo:=ahs p (l.getD 0 default) R J vy (hl _ iw);have eb1:jm (l.map (cA p)) 1=(cA p (l.getD 0 default),cA p (l.getD 0 default)):=by
  have e:jm (l.map (cA p)) 1=mz (if 0=0 then((l.map (cA p)).getD 0 0,(l.map (cA p)).getD 0 0)else jm (l.map (cA p)) 0) ((l.map (cA p)).getD 0 0,(l.map (cA p)).getD 0 0):=rfl;have g:(l.map (cA p)).getD 0 0=cA p (l.getD 0 default):=by rw[bq,jY,ck h0,bq,ck h0];rfl
  rw[e,g,if_pos rfl];unfold mz gg fN;simp
 have aQC:(cA p (l.getD 0 default),cA p (l.getD 0 default))=jm (l.map (cA p)) 1:=eb1.symm;refine aL Tryz.func219 (ht:=(fun r=>LV.db r _ (bj.pure _))) ?_;have tc:True:=trivial;have egd:True:=trivial;refine aN (aPo) ?_;refine cp cr ((eb1▸uB (cA p (l.getD 0 default)):an ai 207 [ae (cA p (l.getD 0 default))] (ar (jm (l.map (cA p)) 1)))) ?_;refine bN ?_;refine dy (fun(i:Nat) L=>(mS L [(2,⟨9,[aR p],true⟩),(4,⟨6,[ar (0,0)],true⟩),(5,⟨6,[ar (jm (l.map (cA p)) i)],true⟩)] [(6,ah i),(5,.aB 5 6 0 0),(4,.aB 4 6 0 0),(2,.aB 2 9 0 0),(1,.list 9 (l.map aR))])) (fun i=>1<=i/\i<=l.length) (fun i=>l.length-i) 1 ⟨bF _,h0⟩ ?_;rintro i L1 ⟨sC,hi⟩;refine bM ?_;refine aD rfl ?_ ?_<;>intro yY yW
 ·have cM:i<l.length:=J;have hli:=hl (l.getD i default) agY;have hdi:=mi (l.getD i default) agY;have egd:(l.map (cA p)).getD i 0=cA p (l.getD i default):=by rw[bq,jY,ck cM,bq,ck cM];rfl
  have fR:=ako (R:=10*R+10) J hdR;have tL:=agn (R:=10*R+10) J fR i;have tc:jm (l.map (cA p)) (i+1)=mz (if i=0 then((l.map (cA p)).getD i 0,(l.map (cA p)).getD i 0)else jm (l.map (cA p)) i) ((l.map (cA p)).getD i 0,(l.map (cA p)).getD i 0):=rfl;rw[egd,if_neg J]at tc;have hVD:=ahs p (l.getD i default) R J vy hli;have hHu:=acF (jm (l.map (cA p)) i) (cA p (l.getD i default),cA p (l.getD i default)) (by have:=tL.1;show _+rl (cA p (l.getD i default))<=_;omega) (by have:=tL.2;show _+rl (cA p (l.getD i default))<=_;omega);rw[<-tc]at hHu;refine aN (hVD) ?_;refine cp cr (uB (cA p (l.getD i default))) ?_;refine cp aC (hHu) ?_;refine a6 ?_;refine eP ?_;exact gM
 obtain rfl:l.length=i:=J;have hE9:jm (l.map (cA p)) l.length=mh p l:=by unfold mh fj;rw[cC]
 refine bG ?_;rw[<-hE9];exact mL
open fc in
theorem ajY(r:V3)(R:Nat)(hR:R<=90000000)(hr:cG R r)(lp lq:List V3)(aho:0<lp.length)(agw:lp.length<=1000)(vA:∀q∈lp,cG R q)(agM:0<lq.length)(air:lq.length<=1000)(mc:∀q∈lq,cG R q):an ai 118 [aR r,.list 9 (lp.map aR),.list 9 (lq.map aR)] (ar (ec r lp lq)):=by
 have aqo:=aCk r lp R J hr aho agw vA;have alO:cW (10*R+10) (mh r lp):=alW hr vA;have anm:=aCk r lq R J hr agM air mc;have alz:cW (10*R+10) (mh r lq):=alW hr mc;refine aL Tryz.func118 (ht:=(fun r=>LV.db r _ (bj.pure _))) ?_;refine aN (aqo) ?_;refine aN (anm) ?_;refine cp aC (awr (mh r lp) (mh r lq) (10*R+10) J alO alz) ?_;refine aK ?_;exact mL
open fc in
theorem atM(s t:Rat×Rat)(hs:s.1<=s.2)(ht:t.1<=t.2):an ai 117 [ar s,ar t] (bL (mH s t)):=by
 have g1:=alY s;have g2:=alY t;have hm:=ayo g1 g2;have hoe:=awK s t;refine aL Tryz.func117 ?_;refine bf (auv s hs) ?_;refine bf (auv t ht) ?_;refine bN ?_;refine dU 20 rfl ?_ ?_<;>intro wk h20
 ·refine bI ?_;refine dU 23 rfl ?_ ?_<;>intro qZ sb
  ·refine bc ?_;refine al (ib (v:=true) rfl rfl (qZ) rfl) (.bin rfl rfl (ahM J J)) ?_;refine a6 ?_;rw[hoe,wk,qZ];exact iB
  refine bM ?_;rw[hoe,wk,qZ];exact iB
 refine bG ?_;rw[hoe,wk];exact iB
open oS in
theorem asK(A B:List Sp)(dep:Nat)(hs:List Int)(kd kk:Nat):an ai 39 [.agg [.list 6 (A.map ar),.list 6 (B.map ar),ah dep,.list 1 (hs.map eE)],ah kd,ah kk] (.agg [.list 6 (A.map ar),.list 6 (B.map ar),ah kd,ah kk]):=by
 have o7:=bm bj A;have sH:=bm bj B;have xm:=bm jH hs;have wW:LV.pure (.agg [.list 6 (A.map ar),.list 6 (B.map ar),ah dep,.list 1 (hs.map eE)])=true:=by simp[LV.pure,aO,o7,sH,xm]
 refine aL Tryz.func39 (ht:=(fun g=>LV.db g _ (by simp[LV.pure,aO,bm bj]))) ?_;refine lV ?_;exact iJ [] rfl rfl rfl cs (cU cs rfl) uR (.pure (show LV.pure (.agg [.list 6 (A.map ar),.list 6 (B.map ar),ah kd,ah kk])=true by simp[LV.pure,aO,o7,sH]))
namespace aA5
theorem aJ{p q:Prop}(k:q)(e:p=q:=by simp only[bD,bo,bp,bh,cg,htA,hAB,dO bj,cC,List.length_append,List.take_zero,jt,dR,fX,fD,gy,gU,ey,dD,du,dC,reduceIte,if_true,if_false,dW,LV.kill,bC];exact rfl):p:=e.mpr k
end aA5
open aA5 in
theorem aMJ(A B:List Sp)(dep:Nat)(hs:List Int)(wd:Rat)(hA:A.length<=100)(hB:B.length<=100)(hb:∀s∈A++B,cW 1000000 s)(uX:rl wd<=1000000):an ai 119 [.agg [.list 6 (A.map ar),.list 6 (B.map ar),ah dep,.list 1 (hs.map eE)],ae wd] (bL (decide (wd=0)||!tC (A++B) wd)):=by
 have o7:=bm bj A;have sH:=bm bj B;have xm:=bm jH hs;have wW:LV.pure (.agg [.list 6 (A.map ar),.list 6 (B.map ar),ah dep,.list 1 (hs.map eE)])=true:=by simp[LV.pure,aO,o7,sH,xm]
 have htA:(A.map ar).take A.length=A.map ar:=cy aE;have hAB:A.map ar++B.map ar=(A++B).map ar:=wj.symm;have aQh:(A++B).length=A.length+B.length:=jx;refine aL Tryz.func119 ?_;refine bf (abw wd) ?_;refine bI ?_;refine aD rfl ?_ ?_<;>intro sw h9
 ·have hz:wd=0:=by
   rcases abq wd with⟨e,f⟩|⟨e,f⟩|⟨e,f⟩
   ·omega
   ·exact f
   omega
  refine bK ?_;rw[decide_eq_true hz,Bool.true_or];exact iB
 have hz:¬wd=0:=fun e=>h9 (by rw[e];decide +kernel);refine bI ?_;refine afn (au.cx (t:=2) (b:=2) rfl rfl cs rfl wW) ?_;refine fx 1 rfl rfl aG (.pure l5) gu fy ?_;refine fx 2 rfl rfl aG (.pure (.kQ rfl o7 rfl rfl)) gu fy ?_;refine fx 4 rfl rfl aG (.pure l5) gu fy ?_;refine fx 5 rfl rfl aG (.pure (.kQ rfl sH rfl rfl)) gu fy ?_;refine di 0 _ aG rfl ?_;refine eT ?_;refine di 3 _ aG rfl ?_;refine cj rfl (.eU (d:=10) (news:=A.map ar) rfl rfl rfl rfl aE (.inl rfl) aj nF nF yN (by rw[bj.isAgg];exact lF) cs B60 (.inr (.inl rfl)) aQ aQ aj) ?_;refine iy ?_;refine di 6 _ aG rfl ?_;refine aJ ?_;refine cj rfl azc ?_;refine iy ?_;refine di 7 _ aG rfl ?_;refine eT ?_;refine pb aG ?_;refine bH ?_;refine dy (fun(i:Nat) L=>(mS L [(3,⟨3,[ae wd],true⟩),(10,⟨6,(A++B).map ar,true⟩)] [(6,ah i),(5,.ref 10 6 0 (A.length+B.length)),(3,.aB 3 3 0 0)])) (fun i=>i<=(A++B).length/\∀j,j<i->¬wd<((A++B).getD j default).2-((A++B).getD j default).1) (fun i=>(A++B).length-i) 0 ⟨bW _,fun j h=>absurd h (Nat.not_lt_zero _)⟩ ?_;rintro i L1 ⟨hi,ns⟩;refine bM ?_;refine aD rfl ?_ ?_<;>intro wk h20
 ·have cM:i<(A++B).length:=J;obtain⟨mb,yE⟩:=hb _ (abS cM);have hw:=eX ((A++B).getD i default).2 ((A++B).getD i default).1;refine b7 ?_;refine aJ ?_;refine cp cr (al0 ((A++B).getD i default) J) ?_;refine aN (uf (((A++B).getD i default).2-((A++B).getD i default).1) wd J) ?_;refine bI ?_;refine aD rfl ?_ ?_<;>intro abK yq
  ·have hR:tC (A++B) wd=true:=by
    unfold tC;rw[apo];exact⟨_,abS cM,decide_eq_true (qe.1 yq)⟩
   refine bN ?_;rw[decide_eq_false hz,hR];exact iB
  have aos:∀j,j<i+1->¬wd<((A++B).getD j default).2-((A++B).getD j default).1:=fun j hj=>by
   rcases Nat.lt_succ_iff_lt_or_eq.1 hj with g|rfl
   ·exact ns j g
   exact fun e=>by have:=qe.2 e;omega
  refine aW ?_;refine eP ?_;exact ji (i+1) ⟨J,aos⟩
 obtain rfl:(A++B).length=i:=J;have hR:tC (A++B) wd=false:=by
  unfold tC;rw[atO];intro s hs;obtain⟨j,hj,rfl⟩:=List.getElem_of_mem hs;have:=ns j hj;rw[bq,ck hj]at this;simpa using this
 refine bN ?_;rw[decide_eq_false hz,hR];exact iB
open oS in
theorem aJv(A B:List Sp)(dep:Nat)(hs:List Int)(kd D W:Nat)(wd:Rat)(hA:A.length<=100)(hB:B.length<=100)(hb:∀s∈A++B,cW 1000000 s)(uX:rl wd<=1000000):an ai 44 [.agg [.list 6 (A.map ar),.list 6 (B.map ar),ah dep,.list 1 (hs.map eE)],ah kd,.agg [ah D,ah W,ae wd]] (bL ((decide (kd=3\/kd=4)&&(decide (wd=0)||!tC (A++B) wd))||decide (D<=dep))):=by
 have o7:=bm bj A;have sH:=bm bj B;have xm:=bm jH hs;have wW:LV.pure (.agg [.list 6 (A.map ar),.list 6 (B.map ar),ah dep,.list 1 (hs.map eE)])=true:=by simp[LV.pure,aO,o7,sH,xm]
 have xo:LV.pure (.agg [ah D,ah W,ae wd])=true:=tA;have hN:=aMJ A B dep hs wd hA hB hb uX;generalize (decide (wd=0)||!tC (A++B) wd)=nb at hN ⊢;refine aL Tryz.func44 ?_;refine bG ?_;refine dU 9 rfl ?_ ?_<;>intro sw h9
 ·refine aK ?_;refine al aqk (.fa rfl rfl rfl rfl cs (cU cs rfl) pX) ?_;refine bc ?_;refine dN aqk (.cons (.pure wW) (.cons eu .nil)) hN ?_;refine bc ?_;refine dU 19 rfl ?_ ?_<;>intro ab0 yI
  ·refine b7 ?_;have hV:((decide (kd=3\/kd=4)&&nb)||decide (D<=dep))=true:=by rw[show decide (kd=3\/kd=4)=true from decide_eq_true J,show nb=true by simpa using yI];rfl
   rw[hV];exact iB
  refine b7 ?_;have hV:((decide (kd=3\/kd=4)&&nb)||decide (D<=dep))=decide ((D:Int)<=(dep:Int)):=by
   rw[show nb=false by simpa using yI,asi,aoo];exact decide_eq_decide.2 ⟨fun h=>by omega,fun h=>by omega⟩
  rw[hV];exact iB
 refine aK ?_;refine dU 13 rfl ?_ ?_<;>intro zu h13
 ·refine al (ib (v:=true) rfl rfl (zu) rfl) (.fa rfl rfl rfl rfl cs (cU cs rfl) pX) ?_;refine bc ?_;refine dN (ib (v:=true) rfl rfl (zu) rfl) (.cons (.pure wW) (.cons eu .nil)) hN ?_;refine bc ?_;refine dU 19 rfl ?_ ?_<;>intro ab0 yI
  ·refine b7 ?_;have hV:((decide (kd=3\/kd=4)&&nb)||decide (D<=dep))=true:=by rw[show decide (kd=3\/kd=4)=true from decide_eq_true J,show nb=true by simpa using yI];rfl
   rw[hV];exact iB
  refine b7 ?_;have hV:((decide (kd=3\/kd=4)&&nb)||decide (D<=dep))=decide ((D:Int)<=(dep:Int)):=by
   rw[show nb=false by simpa using yI,asi,aoo];exact decide_eq_decide.2 ⟨fun h=>by omega,fun h=>by omega⟩
  rw[hV];exact iB
 refine lN ?_;have hV:((decide (kd=3\/kd=4)&&nb)||decide (D<=dep))=decide ((D:Int)<=(dep:Int)):=by
  rw[show decide (kd=3\/kd=4)=false from decide_eq_false J,Bool.false_and,aoo];exact decide_eq_decide.2 ⟨fun h=>by omega,fun h=>by omega⟩
 rw[hV];exact iB
namespace ast
theorem aJ{p q:Prop}(k:q)(e:p=q:=by simp only[bD,bo,bp,bh,w9,abh,cC,List.getD_cons_zero,List.getD_cons_succ,dD,du,dC,reduceIte,if_true,if_false,dW,LV.kill,bC];exact rfl):p:=e.mpr k
end ast
open ast in
theorem aLV(A B:List Sp)(hA:A.length<=100)(hB:B.length<=100):an ai 38 [.list 6 (A.map ar),.list 6 (B.map ar)] (.agg [.list 6 (A.map ar),.list 6 (B.map ar),ah 0,.list 1 ((av (A.length+B.length) (0:Int)).map eE)]):=by
 have o7:=bm bj A;have sH:=bm bj B;refine aL Tryz.func38 (ht:=(fun g=>LV.db g _ (by simp[LV.pure,aO,bm bj,bm jH,-List.map_replicate]))) ?_;refine dj ?_;refine al rfl sZ ?_;refine gv rfl rfl (.nr (n:=_) (m:=_) ml ml om om om) ?_;refine aW ?_;exact iJ [12] rfl rfl rfl cs (cU cs rfl) pX (.agg (.cons (.pure (eY bj 6 A)) (.cons (.pure (eY bj 6 B)) (.cons (.pure rfl) (.cons (da (l:=av (A.length+B.length) (0:Int)) jH rfl rfl aE) .nil)))))
end Go.Proofs.YtbkmfcmgilhaaaaGreat
end
section
set_option linter.unusedVariables false
set_option linter.unusedSimpArgs false
namespace Go.Lg
section
variable {P:Program} {dr:Bool} {ops:Array Oper} {ty:TypeId} {pos:String} {af:Array Edge} {g:Option (Nat×Bool)} {rest:List Oper} {L:St} {K:St->Prop}
theorem amH{d i j:Nat}(h:i≠j):dv d i≠dv d j:=by unfold dv;omega
theorem ayC{f:FuncId}{xs:Array Operand}{asQ:Array TypeId}{args:List LV}{r:LV}{k1 k2 k3:aV}{d:Nat}(bs:List Nat)(hg:eg ops L ⟨some d,.call ⟨.value (.func f),xs,asQ⟩,ty,pos,af,g⟩ true)(h0:bs.contains 0=false)
  (ha:gR (L.b9 bs).heap (xs.toList.map L.ev) args) (hk:mW P f args r [k1,k2,k3]) (p1:aO k1.vals=true) (p2:aO k2.vals=true) (p3:aO k3.vals=true)
  (d1:L.heap (dv d 1)=none) (d2:L.heap (dv d 2)=none) (d3:L.heap (dv d 3)=none)
  (k:opsL P dr ops rest (((((L.b9 bs).bO (dv d 1) (some k1)).bO (dv d 2) (some k2)).bO (dv d 3) (some k3)).put (some d) (r.b8 (dv d))) K):opsL P dr ops (⟨some d,.call ⟨.value (.func f),xs,asQ⟩,ty,pos,af,g⟩::rest) L K:=by
 have n12:=amH (d:=d) (i:=1) (j:=2) aj;have n13:=amH (d:=d) (i:=1) (j:=3) aj;have n23:=amH (d:=d) (i:=2) (j:=3) aj;have e1:(L.b9 bs).heap (dv d 1)=none:=by simp[St.b9,d1]
 have e2:((L.b9 bs).bO (dv d 1) (some k1)).heap (dv d 2)=none:=by simp[St.bO,St.b9,d2,n12,Ne.symm n12]
 have e3:(((L.b9 bs).bO (dv d 1) (some k1)).bO (dv d 2) (some k2)).heap (dv d 3)=none:=by simp[St.bO,St.b9,d3,n13,n23,Ne.symm n13,Ne.symm n23]
 have hle:cd.le (L.b9 bs).heap ((((L.b9 bs).bO (dv d 1) (some k1)).bO (dv d 2) (some k2)).bO (dv d 3) (some k3)).heap:=cd.le_trans (adX e1) (cd.le_trans (adX e2) (adX e3));refine⟨_,.val hg (r:=r.b8 (dv d)) (fr:=[k1,k2,k3].mapIdx fun i blk=>(dv d (i+1),blk)) (H1:=((((L.b9 bs).bO (dv d 1) (some k1)).bO (dv d 2) (some k2)).bO (dv d 3) (some k3)).heap) (cd.le_trans (vW bs h0) hle) ?_
  (.call (.func (gR.le hle ha) hk aE (by simp[p1,p2,p3]))) ?_,k⟩
 ·intro b bk hb;simp only[List.mapIdx_cons,List.mapIdx_nil,dS,jR,or_false,xw,Nat.zero_add]at hb;rcases hb with⟨rfl,rfl⟩|⟨rfl,rfl⟩|⟨rfl,rfl⟩
  ·exact⟨d1,bk.mt,by simp[St.bO,n12,n13,n23,Ne.symm n12,Ne.symm n13,Ne.symm n23],fun h=>h⟩
  ·exact⟨d2,bk.mt,by simp[St.bO,n12,n13,n23,Ne.symm n12,Ne.symm n13,Ne.symm n23],fun h=>h⟩
  exact⟨d3,bk.mt,by simp[St.bO,n12,n13,n23,Ne.symm n12,Ne.symm n13,Ne.symm n23],fun h=>h⟩
 rfl
theorem aOH{a:Nat}{T:TypeId}{b sz b1 b2 b3 s1 s2 s3 l1 l2 l3:Nat}{x x':LV}{m:Bool}{n:Nat}{ag:Bool}{k1 k2 k3:aV}(h:L.slot a=.aB b sz 0 0)(hb:L.heap b=some ⟨sz,[.agg [.ref b1 s1 0 l1,.ref b2 s2 0 l2,x,.ref b3 s3 0 l3]],m⟩)
  (hx:LV.aq (.agg [.ref b1 s1 0 l1,.ref b2 s2 0 l2,x,.ref b3 s3 0 l3])=sz) (cJ:LV.at (.agg [.ref b1 s1 0 l1,.ref b2 s2 0 l2,x,.ref b3 s3 0 l3]) 0 n ag=some (.agg [.ref b1 s1 0 l1,.ref b2 s2 0 l2,x,.ref b3 s3 0 l3])) (hT:bS P T n ag)
  (hi:dt L.heap x x') (h1:L.heap b1=some k1) (h2:L.heap b2=some k2) (h3:L.heap b3=some k3) (p1:aO k1.vals=true) (p2:aO k2.vals=true) (p3:aO k3.vals=true) (nd:[b1,b2,b3].Nodup) :
  pB P [.cell a T] L (.agg [.ref 1 s1 0 l1,.ref 2 s2 0 l2,x',.ref 3 s3 0 l3]) [k1,k2,k3] :=
 ⟨_,_,L.heap,[b1,b2,b3],.cons ⟨b,sz,0,0,_,_,n,ag,h,hb,rfl,rfl,hx,cJ,hT⟩ .nil,cd.le_refl _,.cons (.bx3 (k1:=0) (k2:=1) (k3:=2) hi rfl rfl rfl) .nil,nd,rfl,fun k c hk=>by
  match k with
  |0=>simp at hk;subst hk;exact⟨k1,h1,rfl,p1⟩
  |1=>simp at hk;subst hk;exact⟨k2,h2,rfl,p2⟩
  |2=>simp at hk;subst hk;exact⟨k3,h3,rfl,p3⟩
  |k+3=>simp at hk,rfl⟩
end
end Go.Lg
end
section
set_option linter.unusedVariables false
set_option linter.unusedSimpArgs false
set_option maxHeartbeats 8000000
set_option maxRecDepth 100000
attribute [local irreducible] Go.Lg.opsL Go.Lg.c9 Go.Lg.oF Go.Lg.qF
namespace Go.Proofs.YtbkmfcmgilhaaaaGreat
open Go.Lg
namespace aC7
theorem aJ{p q:Prop}(k:q)(e:p=q:=by simp only[bD,bo,bp,bh,akM,xhs,Int.toNat_natCast,dO bj,dO jH,cC,gU,fD,jt,dR,fX,fD,gy,gU,ey,dD,du,dC,reduceIte,if_true,if_false,dW,LV.kill,bC];exact rfl):p:=e.mpr k
end aC7
open aC7 in
theorem aEp(A B:List Sp)(dep:Nat)(hs:List Int)(k:Nat)(hA:A.length<=100)(hB:B.length<=100)(hH:hs.length<=200)(hk:k<hs.length)(hv:∀x∈hs,0<=x/\x<=1000)(hd:dep<=1000):mW ai 120 [.agg [.list 6 (A.map ar),.list 6 (B.map ar),ah dep,.list 1 (hs.map eE)],ah k] (.agg [.ref 1 6 0 A.length,.ref 2 6 0 B.length,ah (dep+1),.ref 3 1 0 hs.length]) [⟨6,A.map ar,true⟩,⟨6,B.map ar,true⟩,⟨1,(hs.set k (hs.getD k 0+1)).map eE,true⟩]:=by
 have o7:=bm bj A;have sH:=bm bj B;have xm:=bm jH hs;have wW:LV.pure (.agg [.list 6 (A.map ar),.list 6 (B.map ar),ah dep,.list 1 (hs.map eE)])=true:=by simp[LV.pure,aO,o7,sH,xm]
 have xhs:(hs.map eE).set k (eE (hs.getD k 0+1))=(hs.set k (hs.getD k 0+1)).map eE:=ahW.symm;have htk:=hv _ (show hs.getD k 0∈hs by rw[bq,ck hk];exact qX hk);refine zi Tryz.func120 ?_;refine bK ?_;refine iZ (fun L=>∃  (L1:St),(True)/\L=(mS L1 [(4,⟨4,[.agg [.v (.slice none 0 0),.v (.slice none 0 0),.v (.int .i64 0),.v (.slice none 0 0)]],true⟩),(5,⟨4,[.agg [.ref 6 6 0 A.length,.ref 10 6 0 B.length,ah (dep+1),.ref 17 1 0 hs.length]],true⟩),(6,⟨6,A.map ar,true⟩),(10,⟨6,B.map ar,true⟩),(17,⟨1,hs.map eE,true⟩)] [(5,.aB 5 4 0 0),(4,.aB 4 4 0 0),(1,ah k)])) ?_ ?_
 ·refine afn (au.cx (t:=2) (b:=2) rfl rfl cs rfl wW) ?_;refine fx 1 rfl rfl aG (.pure l5) gu fy ?_;refine fx 2 rfl rfl aG (.pure (.kQ rfl o7 rfl rfl)) gu fy ?_;refine fx 5 rfl rfl aG (.pure l5) gu fy ?_;refine fx 6 rfl rfl aG (.pure (.kQ rfl sH rfl rfl)) gu fy ?_;refine fx 8 rfl rfl aG (.pure l5) gu fy ?_;refine fx 9 rfl rfl aG (.pure gJ) gu fy ?_;refine fx 10 rfl rfl aG (.pure (.bin rfl rfl (agf J))) gu fy ?_;refine fx 12 rfl rfl aG (.pure l5) gu fy ?_;refine fx 13 rfl rfl aG (.pure (.kQ rfl xm rfl rfl)) gu fy ?_;refine aND [(0,some (.ref 6 6 0 0,⟨6,[],true⟩)),(3,none),(4,some (.ref 10 6 0 0,⟨6,[],true⟩)),(7,none),(11,some (.ref 17 1 0 0,⟨1,[],true⟩)),(14,none),(15,none),(16,some (.aB 5 4 0 0,⟨4,[.agg [.v (.slice none 0 0),.v (.slice none 0 0),.v (.int .i64 0),.v (.slice none 0 0)]],true⟩)),(17,none)] aG (laN (d:=6) rfl rfl (.aee nF lF) (fun c h=>⟨amQ h,rfl⟩) (laO (laN (d:=10) rfl rfl (.aee nF lF) (fun c h=>⟨amQ h,rfl⟩) (laO (laN (d:=17) rfl rfl (.aee aaU T3) (fun c h=>⟨amQ h,rfl⟩) (laO (laO (laN (d:=5) rfl rfl (.alloc Z93) (fun c h=>⟨aE0 h,rfl⟩) (laO laZ))))))))) aj ?_;refine akp (d:=6) rfl rfl rfl ?_;refine aiv rfl rfl ?_;refine aJ ?_
  refine cj rfl (.eU (d:=6) (news:=A.map ar) rfl rfl rfl rfl aE (.inl rfl) aj nF nF yN (by rw[bj.isAgg];exact lF) cs B60 (.inr (.inl rfl)) aQ aQ aj) ?_;refine iy ?_;refine akp (d:=10) rfl rfl rfl ?_;refine aiv rfl rfl ?_;refine aJ ?_;refine cj rfl azc ?_;refine iy ?_;refine akp (d:=17) rfl rfl rfl ?_;refine aiv rfl rfl ?_;refine aJ ?_;refine cj rfl (.eU (d:=17) (news:=hs.map eE) rfl rfl rfl rfl aE (.inl rfl) aj aaU aaU Z3 T3 cs B3 (.inr (.inl rfl)) aQ aQ aj) ?_;refine iy ?_;refine aiv rfl rfl ?_;refine eT ?_;refine akp (d:=5) rfl rfl rfl ?_;refine aiv rfl rfl ?_;refine eT ?_;refine aGZ ?_;refine bn ?_;exact⟨_,trivial,((aX (aX (aX (jB vY) cl) cl) cl)).symm⟩
 rintro _ ⟨LR1,-,rfl⟩;refine bI ?_
 try refine aJ ?_
 refine aW ?_
 try refine aJ ?_
 refine al rfl acz ?_;refine bN ?_
 try refine aJ ?_
 exact aOH rfl rfl rfl (cU rfl rfl) pX (.pure rfl) rfl rfl rfl (bm bj _) (bm bj _) (bm jH _) aj
namespace axU
theorem aJ{p q:Prop}(k:q)(e:p=q:=by simp only[bD,bo,bp,bh,akM,xms,LV.b8,dL,Int.toNat_natCast,w9,abh,cC,jt,dR,fX,fD,gy,gU,ey,dD,du,dC,reduceIte,if_true,if_false,dW,LV.kill,bC];exact rfl):p:=e.mpr k
end axU
open axU in
theorem aLj(A B:List Sp)(dep:Nat)(hs:List Int)(hA:A.length<=100)(hB:B.length<=100)(hH:hs.length=A.length+B.length)(h0:0<hs.length)(hv:∀x∈hs,0<=x/\x<=1000)(hd:dep<=1000)(hsA:∀s∈A,rl s.1<=1000/\rl s.2<=1000)(hsB:∀s∈B,rl s.1<=1000/\rl s.2<=1000):an ai 45 [.agg [.list 6 (A.map ar),.list 6 (B.map ar),ah dep,.list 1 (hs.map eE)]] (.aY [(.agg [.list 6 ((if (et hs hs.length)<A.length then A.set (et hs hs.length) (oY (A.getD (et hs hs.length) default))else A).map ar),.list 6 ((if (et hs hs.length)<A.length then B else B.set ((et hs hs.length)-A.length) (oY (B.getD ((et hs hs.length)-A.length) default))).map ar),ah (dep+1),.list 1 ((hs.set (et hs hs.length) (hs.getD (et hs hs.length) 0+1)).map eE)]),(.agg [.list 6 ((if (et hs hs.length)<A.length then A.set (et hs hs.length) (qA (A.getD (et hs hs.length) default))else A).map ar),.list 6 ((if (et hs hs.length)<A.length then B else B.set ((et hs hs.length)-A.length) (qA (B.getD ((et hs hs.length)-A.length) default))).map ar),ah (dep+1),.list 1 ((hs.set (et hs hs.length) (hs.getD (et hs hs.length) 0+1)).map eE)])]):=by
 have o7:=bm bj A;have sH:=bm bj B;have xm:=bm jH hs;have wW:LV.pure (.agg [.list 6 (A.map ar),.list 6 (B.map ar),ah dep,.list 1 (hs.map eE)])=true:=by simp[LV.pure,aO,o7,sH,xm]
 have xms:∀(l:List Sp) (k:Nat) (s:Sp),(l.map ar).set k (ar s)=(l.set k s).map ar:=fun _ _ _=>ahW.symm;have gz:=ad1 (t:=hs) hs.length (bF _) h0;have hC:=aEp A B dep hs (et hs hs.length) hA hB J gz hv hd;have e0:et hs 1=0:=by unfold et;simp[et]
 refine aL Tryz.func45 (ht:=(iz (by simp only[LV.pure,aO,bm bj,bm jH,sf]) (by simp only[LV.pure,aO,bm bj,bm jH,sf]))) ?_;refine bH ?_;refine cO (au.cx (t:=1) (b:=1) rfl rfl cs rfl wW) ?_;refine b7 ?_;refine dy (fun(i:Nat) L=>(mS L [(2,⟨4,[.agg [.v (.slice none 0 0),.v (.slice none 0 0),.v (.int .i64 0),.v (.slice none 0 0)]],true⟩),(3,⟨4,[.agg [.v (.slice none 0 0),.v (.slice none 0 0),.v (.int .i64 0),.v (.slice none 0 0)]],true⟩)] [(5,ah i),(4,ah (et hs i)),(3,.aB 3 4 0 0),(2,.aB 2 4 0 0),(1,.cx (.agg [.list 6 (A.map ar),.list 6 (B.map ar),ah dep,.list 1 (hs.map eE)]))])) (fun i=>1<=i/\i<=hs.length) (fun i=>hs.length-i) 1 ⟨bF 1,J⟩ (h0:=⟨_,au.of_eq (aX (aX sX (congrArg (fun n:Nat=>ah n) e0.symm)) cl)⟩) ?_;rintro i L1 ⟨sC,cM⟩;refine aW ?_;refine al rfl (.kQ rfl xm rfl rfl) ?_;refine aK ?_;refine aD rfl ?_ ?_<;>intro acI h12
 ·have hil:i<hs.length:=J;have lr:=ad1 (t:=hs) i J h0;refine bK ?_;refine al rfl (.kQ rfl xm rfl rfl) ?_;refine aK ?_;refine al rfl (.kQ rfl xm rfl rfl) ?_;refine a6 ?_;refine aD rfl ?_ ?_<;>intro acR qT
  ·have en:et hs (i+1)=i:=if_pos qT;refine bH ?_;refine eP ?_;exact ji (i+1) ⟨J,J⟩ (he:=au.of_eq (aX (aX sX (congrArg (fun n:Nat=>ah n) en.symm)) cl))
  have en:et hs (i+1)=et hs i:=if_neg qT;refine aW ?_;refine eP ?_;exact ji (i+1) ⟨J,J⟩ (he:=au.of_eq (aX (aX sX (congrArg (fun n:Nat=>ah n) en.symm)) cl))
 obtain rfl:i=hs.length:=J;refine bK ?_;refine al rfl (.kQ rfl wW cs rfl) ?_;refine bn ?_;refine aJ ?_;refine ayC [] rfl rfl (.cons (.pure wW) (.cons (.pure rfl) .nil)) hC (bm bj _) (bm bj _) (bm jH _) rfl rfl rfl ?_;refine al rfl (.kQ rfl wW cs rfl) ?_;refine bn ?_;refine aJ ?_;refine ayC [] rfl rfl (.cons (.pure wW) (.cons (.pure rfl) .nil)) hC (bm bj _) (bm bj _) (bm jH _) rfl rfl rfl ?_;refine bN ?_;refine al rfl (.kQ rfl o7 rfl rfl) ?_;refine aK ?_;refine aD rfl ?_ ?_<;>intro aQ7 h37
 ·have ph:=(hsA _ (abS (l:=A) (k:=(et hs hs.length)) J)).1;have kK:=(hsA _ (abS (l:=A) (k:=(et hs hs.length)) J)).2;refine ace rfl 16 1000465 [3,4,5,14] aG rfl ?_;simp only[qS,tn,bD,bo,bp,bh,bh7,dh1,dh2,dh3];refine bK ?_;refine al rfl (.kQ rfl o7 rfl rfl) ?_;refine bf (auf (A.getD (et hs hs.length) default) ph kK) ?_;refine aK ?_;refine abZ ?_;simp only[xr,jv];refine a6 ?_;refine ace rfl 2 2 [1] aG rfl ?_;simp only[qS,tn,bD,bo,bp,bh,bh7,dh1,dh2,dh3];refine bc ?_;refine abZ ?_;simp only[xr,jv];refine aW ?_;have hpz:(et hs hs.length)<A.length:=J;simp only[if_pos hpz]
  exact aes [1000465,1000466,1000467,1000513,1000514,1000515] rfl rfl rfl rfl (cU rfl rfl) pX (.agg (.cons (da (l:=A.set (et hs hs.length) (oY (A.getD (et hs hs.length) default))) bj rfl rfl aE) (.cons (da (l:=B) bj rfl rfl aE) (.cons (.pure rfl) (.cons (da (l:=(hs.set (et hs hs.length) (hs.getD (et hs hs.length) 0+1))) jH rfl rfl aE) .nil))))) rfl rfl rfl (cU rfl rfl) pX (.agg (.cons (da (l:=A.set (et hs hs.length) (qA (A.getD (et hs hs.length) default))) bj rfl rfl aE) (.cons (da (l:=B) bj rfl rfl aE) (.cons (.pure rfl) (.cons (da (l:=(hs.set (et hs hs.length) (hs.getD (et hs hs.length) 0+1))) jH rfl rfl aE) .nil)))))
 have ph:=(hsB _ (abS (l:=B) (k:=(et hs hs.length)-A.length) J)).1;have kK:=(hsB _ (abS (l:=B) (k:=(et hs hs.length)-A.length) J)).2;refine ace rfl 28 1000466 [7,8,9,10,11,12,13,26] aG rfl ?_;simp only[qS,tn,bD,bo,bp,bh,bh7,dh1,dh2,dh3];refine aK ?_;refine arp ?_;refine aK ?_;refine arp ?_;refine bn ?_;refine al rfl (.kQ rfl sH rfl rfl) ?_;refine bc ?_;refine arp ?_;refine bf (auf (B.getD ((et hs hs.length)-A.length) default) ph kK) ?_;refine aK ?_;refine abZ ?_;simp only[xr,jv];refine a6 ?_;refine ace rfl 2 2 [1] aG rfl ?_;simp only[qS,tn,bD,bo,bp,bh,bh7,dh1,dh2,dh3];refine bc ?_;refine abZ ?_;simp only[xr,jv]
 refine aW ?_;have hpz:¬(et hs hs.length)<A.length:=J;simp only[if_neg hpz];exact aes [1000465,1000466,1000467,1000513,1000514,1000515] rfl rfl rfl rfl (cU rfl rfl) pX (.agg (.cons (da (l:=A) bj rfl rfl aE) (.cons (da (l:=B.set ((et hs hs.length)-A.length) (oY (B.getD ((et hs hs.length)-A.length) default))) bj rfl rfl aE) (.cons (.pure rfl) (.cons (da (l:=(hs.set (et hs hs.length) (hs.getD (et hs hs.length) 0+1))) jH rfl rfl aE) .nil))))) rfl rfl rfl (cU rfl rfl) pX (.agg (.cons (da (l:=A) bj rfl rfl aE) (.cons (da (l:=B.set ((et hs hs.length)-A.length) (qA (B.getD ((et hs hs.length)-A.length) default))) bj rfl rfl aE) (.cons (.pure rfl) (.cons (da (l:=(hs.set (et hs hs.length) (hs.getD (et hs hs.length) 0+1))) jH rfl rfl aE) .nil)))))
open aq7 in
theorem aGs(d:Nat)(kn:List Rat)(po:List aF)(R:Nat)(hR:R<=1000000)(h:uG po d R):an ai 199 [.agg [ah d,.list 3 (kn.map ae),.list 12 (po.map aA)]] (.agg [.list 3 ((a7 po 0).map ae),.list 3 ((a7 po 1).map ae),.list 3 ((a7 po 2).map ae),.list 3 ((aS po).map ae)]):=by
 have hl:=h.hl;have hd:=h.hd;have h6:=h.h6;have dZ:LV.pure (.agg [ah d,.list 3 (kn.map ae),.list 12 (po.map aA)])=true:=eN;have jJ:=s9 po 0;have nm:=s9 po 1;have ma:=s9 po 2;have xz:=tb po;refine aL Tryz.func199 (ht:=(fun g=>LV.db g _ adf)) ?_;have aly:True:=trivial;have alq:True:=trivial;have aaz:True:=trivial;have amc:True:=trivial;have amu:True:=trivial;have akV:True:=trivial;have aae:True:=trivial;have alw:True:=trivial;refine uV ?_;refine iS ((au.cell 3 rfl (fun Z μ w cs h=>ay3 1001 1002 1003 1004 3 Z μ w cs h)).trans ((au.qy _ 1001 3 rfl).trans ((au.qy _ 1002 3 rfl).trans ((au.qy _ 1003 3 rfl).trans (au.qy _ 1004 3 rfl))))) ?_;refine dy (fun(j:Nat) L=>(mS L [(1,⟨3,[.agg [ah d,.list 3 (kn.map ae),.list 12 (po.map aA)]],true⟩),(2,⟨4,[.agg [.v (.slice none 0 0),.v (.slice none 0 0),.v (.slice none 0 0),.v (.slice none 0 0)]],true⟩),(3,⟨4,[.agg [.ref 1001 3 0 j,.ref 1002 3 0 j,.ref 1003 3 0 j,.ref 1004 3 0 j]],true⟩),(1001,⟨3,((a7 po 0).take j).map ae,true⟩),(1002,⟨3,((a7 po 1).take j).map ae,true⟩),(1003,⟨3,((a7 po 2).take j).map ae,true⟩),(1004,⟨3,((aS po).take j).map ae,true⟩)] [(4,ah j),(3,.aB 3 4 0 0),(2,.aB 2 4 0 0),(1,.aB 1 3 0 0)])) (fun j=>j<=po.length) (fun j=>po.length-j) 0 (bW _) ?_;rintro j L1 hj;refine b7 ?_;refine aD rfl ?_ ?_<;>intro adm z5
 ·have iH:j<po.length:=J;have fe:=h.ok _ (qo iH);have amu:(a7 po 0).take j++[(po.getD j default).w*(po.getD j default).p.x]=(a7 po 0).take (j+1):=yO (fun q:aF=>q.w*q.p.at 0) po iH;have akV:(a7 po 1).take j++[(po.getD j default).w*(po.getD j default).p.y]=(a7 po 1).take (j+1):=yO (fun q:aF=>q.w*q.p.at 1) po iH;have aae:(a7 po 2).take j++[(po.getD j default).w*(po.getD j default).p.z]=(a7 po 2).take (j+1):=yO (fun q:aF=>q.w*q.p.at 2) po iH;have alw:(aS po).take j++[(po.getD j default).w]=(aS po).take (j+1):=yO (fun q:aF=>q.w) po iH;have aly:(((a7 po 0).take j).map ae).take j=((a7 po 0).take j).map ae:=cy wB;have alq:(((a7 po 1).take j).map ae).take j=((a7 po 1).take j).map ae:=cy wB;have aaz:(((a7 po 2).take j).map ae).take j=((a7 po 2).take j).map ae:=cy wB;have amc:(((aS po).take j).map ae).take j=((aS po).take j).map ae:=cy wB;refine bf (aju (po.getD j default) R hR fe) ?_;refine b7 ?_;refine qK ?_;refine aK ?_;refine gE 8 [0] aG ?_;refine bH ?_
  refine cj rfl (.eU (d:=1001) (news:=[ae ((po.getD j default).w*(po.getD j default).p.x)]) rfl rfl rfl rfl aQ (.inl rfl) aj dp dp jg cS rfl jq (.inl ⟨31,0,_,rfl,by decide,rfl,rfl,by simp,rfl,by simp[aO,ao.pure]⟩) aQ aQ aj) ?_;refine aW ?_;refine cO (au.kill _ 31) ?_;refine aW ?_;refine qK ?_;refine aK ?_;refine gE 8 [0] aG ?_;refine bH ?_;refine cj rfl (.eU (d:=1002) (news:=[ae ((po.getD j default).w*(po.getD j default).p.y)]) rfl rfl rfl rfl aQ (.inl rfl) aj dp dp jg cS rfl jq (.inl ⟨31,0,_,rfl,by decide,rfl,rfl,by simp,rfl,by simp[aO,ao.pure]⟩) aQ aQ aj) ?_;refine aW ?_;refine cO (au.kill _ 31) ?_;refine aW ?_;refine qK ?_;refine aK ?_;refine gE 8 [0] aG ?_;refine bH ?_;refine cj rfl (.eU (d:=1003) (news:=[ae ((po.getD j default).w*(po.getD j default).p.z)]) rfl rfl rfl rfl aQ (.inl rfl) aj dp dp jg cS rfl jq (.inl ⟨31,0,_,rfl,by decide,rfl,rfl,by simp,rfl,by simp[aO,ao.pure]⟩) aQ aQ aj) ?_;refine aW ?_;refine cO (au.kill _ 31) ?_;refine aW ?_;refine qK ?_;refine aK ?_
  refine gE 8 [0] aG ?_;refine bH ?_;refine cj rfl (.eU (d:=1004) (news:=[ae ((po.getD j default).w)]) rfl rfl rfl rfl aQ (.inl rfl) aj dp dp jg cS rfl jq (.inl ⟨31,0,_,rfl,by decide,rfl,rfl,by simp,rfl,by simp[aO,ao.pure]⟩) aQ aQ aj) ?_;refine aW ?_;refine cO (au.kill _ 31) ?_;refine aW ?_;refine wq ?_;refine a6 ?_;refine cO (au.kill _ 5) ?_;refine nL ?_;exact yd
 obtain rfl:j=po.length:=J;have hE0:(a7 po 0).take po.length=(a7 po 0):=cy J;have zx:(a7 po 1).take po.length=(a7 po 1):=cy J;have w7:(a7 po 2).take po.length=(a7 po 2):=cy J;have hE3:(aS po).take po.length=(aS po):=cy J;refine bG ?_;simp only[hE0,zx,w7,hE3];exact iJ [1001,1002,1003,1004] rfl rfl rfl cs (cU cs rfl) awb (.agg (.cons (da ao rfl rfl jJ.symm) (.cons (da ao rfl rfl nm.symm) (.cons (da ao rfl rfl ma.symm) (.cons (da ao rfl rfl xz.symm) .nil)))))
open fc in
theorem al9(d:Nat)(kn:List Rat)(po:List aF)(R:Nat)(hR:R<=1000000)(h:uG po d R):an ai 102 [.agg [ah d,.list 3 (kn.map ae),.list 12 (po.map aA)]] (.agg [.list 3 ((a7 po 0).map ae),.list 3 ((a7 po 1).map ae),.list 3 ((a7 po 2).map ae),.list 3 ((aS po).map ae)]):=by
 have hl:=h.hl;have hd:=h.hd;have h6:=h.h6;have dZ:LV.pure (.agg [ah d,.list 3 (kn.map ae),.list 12 (po.map aA)])=true:=eN;refine aL Tryz.func102 (ht:=(fun g=>LV.db g _ adf)) ?_;refine bf (aGs d kn po R hR h) ?_;refine ff ?_;refine tj (aM.aOb rfl rfl rfl rfl) ?_;refine aK ?_;exact iJ [] rfl rfl rfl cs (cU cs rfl) amP (.pure adf)
open fc in
theorem azX(d:Nat)(kn:List Rat)(po:List aF)(R:Nat)(h:oh po d R):an ai 208 [.agg [ah d,.list 3 (kn.map ae),.list 12 (po.map aA)]] (.agg [.list 3 ((eF po 0).map ae),.list 3 ((eF po 1).map ae),.list 3 ((eF po 2).map ae)]):=by
 have hl:=h.c.hl;have hd:=h.c.hd;have h6:=h.c.h6;have h5:=h.d5;have fL:=h.R1;have hR2:=h.R2;have dZ:LV.pure (.agg [ah d,.list 3 (kn.map ae),.list 12 (po.map aA)])=true:=eN;have km:∀l:List Rat,aO (l.map ae)=true:=fun l=>bm ao l;have w1:=h.w;have w2:=h.dw;have n0:=h.n 0;have d0:=h.dn 0;have p0a:=h.m1 0;have p0b:=h.m2 0;have n1:=h.n 1;have d1:=h.dn 1;have p1a:=h.m1 1;have p1b:=h.m2 1;have n2:=h.n 2;have d2:=h.dn 2;have p2a:=h.m1 2;have p2b:=h.m2 2;refine aL Tryz.func208 (ht:=(fun g=>LV.db g _ adf)) ?_;refine bf (al9 d kn po R J h.c) ?_;refine lN ?_;refine qK ?_;refine bf (afb (a7 po 0) J J (fun x hx=>aP ((n0).2 x hx) J)) ?_;refine aN (aft (fG (a7 po 0)) (aS po) (4*R+4) J J J J J (fun x hx=>aP ((d0).2 x hx) J) (fun x hx=>aP ((w1).2 x hx) J)) ?_;refine bf (afb (aS po) J J (fun x hx=>aP ((w1).2 x hx) J)) ?_;refine cp aC (aft (a7 po 0) (fG (aS po)) (4*R+4) J J J J J (fun x hx=>aP ((n0).2 x hx) J) (fun x hx=>aP ((w2).2 x hx) J)) ?_;refine bN ?_;refine cp aC (anf _ _ (2*d-1) J p0a.1 p0b.1 (fun x hx=>aP ((p0a).2 x hx) J) (fun x hx=>aP ((p0b).2 x hx) J)) ?_;refine bN ?_;refine xV ?_;refine bK ?_
 refine qO (b:=_) rfl aj ?_;refine bf (afb (a7 po 1) J J (fun x hx=>aP ((n1).2 x hx) J)) ?_;refine aN (aft (fG (a7 po 1)) (aS po) (4*R+4) J J J J J (fun x hx=>aP ((d1).2 x hx) J) (fun x hx=>aP ((w1).2 x hx) J)) ?_;refine bf (afb (aS po) J J (fun x hx=>aP ((w1).2 x hx) J)) ?_;refine cp aC (aft (a7 po 1) (fG (aS po)) (4*R+4) J J J J J (fun x hx=>aP ((n1).2 x hx) J) (fun x hx=>aP ((w2).2 x hx) J)) ?_;refine bN ?_;refine cp aC (anf _ _ (2*d-1) J p1a.1 p1b.1 (fun x hx=>aP ((p1a).2 x hx) J) (fun x hx=>aP ((p1b).2 x hx) J)) ?_;refine qM ?_;refine bf (afb (a7 po 2) J J (fun x hx=>aP ((n2).2 x hx) J)) ?_;refine aN (aft (fG (a7 po 2)) (aS po) (4*R+4) J J J J J (fun x hx=>aP ((d2).2 x hx) J) (fun x hx=>aP ((w1).2 x hx) J)) ?_;refine bf (afb (aS po) J J (fun x hx=>aP ((w1).2 x hx) J)) ?_;refine cp aC (aft (a7 po 2) (fG (aS po)) (4*R+4) J J J J J (fun x hx=>aP ((n2).2 x hx) J) (fun x hx=>aP ((w2).2 x hx) J)) ?_;refine bN ?_
 refine cp aC (anf _ _ (2*d-1) J p2a.1 p2b.1 (fun x hx=>aP ((p2a).2 x hx) J) (fun x hx=>aP ((p2b).2 x hx) J)) ?_;refine bN ?_;refine wq ?_;refine bG ?_;exact iJ [] rfl rfl rfl cs (cU cs rfl) anz (.pure adf)
open fc in
theorem aoy(d:Nat)(a b:Rat)(po:List aF)(ha:rl a<=100)(hb:rl b<=100)(cm:a<b)(h9:d<=6)(t:Rat)(ht:rl t<=1000):an ai 104 [.agg [ah d,.list 3 ((a8 d a b).map ae),.list 12 (po.map aA)],ae t] (ae ((t-a)/(b-a))):=by
 have km:∀l:List Rat,aO (l.map ae)=true:=fun l=>bm ao l;have gz:=kz d a b;have cI:=ye d a b;have jf:=zz d a b;have dZ:LV.pure (.agg [ah d,.list 3 ((a8 d a b).map ae),.list 12 (po.map aA)])=true:=eN;have fR:rl 1=1:=rfl;have hzW:=eX b a;have hFD:=af3 d a b po ha hb cm h9;have hFW:an ai 202 [ar (a,b)] (ae (b-a)):=al0 (a,b) (by show rl b+rl a<=_;omega);have ri:=eX t a;refine aL Tryz.func104 ?_;refine bf (hFD) ?_;refine aN (og t a J) ?_;refine bf (hFW) ?_;refine cp aC (y7 (t-a) (b-a) J) ?_;refine aK ?_;exact fO
open fc in
theorem aJ0(d:Nat)(a b:Rat)(po:List aF)(ha:rl a<=100)(hb:rl b<=100)(cm:a<b)(h9:d<=6)(R:Nat)(h:oh po d R):an ai 108 [.agg [ah d,.list 3 ((a8 d a b).map ae),.list 12 (po.map aA)]] (iq (aaD (b-a) po)):=by
 have hl:=h.c.hl;have hd:=h.c.hd;have h6:=h.c.h6;have h5:=h.d5;have fL:=h.R1;have hR2:=h.R2;have km:∀l:List Rat,aO (l.map ae)=true:=fun l=>bm ao l;have gz:=kz d a b;have cI:=ye d a b;have jf:=zz d a b;have dZ:LV.pure (.agg [ah d,.list 3 ((a8 d a b).map ae),.list 12 (po.map aA)])=true:=eN;have fR:rl 1=1:=rfl;have hzW:=eX b a;have hFD:=af3 d a b po ha hb cm h9;have hFW:an ai 202 [ar (a,b)] (ae (b-a)):=al0 (a,b) (by show rl b+rl a<=_;omega);have w1:=h.w;have xp:=h.sq;have hdv:=pv 1 (b-a);have hbW:cW 1000 (1/(b-a),1/(b-a)):=⟨by show rl (1/(b-a))<=_;omega,by show rl (1/(b-a))<=_;omega⟩;have hqW:∀s:Rat×Rat,yU s (1/(b-a),1/(b-a))=p6 s (b-a,b-a):=fun s=>by unfold p6 rcS gg fN;simp
 have pP:an ai 9 [iL 1] (ae 1):=nZ 1 aj aj;have u0:=h.t 0;have qq0:=(h.qu 0).le (show 482*R+792<=1000000 by omega);have bb0:=(h.bt 0).le (show 480*R+791<=1000000 by omega);have z0:an ai 212 [ar (p6 (fj (eF po 0)) (jZ (fj (aS po)))),ar (1/(b-a),1/(b-a))] (ar (spW (b-a) po 0)):=by
  have:=af4 (p6 (fj (eF po 0)) (jZ (fj (aS po)))) (1/(b-a),1/(b-a)) 1000000 aj qq0 (hbW.le aj);rwa[hqW]at this
 have u1:=h.t 1;have qq1:=(h.qu 1).le (show 482*R+792<=1000000 by omega);have bb1:=(h.bt 1).le (show 480*R+791<=1000000 by omega);have z1:an ai 212 [ar (p6 (fj (eF po 1)) (jZ (fj (aS po)))),ar (1/(b-a),1/(b-a))] (ar (spW (b-a) po 1)):=by
  have:=af4 (p6 (fj (eF po 1)) (jZ (fj (aS po)))) (1/(b-a),1/(b-a)) 1000000 aj qq1 (hbW.le aj);rwa[hqW]at this
 have u2:=h.t 2;have qq2:=(h.qu 2).le (show 482*R+792<=1000000 by omega);have bb2:=(h.bt 2).le (show 480*R+791<=1000000 by omega);have z2:an ai 212 [ar (p6 (fj (eF po 2)) (jZ (fj (aS po)))),ar (1/(b-a),1/(b-a))] (ar (spW (b-a) po 2)):=by
  have:=af4 (p6 (fj (eF po 2)) (jZ (fj (aS po)))) (1/(b-a),1/(b-a)) 1000000 aj qq2 (hbW.le aj);rwa[hqW]at this
 refine aL Tryz.func108 (ht:=(fun r=>LV.db r _ (ui.pure _))) ?_;refine bf (azX d (a8 d a b) po R h) ?_;refine bf (al9 d (a8 d a b) po R J h.c) ?_;refine bf (ajI (aS po) J J (fun x hx=>aP ((w1).2 x hx) J)) ?_;refine cp cr (aNz (fj (aS po)) R J (aiq J w1.2)) ?_;refine bf (pP) ?_;refine bf (hFD) ?_;refine cp cr (hFW) ?_;refine cp aC (y7 1 (b-a) J) ?_;refine cp cr (uB (1/(b-a))) ?_;refine lN ?_;refine qK ?_;refine aW ?_;refine gE 10 [8] aG ?_;refine bf (ajI (eF po 0) J J (fun x hx=>aP ((u0).2 x hx) J)) ?_;refine aN (ara (fj (eF po 0)) (jZ (fj (aS po))) 1000000 aj bb0 (xp.1.le J) xp.2) ?_;refine aN (z0) ?_;refine aW ?_;refine cO (au.kill _ 8) ?_;refine aW ?_;refine qK ?_;refine aW ?_;refine gE 10 [8] aG ?_;refine bf (ajI (eF po 1) J J (fun x hx=>aP ((u1).2 x hx) J)) ?_;refine aN (ara (fj (eF po 1)) (jZ (fj (aS po))) 1000000 aj bb1 (xp.1.le J) xp.2) ?_;refine aN (z1) ?_;refine aW ?_;refine cO (au.kill _ 8) ?_;refine aW ?_;refine qK ?_;refine aW ?_;refine gE 10 [8] aG ?_
 refine bf (ajI (eF po 2) J J (fun x hx=>aP ((u2).2 x hx) J)) ?_;refine aN (ara (fj (eF po 2)) (jZ (fj (aS po))) 1000000 aj bb2 (xp.1.le J) xp.2) ?_;refine aN (z2) ?_;refine aW ?_;refine cO (au.kill _ 8) ?_;refine aW ?_;refine wq ?_;refine bG ?_;exact ah1
open fc in
theorem aHg(d:Nat)(a b:Rat)(po:List aF)(ha:rl a<=100)(hb:rl b<=100)(cm:a<b)(h9:d<=6)(R:Nat)(h:oh po d R)(t x:Rat)(ht:rl t<=100)(h1:a<=t)(h2:t<=b)(hx:(t-a)/(b-a)=x)(xc:rl x<=1000):an ai 112 [.agg [ah d,.list 3 ((a8 d a b).map ae),.list 12 (po.map aA)],ae t] (.aY [aR (aln (b-a) po x),iL 0]):=by
 have jh:0<po.length:=by have:=h.c.hl;omega
 have hl:=h.c.hl;have hd:=h.c.hd;have h6:=h.c.h6;have h5:=h.d5;have fL:=h.R1;have hR2:=h.R2;have km:∀l:List Rat,aO (l.map ae)=true:=fun l=>bm ao l;have gz:=kz d a b;have cI:=ye d a b;have jf:=zz d a b;have dZ:LV.pure (.agg [ah d,.list 3 ((a8 d a b).map ae),.list 12 (po.map aA)])=true:=eN;have fR:rl 1=1:=rfl;have hzW:=eX b a;have hFD:=af3 d a b po ha hb cm h9;have hFW:an ai 202 [ar (a,b)] (ae (b-a)):=al0 (a,b) (by show rl b+rl a<=_;omega);have w1:=h.w;have fb:HS (aS po) x:=acm J (fun y hy=>aP (w1.2 y hy) J) J;have q0:=fb.ev;have m0:=cF (dq (aS po) x) (dq (aS po) x);have m2:=cF (b-a) ((dq (aS po) x)*(dq (aS po) x));have m1:=pv 1 ((b-a)*((dq (aS po) x)*(dq (aS po) x)));have u0:=h.t 0;have v0:HS (eF po 0) x:=acm J (fun y hy=>aP (u0.2 y hy) J) J;have y0:=v0.ev;have u1:=h.t 1;have v1:HS (eF po 1) x:=acm J (fun y hy=>aP (u1.2 y hy) J) J;have y1:=v1.ev;have u2:=h.t 2;have v2:HS (eF po 2) x:=acm J (fun y hy=>aP (u2.2 y hy) J) J;have y2:=v2.ev;have pP:an ai 9 [iL 1] (ae 1):=nZ 1 aj aj;have hFH:an ai 101 [ar (a,b),ae t] (bL true):=by
  have:=afk (a,b) t (by show rl a+rl t<=_;omega) (by show rl t+rl b<=_;omega);rwa[show ks (a,b) t=true from by unfold ks;simp[h1,h2]]at this
 have hOw:=aoy d a b po ha hb cm h9 t J;rw[hx]at hOw;have hM:an ai 52 [ae ((dq (aS po) x)*(dq (aS po) x)),ae (b-a)] (ae ((b-a)*((dq (aS po) x)*(dq (aS po) x)))):=by
  have:=iY ((dq (aS po) x)*(dq (aS po) x)) (b-a) J;rwa[yQ ((dq (aS po) x)*(dq (aS po) x)) (b-a)]at this
 refine aL Tryz.func112 (ht:=(iz (cu.pure _) rfl)) ?_;refine bf (hFD) ?_;refine aN (hFH) ?_;refine bI ?_;refine aD rfl ?_ ?_<;>intro re pR
 ·first|exact pR.elim|cases re
 refine bf (azX d (a8 d a b) po R h) ?_;refine aN (hOw) ?_;refine bf (al9 d (a8 d a b) po R J h.c) ?_;refine aN (akj (aS po) x fb J) ?_;refine bf (pP) ?_;refine aN (iY (dq (aS po) x) (dq (aS po) x) J) ?_;refine bf (hFW) ?_;refine cp aC (hM) ?_;refine cp aC (y7 1 ((b-a)*((dq (aS po) x)*(dq (aS po) x))) J) ?_;refine lN ?_;refine qK ?_;refine aN (akj (eF po 0) x v0 J) ?_;refine cp aC (iY (1/((b-a)*((dq (aS po) x)*(dq (aS po) x)))) (dq (eF po 0) x) J) ?_;refine qM ?_;refine aN (akj (eF po 1) x v1 J) ?_;refine cp aC (iY (1/((b-a)*((dq (aS po) x)*(dq (aS po) x)))) (dq (eF po 1) x) J) ?_;refine qM ?_;refine aN (akj (eF po 2) x v2 J) ?_;refine cp aC (iY (1/((b-a)*((dq (aS po) x)*(dq (aS po) x)))) (dq (eF po 2) x) J) ?_;refine bN ?_;refine wq ?_;refine dj ?_;exact wO [] rfl rfl rfl cs (cU cs rfl) jw (.pure pu) rfl (.pure rfl)
theorem rI.dom{d:Nat}{k:List Rat}{po:List aF}{a b:Rat}(h:rI d k po a b):∀q∈nO d k po,a<=q.a/\q.b<=b:=fun q hq=>by
 rcases h.kn with⟨rfl,hl⟩|⟨t,g1,g2,ht,rfl,hl⟩
 ·rw[adq hl]at hq;rw[iM.1 hq];exact⟨jM,jM⟩
 rw[ahh hl]at hq;simp only[dS,jR,or_false]at hq;rcases hq with rfl|rfl
 ·exact⟨jM,kL g2⟩
 exact⟨kL g1,jM⟩
theorem azP{p:List Rat}(h:∀i,i<p.length->p.getD i 0=0):∀k,0<k->k<=p.length->jm p k=(0,0)
 |0,h0,_=>absurd h0 (avN _)
 |k+1,_,hk=>by
  have z:mz ((0,0):Rat×Rat) (0,0)=(0,0):=aG;rw[jm,h k J];by_cases e:k=0
  ·rw[if_pos e,z]
  rw[if_neg e,azP h k J J,z]
theorem az1{r:V3}(h:∀q,cA r q=0){l:List V3}(hl:0<l.length):mh r l=(0,0):=by
 unfold mh fj;simp only[cC];refine azP (fun i hi=>?_) _ hl aE;have hi:i<l.length:=by simpa using hi
 simp only[bq,jY,ck hi];exact h _
theorem ayV{r s:V3}(h:∀q,cA r q=cA s q)(l:List V3):mh r l=mh s l:=by
 unfold mh;rw[tQ fun q _=>h q]
theorem alN{r s:V3}(h:∀q,cA r q=cA s q)(l m:List V3):ec r l m=ec s l m:=by
 unfold ec;rw[ayV h,ayV h]
theorem aJJ(p:List Rat):∀k,0<k->(jm p k).1<=(jm p k).2
 |0,h0=>absurd h0 (avN _)
 |k+1,_=>by
  have g:∀(s:Rat×Rat) (x:Rat),(mz s (x,x)).1<=(mz s (x,x)).2:=fun s x=>by
   show gg s.1 x<=fN s.2 x;unfold gg fN;split<;>split<;>grind
  exact g _ _
theorem aBM(r:V3){l:List V3}(hl:0<l.length):(mh r l).1<=(mh r l).2:=by
 unfold mh fj;exact aJJ _ _ (by simpa using hl)
theorem akw(r:V3){l m:List V3}(hl:0<l.length)(hm:0<m.length):(ec r l m).1<=(ec r l m).2:=by
 have a:=aBM r hl;have b:=aBM r hm;show (mh r l).1-(mh r m).2<=(mh r l).2-(mh r m).1;grind
def p8(u v:V3):Rat:=1/(v.x*u.y-u.x*v.y)
def oW(u v:V3):V3:=⟨p8 u v*-v.y,p8 u v*v.x,0⟩
def oZ(u v:V3):V3:=⟨p8 u v*-u.y,p8 u v*u.x,0⟩
theorem azd(u v:V3):iN (oQ u v) (oM u v) oD=p8 u v:=by
 unfold iN p8;rw[aD7];unfold crV;rw[show -(u.x*v.y-u.y*v.x)=v.x*u.y-u.x*v.y by grind]
theorem auX(u v q:V3):cA (oW u v) q=cA (rK (oQ u v) (oM u v) oD) q:=by
 rw[asD,azd];simp only[cA,oW];grind
theorem aBg(u v q:V3):cA (oZ u v) q=cA (sM (oQ u v) (oM u v) oD) q:=by
 rw[aI8,azd];simp only[cA,oZ];grind
theorem aLA(s t:Rat×Rat)(h:s=(0,0)):mH s t=false:=by
 subst h;have e:cq ((0,0):Rat×Rat).1=0:=aG;unfold mH;rw[e];simp
theorem aF5(X Y:ny)(u v:V3){l m:List V3}(hl:0<l.length)(hm:0<m.length):qf X Y u v l m=if ks (tM X.x (gS Y.x) X.y (gS Y.y)) 0 then 0 else if mH (ec (oW u v) [l.getD 0 default] m) (ec (oW u v) [l.getD (l.length-1) default] m)&&mH (ec (oZ u v) l [m.getD 0 default]) (ec (oZ u v) l [m.getD (m.length-1) default])then 3 else 2:=by
 rw[alN (auX u v),alN (auX u v),alN (aBg u v),alN (aBg u v)];show (if _ then 0 else if cA (oQ u v) (iW (oM u v) oD)=0 then 2 else if afq u v l m&&aqz u v l m then 3 else 2)=_;by_cases h:cA (oQ u v) (iW (oM u v) oD)=0
 ·have z:∀q,cA (rK (oQ u v) (oM u v) oD) q=0:=fun q=>by
   rw[asD];unfold iN;rw[h,show (1:Rat)/0=0 by decide +kernel,Rat.zero_mul]
  have e:afq u v l m=false:=by
   unfold afq;refine aLA _ _ ?_;unfold ec;rw[az1 z aE,az1 z hm];decide +kernel
  rw[if_pos h];show _=if _ then 0 else if afq u v l m&&_ then 3 else 2
  rw[e];simp
 rw[if_neg h];rfl
namespace atC
theorem aJ{p q:Prop}(k:q)(e:p=q:=by simp only[bD,bo,bp,bh,rL,dD,du,dC,reduceIte,if_true,if_false,dW,LV.kill,bC];exact rfl):p:=e.mpr k
end atC
open atC in
theorem aL1(d:Nat)(kn:List Rat)(po:List aF)(h0:0<po.length)(hl9:po.length<=1000):an ai 217 [.agg [ah d,.list 3 (kn.map ae),.list 12 (po.map aA)]] (.aY [aR (po.getD 0 default).p,aR (po.getD (po.length-1) default).p]):=by
 have dZ:LV.pure (.agg [ah d,.list 3 (kn.map ae),.list 12 (po.map aA)])=true:=eN;have rL:((po.length:Int)-1).toNat=po.length-1:=J;refine aL Tryz.func217 (ht:=(iz (cu.pure _) (cu.pure _))) ?_;refine bH ?_;refine ace rfl 14 2 [5,6,7,8,9,10,11,12,13] aG rfl ?_;simp only[qS,tn,bD,bo,bp,bh,bh7,dh1,dh2,dh3];refine b7 ?_;refine jc ?_;refine bI ?_;refine abZ ?_;simp only[xr,jv];refine aW ?_;exact aes [] rfl rfl rfl cs (cU cs rfl) jw (.pure pu) rfl rfl cs (cU cs rfl) jw (.pure pu)
namespace apu
theorem aJ{p q:Prop}(k:q)(e:p=q:=by simp only[bD,bo,bp,bh,w9,abh,List.getD_cons_zero,List.getD_cons_succ,dD,du,dC,reduceIte,if_true,if_false,dW,LV.kill,bC];exact rfl):p:=e.mpr k
end apu
open apu in
theorem awg(d:Nat)(kn:List Rat)(po:List aF)(h0:0<po.length)(hl9:po.length<=1000):an ai 116 [.agg [ah d,.list 3 (kn.map ae),.list 12 (po.map aA)]] (.aY [.list 9 ([(po.getD 0 default).p].map aR),.list 9 ([(po.getD (po.length-1) default).p].map aR)]):=by
 have dZ:LV.pure (.agg [ah d,.list 3 (kn.map ae),.list 12 (po.map aA)])=true:=eN;refine aL Tryz.func116 (ht:=(iz (eY cu 9 _) (eY cu 9 _))) ?_;refine bf (aL1 d kn po h0 hl9) ?_;refine nn ?_;exact adC [12,14] rfl rfl (da (l:=[(po.getD 0 default).p]) cu rfl rfl rfl) rfl (da (l:=[(po.getD (po.length-1) default).p]) cu rfl rfl rfl)
open apu in
theorem aPM(dA dB:Nat)(kA kB:List Rat)(bg a9:List aF)(X Y:ny)(sA sB:Sp)(u v:V3)(R:Nat)(hR:R<=4000000)(hlA:0<bg.length)(alx:bg.length<=1000)(hlB:0<a9.length)(amg:a9.length<=1000)(hX:lL 20000000 X)(hY:lL 20000000 Y)(hu:cG R u)(hv:cG R v)(hPA:∀q∈(bg.map aF.p),cG 90000000 q)(hPB:∀q∈(a9.map aF.p),cG 90000000 q)(aI3:rl sA.1<=1000)(aH7:rl sA.2<=1000)(aJD:rl sB.1<=1000)(aO3:rl sB.2<=1000)
  (cS1:an ai 108 [.agg [ah dA,.list 3 (kA.map ae),.list 12 (bg.map aA)]] (iq X)) (cS2:an ai 108 [.agg [ah dB,.list 3 (kB.map ae),.list 12 (a9.map aA)]] (iq Y)) (cD1:an ai 19 [.agg [ah dA,.list 3 (kA.map ae),.list 12 (bg.map aA)]] (ar sA)) (cD2:an ai 19 [.agg [ah dB,.list 3 (kB.map ae),.list 12 (a9.map aA)]] (ar sB))
  (cT1:an ai 112 [.agg [ah dA,.list 3 (kA.map ae),.list 12 (bg.map aA)],ae (jO sA)] (.aY [aR u,iL 0])) (cT2:an ai 112 [.agg [ah dB,.list 3 (kB.map ae),.list 12 (a9.map aA)],ae (jO sB)] (.aY [aR v,iL 0])):an ai 43 [.agg [ah dA,.list 3 (kA.map ae),.list 12 (bg.map aA)],.agg [ah dB,.list 3 (kB.map ae),.list 12 (a9.map aA)]] (ah (mG (false,qf X Y u v (bg.map aF.p) (a9.map aF.p),0))):=by
 have dZ:LV.pure (.agg [ah dA,.list 3 (kA.map ae),.list 12 (bg.map aA)])=true:=eN;have tW:LV.pure (.agg [ah dB,.list 3 (kB.map ae),.list 12 (a9.map aA)])=true:=eN;obtain⟨x1,x2,x3⟩:=hX;obtain⟨y1,y2,y3⟩:=hY;have ng:∀{s:Rat×Rat},cW 20000000 s->cW 20000000 (gS s):=fun h=>⟨by show rl (-_)<=_;rw[aaO];exact h.2,by show rl (-_)<=_;rw[aaO];exact h.1⟩;have hN1:an ai 109 [ar Y.x] (ar (gS Y.x)):=aq1 Y.x;have hN2:an ai 109 [ar Y.y] (ar (gS Y.y)):=aq1 Y.y;have hpD:LV.pure (.agg [.agg [ar X.x,ar (gS Y.x)],.agg [ar X.y,ar (gS Y.y)]])=true:=by simp only[LV.pure,aO,bj.pure,sf]
 have hD2:=aJr X.x (gS Y.x) X.y (gS Y.y) 20000000 aj x1 (ng y1) x2 (ng y2);have tH:cW 80000001 (tM X.x (gS Y.x) X.y (gS Y.y)):=(awW x1 (ng y1) x2 (ng y2)).le aj;have hFr:=aD4 (tM X.x (gS Y.x) X.y (gS Y.y)) (aP tH.1 aj) (aP tH.2 aj);have fR:rl 1=1:=rfl;have tY:rl 0=1:=rfl;have pP:an ai 9 [iL 1] (ae 1):=nZ 1 aj aj;obtain⟨u1,u2,u3⟩:=hu;obtain⟨v1,v2,v3⟩:=hv;have m1:=cF v.x u.y;have m2:=cF u.x v.y;have m3:=eX (v.x*u.y) (u.x*v.y);have m4:=pv 1 (v.x*u.y-u.x*v.y);have hF:rl (p8 u v)<=4*R+2:=by unfold p8;omega
 have hOv:an ai 114 [ae 1,ae (v.x*u.y-u.x*v.y)] (ae (p8 u v)):=y7 1 (v.x*u.y-u.x*v.y) J;have nv:=aaO v.y;have nu:=aaO u.y;have rR:=cF (p8 u v) (-v.y);have hq2:=cF (p8 u v) v.x;have hq3:=cF (p8 u v) (-u.y);have hq4:=cF (p8 u v) u.x;have auc:cG 90000000 (oW u v):=⟨by show rl ((p8 u v)*-v.y)<=_;omega,by show rl ((p8 u v)*v.x)<=_;omega,by show rl 0<=_;omega⟩;have aCQ:cG 90000000 (oZ u v):=⟨by show rl ((p8 u v)*-u.y)<=_;omega,by show rl ((p8 u v)*u.x)<=_;omega,by show rl 0<=_;omega⟩;have mm:∀(l:List aF) (i:Nat),i<l.length->(∀q∈l.map aF.p,cG 90000000 q)->cG 90000000 (l.getD i default).p:=fun l i hi h=>h _ (cZ.2 ⟨_,qo hi,rfl⟩);have aOZ:=mm bg 0 hlA hPA;have aDL:=mm bg (bg.length-1) J hPA;have aDx:=mm a9 0 hlB hPB;have aM9:=mm a9 (a9.length-1) J hPB;have zx:=awg dA kA bg hlA alx;have w7:=awg dB kB a9 hlB amg;have uS:an ai 107 [.list 12 (bg.map aA)] (.list 9 ((bg.map aF.p).map aR)):=aoQ bg alx;have uD:an ai 107 [.list 12 (a9.map aA)] (.list 9 ((a9.map aF.p).map aR)):=aoQ a9 amg;have s1:=ajY (oW u v) 90000000 aj auc [(bg.getD 0 default).p] (a9.map aF.p) aE aE (fun q hq=>by rw[iM.1 hq];exact aOZ) fW fW hPB
 have s2:=ajY (oW u v) 90000000 aj auc [(bg.getD (bg.length-1) default).p] (a9.map aF.p) aE aE (fun q hq=>by rw[iM.1 hq];exact aDL) fW fW hPB;have s3:=ajY (oZ u v) 90000000 aj aCQ (bg.map aF.p) [(a9.getD 0 default).p] fW fW hPA aE aE (fun q hq=>by rw[iM.1 hq];exact aDx);have s4:=ajY (oZ u v) 90000000 aj aCQ (bg.map aF.p) [(a9.getD (a9.length-1) default).p] fW fW hPA aE aE (fun q hq=>by rw[iM.1 hq];exact aM9);have o1:=atM (ec (oW u v) [(bg.getD 0 default).p] (a9.map aF.p)) (ec (oW u v) [(bg.getD (bg.length-1) default).p] (a9.map aF.p)) (akw _ aE fW) (akw _ aE fW);have o2:=atM (ec (oZ u v) (bg.map aF.p) [(a9.getD 0 default).p]) (ec (oZ u v) (bg.map aF.p) [(a9.getD (a9.length-1) default).p]) (akw _ fW aE) (akw _ fW aE);have hK:(mG (false,qf X Y u v (bg.map aF.p) (a9.map aF.p),0))=if ks (tM X.x (gS Y.x) X.y (gS Y.y)) 0=true then 1 else if ((mH (ec (oW u v) [(bg.getD 0 default).p] (a9.map aF.p)) (ec (oW u v) [(bg.getD (bg.length-1) default).p] (a9.map aF.p)))&&(mH (ec (oZ u v) (bg.map aF.p) [(a9.getD 0 default).p]) (ec (oZ u v) (bg.map aF.p) [(a9.getD (a9.length-1) default).p])))=true then 3 else 2:=by
  rw[aF5 X Y u v fW fW];simp only[amA,cC];unfold mG;split
  ·rfl
  split<;>rfl
 refine aL Tryz.func43 (ht:=(fun g=>LV.db g _ (adM _))) ?_;refine bM ?_;refine pJ ?_;refine dN rfl (.cons (.pure dZ) .nil) cS1 ?_;refine pJ ?_;refine dN rfl (.cons (.pure tW) .nil) cS2 ?_;refine bf (hN1) ?_;refine al rfl (abl (v0:=ar X.x) (v1:=ar (gS Y.x)) acq lF ai4 lz rfl rfl lz lz (bj.pure _) (bj.pure _)) ?_;refine bf (hN2) ?_;refine al rfl (abl (v0:=ar X.y) (v1:=ar (gS Y.y)) acq lF ai4 lz rfl rfl lz lz (bj.pure _) (bj.pure _)) ?_;refine al rfl (abl (v0:=.agg [ar X.x,ar (gS Y.x)]) (v1:=.agg [ar X.y,ar (gS Y.y)]) Tryz.underlying158 aoe ap8 lz rfl rfl lz lz pu pu) ?_;refine bH ?_;refine dN rfl (.cons (.pure hpD) .nil) hD2 ?_;refine cp cr (hFr) ?_;refine bI ?_;refine aD rfl ?_ ?_<;>intro abv h38
 ·refine bK ?_;rw[hK,if_pos (show ks (tM X.x (gS Y.x) X.y (gS Y.y)) 0=true by simpa using abv)];exact iB
 refine bI ?_;refine gE 9 [7] aG ?_;refine pJ ?_;refine pJ ?_;refine dN rfl (.cons (.pure dZ) .nil) cD1 ?_;refine cp cr (arK sA aI3 aH7) ?_;refine dN rfl (.cons (.pure dZ) (.cons (.pure (ao.pure _)) .nil)) cT1 ?_;refine bM ?_;refine gE 9 [7] aG ?_;refine pJ ?_;refine pJ ?_;refine dN rfl (.cons (.pure tW) .nil) cD2 ?_;refine cp cr (arK sB aJD aO3) ?_;refine dN rfl (.cons (.pure tW) (.cons (.pure (ao.pure _)) .nil)) cT2 ?_;refine aN (iY v.x u.y J) ?_;refine aN (iY u.x v.y J) ?_;refine cp aC (og (v.x*u.y) (u.x*v.y) J) ?_;refine bf (pP) ?_;refine aN (hOv) ?_;refine bf (agS v.y) ?_;refine cp aC (iY (p8 u v) (-v.y) J) ?_;refine aN (iY (p8 u v) v.x J) ?_;refine tj (aiP rfl rfl) ?_;refine bf (agS u.y) ?_;refine cp aC (iY (p8 u v) (-u.y) J) ?_;refine aN (iY (p8 u v) u.x J) ?_;refine tj (aiP rfl rfl) ?_;refine al rfl (abl (v0:=aR (oW u v)) (v1:=aR (oZ u v)) Tryz.underlying176 jw au4 lz rfl rfl (by simp[lay,cu.aq,cu.isAgg]) (by simp[lay,cu.aq,cu.isAgg]) (cu.pure _) (cu.pure _)) ?_;refine a6 ?_;refine pJ ?_;refine dN rfl (.cons (.pure dZ) .nil) zx ?_;refine bf (uD) ?_;refine rC (s1) ?_;refine rC (s2) ?_;refine cp aC (o1) ?_
 refine bI ?_;refine aD rfl ?_ ?_<;>intro azt aRw
 ·refine bK ?_;have ho1:(mH (ec (oW u v) [(bg.getD 0 default).p] (a9.map aF.p)) (ec (oW u v) [(bg.getD (bg.length-1) default).p] (a9.map aF.p)))=false:=by simpa using azt
  rw[hK,if_neg (show ¬ks (tM X.x (gS Y.x) X.y (gS Y.y)) 0=true by simpa using abv),if_neg (show ¬((mH (ec (oW u v) [(bg.getD 0 default).p] (a9.map aF.p)) (ec (oW u v) [(bg.getD (bg.length-1) default).p] (a9.map aF.p)))&&(mH (ec (oZ u v) (bg.map aF.p) [(a9.getD 0 default).p]) (ec (oZ u v) (bg.map aF.p) [(a9.getD (a9.length-1) default).p])))=true by rw[ho1];simp)];exact iB
 refine aK ?_;refine pJ ?_;refine dN rfl (.cons (.pure tW) .nil) w7 ?_;refine bf (uS) ?_;refine rC (s3) ?_;refine rC (s4) ?_;refine cp aC (o2) ?_;refine bI ?_;refine aD rfl ?_ ?_<;>intro aA8 aRx
 ·refine bK ?_;have yc:(mH (ec (oZ u v) (bg.map aF.p) [(a9.getD 0 default).p]) (ec (oZ u v) (bg.map aF.p) [(a9.getD (a9.length-1) default).p]))=false:=by simpa using aA8
  rw[hK,if_neg (show ¬ks (tM X.x (gS Y.x) X.y (gS Y.y)) 0=true by simpa using abv),if_neg (show ¬((mH (ec (oW u v) [(bg.getD 0 default).p] (a9.map aF.p)) (ec (oW u v) [(bg.getD (bg.length-1) default).p] (a9.map aF.p)))&&(mH (ec (oZ u v) (bg.map aF.p) [(a9.getD 0 default).p]) (ec (oZ u v) (bg.map aF.p) [(a9.getD (a9.length-1) default).p])))=true by rw[yc];simp)];exact iB
 refine bH ?_;have ho1:(mH (ec (oW u v) [(bg.getD 0 default).p] (a9.map aF.p)) (ec (oW u v) [(bg.getD (bg.length-1) default).p] (a9.map aF.p)))=true:=by simpa using azt
 have yc:(mH (ec (oZ u v) (bg.map aF.p) [(a9.getD 0 default).p]) (ec (oZ u v) (bg.map aF.p) [(a9.getD (a9.length-1) default).p]))=true:=by simpa using aA8
 rw[hK,if_neg (show ¬ks (tM X.x (gS Y.x) X.y (gS Y.y)) 0=true by simpa using abv),if_pos (show ((mH (ec (oW u v) [(bg.getD 0 default).p] (a9.map aF.p)) (ec (oW u v) [(bg.getD (bg.length-1) default).p] (a9.map aF.p)))&&(mH (ec (oZ u v) (bg.map aF.p) [(a9.getD 0 default).p]) (ec (oZ u v) (bg.map aF.p) [(a9.getD (a9.length-1) default).p])))=true by rw[ho1,yc];rfl)];exact iB
theorem aAE(a b:Nat×aV)(h:a.1≠b.1):∀l:List (Nat×aV),hp (l++[a,b])=hp (l++[b,a])
 | []=>by
  funext c;obtain⟨a1,a2⟩:=a;obtain⟨b1,b2⟩:=b;have h:a1≠b1:=h;simp only[fD,hp];by_cases ha:c=a1
  ·subst ha;have:Nat.beq c b1=false:=by rw[<-y9,uy];exact h
   simp[this]
  have:Nat.beq c a1=false:=by rw[<-y9,uy];exact ha
  simp[this]
 |(d,x)::l=>by
  funext c;simp only[List.cons_append,hp];rw[aAE a b h l]
namespace avH
theorem aJ{p q:Prop}(k:q)(e:p=q:=by simp only[bD,bo,bp,bh,ey,List.replicate_zero,Nat.add_zero,List.length_append,List.length_replicate,List.take_zero,aa6,acM,aa2,yr,aAB,cg,jJ,nm,ma,xz,cC,jt,dR,fX,fD,gy,gU,ey,dD,du,dC,reduceIte,if_true,if_false,dW,LV.kill,bC];exact rfl):p:=e.mpr k
end avH
open avH in
theorem aKi(d:Nat)(a b:Rat)(po:List aF)(ha:rl a<=100)(hb:rl b<=100)(cm:a<b)(h9:d<=6)(lo hi x y:Rat)(se:rl lo<=100)(vO:rl hi<=100)(k1:a<=lo)(k2:lo<hi)(k3:hi<=b)(hx:(lo-a)/(b-a)=x)(hy:(hi-a)/(b-a)=y)(iT:x<1)(xc:rl (1-x)+rl x+1<=20)(hyr:rl (1-y)+rl y+1<=20)(R:Nat)(hR:R<=1000000)(h:uG po d R)(hN:∀k,∀z∈a7 po k,rl z<=10000)(hW:∀z∈aS po,rl z<=10000)(lH:0<=x)(ky:0<=y)(qP:y<=1):an ai 40 [.agg [ah d,.list 3 ((a8 d a b).map ae),.list 12 (po.map aA)],ae lo,ae hi] (.aY [.agg [ah d,.list 3 ((a8 d lo hi).map ae),.list 12 ((lT po x y).map aA)],iL 0]):=by
 have hl:=h.hl;have hd:=h.hd;have h6:=h.h6;have dZ:LV.pure (.agg [ah d,.list 3 ((a8 d a b).map ae),.list 12 (po.map aA)])=true:=eN;have k4:lo<=b:=ba;have k5:a<=hi:=ba;have hHa:an ai 101 [ar (a,b),ae lo] (bL true):=by
  have:=afk (a,b) lo (by show rl a+rl lo<=_;omega) (by show rl lo+rl b<=_;omega);rwa[show ks (a,b) lo=true from by unfold ks;simp[k1,k4]]at this
 have hHb:an ai 101 [ar (a,b),ae hi] (bL true):=by
  have:=afk (a,b) hi (by show rl a+rl hi<=_;omega) (by show rl hi+rl b<=_;omega);rwa[show ks (a,b) hi=true from by unfold ks;simp[k5,k3]]at this
 have xW:¬fY lo hi>=0:=fun e=>by have:=xx.1 e;grind
 have hOx:=aoy d a b po ha hb cm h9 lo J;have hOy:=aoy d a b po ha hb cm h9 hi J;rw[hx]at hOx;rw[hy]at hOy;have hcr:=h;have fR:rl 1=1:=rfl;have aQI:=eX 1 x;have aP5:=eX 1 y;have hdv:=pv (y-x) (1-x);have aQg:=eX y x;have aZ:x≠1:=ba;have hw3:=tb po;have mK:=s9 po 0;have rR:=s9 po 1;have hq2:=s9 po 2;have jJ:(df (a7 po 0) x y).length=d+1:=by rw[ac9];omega
 have nm:(df (a7 po 1) x y).length=d+1:=by rw[ac9];omega
 have ma:(df (a7 po 2) x y).length=d+1:=by rw[ac9];omega
 have xz:(df (aS po) x y).length=d+1:=by rw[ac9];omega
 have km:∀l:List Rat,aO (l.map ae)=true:=fun l=>bm ao l;have ag4:∀q0 vF q2' q3':Rat,LV.pure (.agg [ae q0,ae vF,ae q2',ae q3'])=true:=fun _ _ _ _=>by simp[LV.pure,aO,ao.pure]
 have hP:∀p:List Rat,p.length=d+1->(∀z∈p,rl z<=10000)->an ai 103 [.list 3 (p.map ae),ae x,ae y] (.list 3 ((df p x y).map ae)):=fun p hp hz =>
  aHc p x y J J (fun _=>⟨ale J (fun z hh=>aP (hz z hh) aj) J,ale (by rw[aa4];omega) (fun z hh=>aP (axc (S:=20) J hz aj J z hh) aj) J⟩) (fun e=>absurd e aZ)
 have hP0:=hP (a7 po 0) J (hN 0);have uS:=hP (a7 po 1) J (hN 1);have uD:=hP (a7 po 2) J (hN 2);have hP3:=hP (aS po) J hW;refine aL Tryz.func40 (ht:=(iz eN rfl)) ?_;have aa6:True:=trivial;have acM:True:=trivial;have aa2:True:=trivial;have yr:True:=trivial;have aAB:True:=trivial;refine bf (af3 d a b po ha hb cm h9) ?_;refine aN (uf lo hi J) ?_;refine bc ?_;refine al ak4 gJ ?_;refine al ak4 gJ ?_;refine dN ak4 (.cons eu (.cons eu .nil)) (hHa) ?_;refine al ak4 (.not rfl) ?_;refine al rfl (.r7 rfl ((decide_eq_false xW))) ?_;refine bn ?_;refine al oN gJ ?_;refine al oN gJ ?_;refine dN oN (.cons eu (.cons eu .nil)) (hHb) ?_;refine adE ?_;refine bc ?_;refine vM ?_;refine bf (al9 d (a8 d a b) po R hR h) ?_;refine qM ?_;refine aN (hOx) ?_;refine aN (hOy) ?_;refine cp kN (hP0) ?_;refine qM ?_;refine aN (hOx) ?_;refine aN (hOy) ?_;refine cp kN (uS) ?_;refine qM ?_;refine aN (hOx) ?_;refine aN (hOy) ?_;refine cp kN (uD) ?_;refine bN ?_;refine xV ?_
 refine bK ?_;refine qO (b:=_) rfl aj ?_;refine aN (hOx) ?_;refine aN (hOy) ?_;refine cp kN (hP3) ?_;refine bN ?_;refine wq ?_;refine ab7 ?_;refine iS (((au.cell 11 rfl (fun Z μ w cs h=>amk 64 3 _ _ Z μ w cs h)).trans (au.qy _ 64 3 rfl)).trans ((au.cell 11 rfl (fun Z μ w cs h=>aeB 91 12 _ _ Z μ w cs h)).trans (au.qy _ 91 12 rfl))) ?_;refine dy (fun(i:Nat) L=>(mS L [(3,⟨3,[.agg [ah d,.list 3 ((a8 d a b).map ae),.list 12 (po.map aA)]],true⟩),(4,⟨3,[ae lo],true⟩),(5,⟨3,[ae hi],true⟩),(6,⟨3,[.agg [.v (.int .i64 0),.v (.slice none 0 0),.v (.slice none 0 0)]],true⟩),(8,⟨6,[ar (a,b)],true⟩),(9,⟨4,[.agg [.list 3 ((df (a7 po 0) x y).map ae),.list 3 ((df (a7 po 1) x y).map ae),.list 3 ((df (a7 po 2) x y).map ae),.list 3 ((df (aS po) x y).map ae)]],true⟩),(11,⟨3,[.agg [ah d,.ref 64 3 0 i,.ref 91 12 0 i]],true⟩),(64,⟨3,(av i lo).map ae,true⟩),(91,⟨12,((lT po x y).take i).map aA,true⟩)] [(12,ah i),(11,.aB 11 3 0 0),(9,.aB 9 4 0 0),(6,.aB 6 3 0 0),(5,.aB 5 3 0 0),(4,.aB 4 3 0 0),(3,.aB 3 3 0 0)])) (fun i=>i<=d+1) (fun i=>d+1-i) 0 (bW _) ?_;rintro i L2 cM;refine bM ?_;refine aD rfl ?_ ?_<;>intro aRt h57
 ·have hi3:i<d+1:=J;have aa2:=als i lo;have aa6:((av i lo).map ae).take i=(av i lo).map ae:=cy aE;have hpj:=amT hcr lH iT ky qP (j:=i) J;have kX:((lT po x y).take i).length=i:=by rw[fH,abo];omega
  have acM:(((lT po x y).take i).map aA).take i=((lT po x y).take i).map aA:=cy fW;have aAB:(lT po x y).take i++[cpQ po x y i]=(lT po x y).take (i+1):=by
   rw[<-azn (x:=x) (y:=y) (show i<po.length by omega),te,bq,ck (by rw[abo];omega)];rfl
  have hcw:rl ((df (aS po) x y).getD i 0)<=100000000:=by
   rw[ajn hcr iT J];exact aP (ab3 (R:=10000) (S:=20) J J h6 J fun i=>ix aj hW i) aj
  have aom:rl ((df (a7 po 0) x y).getD i 0)<=100000000:=by
   rw[aep hcr iT 0 J];exact aP (ab3 (R:=10000) (S:=20) J J h6 J fun i=>ix aj (hN 0) i) aj
  have ao8:rl ((df (a7 po 1) x y).getD i 0)<=100000000:=by
   rw[aep hcr iT 1 J];exact aP (ab3 (R:=10000) (S:=20) J J h6 J fun i=>ix aj (hN 1) i) aj
  have ap4:rl ((df (a7 po 2) x y).getD i 0)<=100000000:=by
   rw[aep hcr iT 2 J];exact aP (ab3 (R:=10000) (S:=20) J J h6 J fun i=>ix aj (hN 2) i) aj
  have hDr:an ai 56 [.agg [ae ((df (a7 po 0) x y).getD i 0),ae ((df (a7 po 1) x y).getD i 0),ae ((df (a7 po 2) x y).getD i 0),ae ((df (aS po) x y).getD i 0)]] (aA (cpQ po x y i)):=by
   have:=apD _ _ _ _ 100000000 aj aom ao8 ap4 hcw;have aGn:(df (aS po) x y).getD i 0≠0:=ba;have hr:1/(df (aS po) x y).getD i 0*(df (aS po) x y).getD i 0=1:=tV aGn;have eq:kJ (1/(df (aS po) x y).getD i 0) ⟨(df (a7 po 0) x y).getD i 0,(df (a7 po 1) x y).getD i 0,(df (a7 po 2) x y).getD i 0⟩=(cpQ po x y i).p:=by
    unfold kJ cpQ;congr 1
    ·exact((aqq hr _).trans (yQ _ _)).symm
    ·exact((aqq hr _).trans (yQ _ _)).symm
    exact((aqq hr _).trans (yQ _ _)).symm
   rw[eq]at this;exact this
  have aFO:=ag4 ((df (a7 po 0) x y).getD i 0) ((df (a7 po 1) x y).getD i 0) ((df (a7 po 2) x y).getD i 0) ((df (aS po) x y).getD i 0);refine b7 ?_;refine cj rfl (.eU (d:=64) (news:=[ae lo]) rfl rfl rfl rfl aE (.inl rfl) aj dp dp jg cS rfl jq (.inl ⟨63,0,_,rfl,by decide,rfl,rfl,by simp,rfl,by simp[aO,ao.pure]⟩) aQ aQ aj) ?_;refine bf (hDr) ?_;refine bn ?_;refine cj rfl (.app (news:=[aA (cpQ po x y i)]) rfl rfl rfl rfl rfl fW (.inl rfl) aj mg mg xu oT cs B42 (.inl ⟨90,0,_,rfl,by decide,rfl,rfl,by simp,rfl,by simp[aO,ez.pure]⟩) aQ aQ aj) ?_;refine aW ?_;refine cO ((au.kill _ 63).trans (au.kill _ 90)) ?_;refine nL ?_;exact gM
 obtain rfl:i=d+1:=J;have hEp:(lT po x y).take (d+1)=(lT po x y):=cy (by rw[abo];omega);simp only[hEp];refine bG ?_
 refine dy (fun(i:Nat) L=>(mS L [(3,⟨3,[.agg [ah d,.list 3 ((a8 d a b).map ae),.list 12 (po.map aA)]],true⟩),(4,⟨3,[ae lo],true⟩),(5,⟨3,[ae hi],true⟩),(6,⟨3,[.agg [.v (.int .i64 0),.v (.slice none 0 0),.v (.slice none 0 0)]],true⟩),(8,⟨6,[ar (a,b)],true⟩),(9,⟨4,[.agg [.list 3 ((df (a7 po 0) x y).map ae),.list 3 ((df (a7 po 1) x y).map ae),.list 3 ((df (a7 po 2) x y).map ae),.list 3 ((df (aS po) x y).map ae)]],true⟩),(11,⟨3,[.agg [ah d,.ref 64 3 0 (d+1+i),.ref 91 12 0 (d+1)]],true⟩),(91,⟨12,(lT po x y).map aA,true⟩),(64,⟨3,(av (d+1) lo++av i hi).map ae,true⟩)] [(13,ah i),(11,.aB 11 3 0 0),(9,.aB 9 4 0 0),(6,.aB 6 3 0 0),(5,.aB 5 3 0 0),(4,.aB 4 3 0 0),(3,.aB 3 3 0 0)])) (fun i=>i<=d+1) (fun i=>d+1-i) 0 (bW _) (h0:=⟨_,au.of_eq (aX (aX (aX (aX (aX (aX (aX (jB (Eq.trans (b:=hp ([(3,⟨3,[.agg [ah d,.list 3 ((a8 d a b).map ae),.list 12 (po.map aA)]],true⟩),(4,⟨3,[ae lo],true⟩),(5,⟨3,[ae hi],true⟩),(6,⟨3,[.agg [.v (.int .i64 0),.v (.slice none 0 0),.v (.slice none 0 0)]],true⟩),(8,⟨6,[ar (a,b)],true⟩),(9,⟨4,[.agg [.list 3 ((df (a7 po 0) x y).map ae),.list 3 ((df (a7 po 1) x y).map ae),.list 3 ((df (a7 po 2) x y).map ae),.list 3 ((df (aS po) x y).map ae)]],true⟩),(11,⟨3,[.agg [ah d,.ref 64 3 0 (d+1+0),.ref 91 12 0 (d+1)]],true⟩)]++[(64,⟨3,(av (d+1) lo++av 0 hi).map ae,true⟩),(91,⟨12,(lT po x y).map aA,true⟩)])) cl (aAE (64,⟨3,(av (d+1) lo++av 0 hi).map ae,true⟩) (91,⟨12,(lT po x y).map aA,true⟩) (show (64:Nat)≠91 by decide) [(3,⟨3,[.agg [ah d,.list 3 ((a8 d a b).map ae),.list 12 (po.map aA)]],true⟩),(4,⟨3,[ae lo],true⟩),(5,⟨3,[ae hi],true⟩),(6,⟨3,[.agg [.v (.int .i64 0),.v (.slice none 0 0),.v (.slice none 0 0)]],true⟩),(8,⟨6,[ar (a,b)],true⟩),(9,⟨4,[.agg [.list 3 ((df (a7 po 0) x y).map ae),.list 3 ((df (a7 po 1) x y).map ae),.list 3 ((df (a7 po 2) x y).map ae),.list 3 ((df (aS po) x y).map ae)]],true⟩),(11,⟨3,[.agg [ah d,.ref 64 3 0 (d+1+0),.ref 91 12 0 (d+1)]],true⟩)]))) cl) cl) cl) cl) cl) cl) cl)⟩) ?_
 rintro i L3 cM;refine bM ?_;refine aD rfl ?_ ?_<;>intro aEH h96
 ·have hi3:i<d+1:=J;have yr:av (d+1) lo++av i hi++[hi]=av (d+1) lo++av (i+1) hi:=by rw[pn,als]
  have aa6:((av (d+1) lo++av i hi).map ae).take (d+1+i)=(av (d+1) lo++av i hi).map ae:=cy aE;refine bM ?_;refine cj rfl (.eU (d:=64) (news:=[ae hi]) rfl rfl rfl rfl aE (.inl rfl) aj dp dp jg cS rfl jq (.inl ⟨102,0,_,rfl,by decide,rfl,rfl,by simp,rfl,by simp[aO,ao.pure]⟩) aQ aQ aj) ?_;refine aW ?_;refine cO (au.kill _ 102) ?_;refine nL ?_;exact gM
 obtain rfl:i=d+1:=J;refine dj ?_;exact wO [64,91] rfl rfl rfl cs (cU cs rfl) fo (.agg (.cons (.pure rfl) (.cons (da (l:=a8 d lo hi) ao rfl rfl (by simp[a8])) (.cons (da (l:=(lT po x y)) ez rfl rfl (by rw[abo];omega)) .nil)))) rfl (.pure rfl)
open fc in
theorem aHX(d:Nat)(kn:List Rat)(po:List aF)(R:Nat)(hR:R<=1000000)(h:uG po d R):an ai 42 [.agg [ah d,.list 3 (kn.map ae),.list 12 (po.map aA)]] (iq (zH (po.map (·.p)))):=by
 have hl:=h.hl;have hd:=h.hd;have h6:=h.h6;have vy:∀i,i<(po.map (·.p)).length->cG R ((po.map (·.p)).getD i default):=fun i hi=>by
  rw[cC]at hi;rw[amA];exact(h.ok _ (qo hi)).1
 have dZ:LV.pure (.agg [ah d,.list 3 (kn.map ae),.list 12 (po.map aA)])=true:=eN;refine aL Tryz.func42 (ht:=(fun r=>LV.db r _ (ui.pure _))) ?_;refine bf (aoQ po J) ?_;refine cp cr (aDK (po.map (·.p)) fW fW R hR vy) ?_;refine iR ?_;exact ah1
namespace aA0
theorem aJ{p q:Prop}(k:q)(e:p=q:=by simp only[bD,bo,bp,bh,cg,rL,cC,dD,du,dC,reduceIte,if_true,if_false,dW,LV.kill,bC];exact rfl):p:=e.mpr k
end aA0
open aA0 in
theorem aDX(k:List Rat)(t:Rat)(h0:0<k.length)(hl:k.length<=1000)(hk:∀x∈k,rl x<=1000)(ht:rl t<=1000)(g1:k.getD 0 0<t)(g2:t<k.getD (k.length-1) 0):an ai 195 [.list 3 (k.map ae),ae t] (bL true):=by
 have rL:((k.length:Int)-1).toNat=k.length-1:=J;have e0:rl (k.getD 0 0)<=1000:=hk _ (by rw[bq,ck h0];exact qX h0);have e9:rl (k.getD (k.length-1) 0)<=1000:=hk _ (by rw[bq,ck J];exact qX _);have uk:fY (k.getD 0 0) t<0:=ug.2 g1;have uU:fY t (k.getD (k.length-1) 0)<0:=ug.2 g2;refine aL Tryz.func195 ?_;refine aN (uf (k.getD 0 0) t J) ?_;refine bc ?_;refine al abn gJ ?_;refine al abn (.move _) ?_;refine al abn (.move _) ?_;refine al abn zj ?_;refine al abn (.bin rfl rfl (aem J J)) ?_;refine al abn xt ?_;refine al abn gJ ?_;refine dN abn (.cons eu (.cons eu .nil)) (uf t (k.getD (k.length-1) 0) J) ?_;refine al abn (.bin rfl rfl rfl) ?_;refine al rfl (.sR rfl ((decide_eq_true uk))) ?_;refine aK ?_;exact eG (x:=bL (decide (fY t (k.getD (k.length-1) 0)<0))) rfl (by rw[decide_eq_true uU];exact .pure rfl)
structure sdF (q:jP) (s:Sp):Prop where
 cut:an ai 40 [.agg [ah q.d,.list 3 ((a8 q.d q.a q.b).map ae),.list 12 (q.po.map aA)],ae s.1,ae s.2] (.aY [.agg [ah q.d,.list 3 ((a8 q.d s.1 s.2).map ae),.list 12 ((fu q s).map aA)],iL 0])
 bx:an ai 42 [.agg [ah q.d,.list 3 ((a8 q.d s.1 s.2).map ae),.list 12 ((fu q s).map aA)]] (iq (zH ((fu q s).map aF.p)))
 sp:an ai 108 [.agg [ah q.d,.list 3 ((a8 q.d s.1 s.2).map ae),.list 12 ((fu q s).map aA)]] (iq (aaD (s.2-s.1) (fu q s)))
 dom:an ai 19 [.agg [ah q.d,.list 3 ((a8 q.d s.1 s.2).map ae),.list 12 ((fu q s).map aA)]] (ar s)
 tg:an ai 112 [.agg [ah q.d,.list 3 ((a8 q.d s.1 s.2).map ae),.list 12 ((fu q s).map aA)],ae (jO s)] (.aY [aR (lkU q s),iL 0])
theorem amw{q:jP}{Dp D N:Nat}(h:u9 q Dp D N)(qc:Dp<=23){σ:Sp}(hs:mX Dp σ):sdF q (cH q.a q.b σ):=by
 obtain⟨s1,s2,s3,s4,s5⟩:=hs;have yh:mX Dp σ:=⟨s1,s2,s3,s4,s5⟩;have cm:=h.ab;have ag2:=yh.rl J;have hra:=h.ra;have hrb:=h.rb;have h5:=h.d5;have hc:=h.c;have r1:=tu hra hrb ag2.1;have r2:=tu hra hrb ag2.2;have eC:fu q (cH q.a q.b σ)=lT q.po σ.1 σ.2:=by
  unfold fu;rw[show ((cH q.a q.b σ).1-q.a)/(q.b-q.a)=σ.1 from adb cm σ.1,show ((cH q.a q.b σ).2-q.a)/(q.b-q.a)=σ.2 from adb cm σ.2]
 have iT:σ.1<1:=ba;have ky:0<=σ.2:=ba;have ahS:σ.1<=1:=ba;have hu1:=ajm s1 s3 ahS;have wG:=ajm s2 ky s5;have hE:0<2^Dp:=Nat.pow_pos aj;have hR:=aCX hc s3 iT ky s5 (k:=100) h.D0 hE hu1 wG h.cc h.hN h.hD aj;have sD:oh (fu q (cH q.a q.b σ)) q.d 100:=by rw[eC];exact⟨hR,J,by decide,by decide⟩
 have bV:(cH q.a q.b σ).1<(cH q.a q.b σ).2:=afP cm s4;have aqI:=akh cm s3 ahS;have apf:=akh cm ky s5;have e1:=eX 1 σ.1;have e2:=eX 1 σ.2;have rr1:rl 1=1:=rfl;have ew:=eX (cH q.a q.b σ).2 (cH q.a q.b σ).1;have r1':rl (cH q.a q.b σ).1<=95:=by show rl (q.a+(q.b-q.a)*σ.1)<=_;omega
 have r2':rl (cH q.a q.b σ).2<=95:=by show rl (q.a+(q.b-q.a)*σ.2)<=_;omega
 have hW:rl ((cH q.a q.b σ).2-(cH q.a q.b σ).1)<=200:=J;have zy:=az0 bV;have hmr:rl (jO (cH q.a q.b σ))<=95:=by
  rw[akA];have hm:=(yh.half.1).rl (show Dp+1<=24 by omega);have:=tu hra hrb hm.2;have e:(oY σ).2=jO σ:=rfl;rw[e]at this;omega
 have hlen:(fu q (cH q.a q.b σ)).length=q.d+1:=sD.c.hl;have nt:∀z∈(fu q (cH q.a q.b σ)).map aF.p,cG 100 z:=fun z hz=>by
  obtain⟨y,hy,rfl⟩:=cZ.1 hz;exact(sD.c.ok y hy).1
 have hbx:lL 100 (zH ((fu q (cH q.a q.b σ)).map aF.p)):=by
  have hb:∀i,i<((fu q (cH q.a q.b σ)).map aF.p).length->cG 100 (((fu q (cH q.a q.b σ)).map aF.p).getD i default):=fun i hi=>by
   rw[bq,ck hi];exact nt _ (qX hi)
  have hl0:((fu q (cH q.a q.b σ)).map aF.p).length-1<((fu q (cH q.a q.b σ)).map aF.p).length:=by rw[cC,hlen];omega
  exact⟨adj hb 0 _ hl0,adj hb 1 _ hl0,adj hb 2 _ hl0⟩
 have ap7:=asF bV;have hrh:rl ((jO (cH q.a q.b σ)-(cH q.a q.b σ).1)/((cH q.a q.b σ).2-(cH q.a q.b σ).1))<=4:=by rw[ap7];decide +kernel
 have aif:=aKi q.d q.a q.b q.po J J cm J (cH q.a q.b σ).1 (cH q.a q.b σ).2 σ.1 σ.2 J J aqI.1 bV apf.2 (adb cm σ.1) (adb cm σ.2) iT J J 1000 aj hc (fun k z hz=>aP (aht hc.ok k z hz) aj) (fun z hz=>aP (aha hc.ok z hz) aj) s3 ky s5;rw[<-eC]at aif;exact⟨aif,aHX _ _ _ 100 aj sD.c,aJ0 _ _ _ _ J J bV J 100 sD,af3 _ _ _ _ J J bV J,aHg _ _ _ _ J J bV J 100 sD _ _ J zy.1 zy.2 rfl J⟩
theorem ayM{q:jP}{Dp D N:Nat}(h:u9 q Dp D N)(qc:Dp<=23){σ:Sp}(yh:mX Dp σ):rl (cH q.a q.b σ).1<=1000/\rl (cH q.a q.b σ).2<=1000:=by
 have hra:=h.ra;have hrb:=h.rb;have hr:=yh.rl (show Dp<=24 by omega);have a:=tu hra hrb hr.1;have b:=tu hra hrb hr.2;exact⟨by show rl (q.a+(q.b-q.a)*σ.1)<=_;omega,by show rl (q.a+(q.b-q.a)*σ.2)<=_;omega⟩
theorem aFC{p q:jP}{Dp D N D' N':Nat}(hp:u9 p Dp D N)(hq:u9 q Dp D' N')(qc:Dp<=23){σ τ:Sp}(hs:mX Dp σ)(ht:mX Dp τ):
  an ai 43 [.agg [ah p.d,.list 3 ((a8 p.d (cH p.a p.b σ).1 (cH p.a p.b σ).2).map ae),.list 12 ((fu p (cH p.a p.b σ)).map aA)],.agg [ah q.d,.list 3 ((a8 q.d (cH q.a q.b τ).1 (cH q.a q.b τ).2).map ae),.list 12 ((fu q (cH q.a q.b τ)).map aA)]] (ah (mG (false,qf (aaD ((cH p.a p.b σ).2-(cH p.a p.b σ).1) (fu p (cH p.a p.b σ))) (aaD ((cH q.a q.b τ).2-(cH q.a q.b τ).1) (fu q (cH q.a q.b τ))) (lkU p (cH p.a p.b σ)) (lkU q (cH q.a q.b τ)) ((fu p (cH p.a p.b σ)).map aF.p) ((fu q (cH q.a q.b τ)).map aF.p),0))):=by
 have h1:=afs hp qc hs;have h2:=afs hq qc ht;have f1:=amw hp qc hs;have f2:=amw hq qc ht;have hpd:=hp.d5;have hqd:=hq.d5;have l1':=h1.len;have l2':=h2.len;have g1:=(ayM hp qc hs);have g2:=(ayM hq qc ht);exact aPM p.d q.d _ _ _ _ _ _ (cH p.a p.b σ) (cH q.a q.b τ) _ _ 3700000 aj J J J J h1.spd h2.spd h1.tan h2.tan (fun z hz=>(h1.pos z hz).le aj) (fun z hz=>(h2.pos z hz).le aj) g1.1 g1.2 g2.1 g2.2 f1.sp f2.sp f1.dom f2.dom f1.tg f2.tg
def oL(k:List Rat)(t:Rat)(i0 i:Nat):List Rat:=if i<=i0 then k.take i else k.take i0++t::(k.drop i0).take (i-i0)
theorem aHw{k:List Rat}{t:Rat}{i0 i:Nat}(h:i<i0)(hk:i<k.length):oL k t i0 i++[k.getD i 0]=oL k t i0 (i+1):=by
 unfold oL;rw[if_pos J,if_pos J,te,bq,ck hk];rfl
theorem aIf{k:List Rat}{t:Rat}{i0:Nat}(hk:i0<k.length):oL k t i0 i0++[t]++[k.getD i0 0]=oL k t i0 (i0+1):=by
 unfold oL;rw[if_pos (bF _),if_neg J,show i0+1-i0=0+1 by omega,te,u6,bq,ck (show i0+0<k.length by omega),ck hk];simp
theorem aEJ{k:List Rat}{t:Rat}{i0 i:Nat}(h:i0<i)(hk:i<k.length):oL k t i0 i++[k.getD i 0]=oL k t i0 (i+1):=by
 unfold oL;rw[if_neg J,if_neg J,show i+1-i0=(i-i0)+1 by omega,te,u6,show i0+(i-i0)=i by omega,bq,ck hk];simp
theorem aHQ{k:List Rat}{t:Rat}{i0:Nat}(h:i0<k.length):oL k t i0 k.length=k.take i0++t::k.drop i0:=by
 unfold oL;rw[if_neg J,show (k.drop i0).take (k.length-i0)=k.drop i0 from cy (by rw[jD];omega)]
theorem aHe(k:List Rat)(t:Rat)(i0:Nat):oL k t i0 0=[]:=by unfold oL;rw[if_pos (bW _)];rfl
theorem aNG(k:List Rat)(t:Rat)(i0 i:Nat):(oL k t i0 i).length<=k.length+1:=by
 unfold oL;split
 ·rw[fH];omega
 rw[jx,dR,fH,fH,jD];omega
open oS in
theorem aEs(f ax ay az aw bx eH bz bw:Rat)(R:Nat)(hR:R<=100000000)(hf:rl f<=R)(hax:rl ax<=R)(hay:rl ay<=R)(haz:rl az<=R)(haw:rl aw<=R)(hbx:rl bx<=R)(aQV:rl eH<=R)(hbz:rl bz<=R)(hbw:rl bw<=R):an ai 251 [ae f,.agg [ae ax,ae ay,ae az,ae aw],.agg [ae bx,ae eH,ae bz,ae bw]] (.agg [ae (ax+f*(bx-ax)),ae (ay+f*(eH-ay)),ae (az+f*(bz-az)),ae (aw+f*(bw-aw))]):=by
 have s0:=eX bx ax;have m0:=cF f (bx-ax);have s1:=eX eH ay;have m1:=cF f (eH-ay);have s2:=eX bz az;have m2:=cF f (bz-az);have s3:=eX bw aw;have m3:=cF f (bw-aw);refine aL Tryz.func251 (ht:=(fun g=>LV.db g _ pu)) ?_;refine iR ?_;refine qK ?_;refine aN (og bx ax J) ?_;refine cp aC (iY f (bx-ax) J) ?_;refine cp aC (n6 ax (f*(bx-ax)) J) ?_;refine qM ?_;refine aN (og eH ay J) ?_;refine cp aC (iY f (eH-ay) J) ?_;refine cp aC (n6 ay (f*(eH-ay)) J) ?_;refine qM ?_;refine aN (og bz az J) ?_;refine cp aC (iY f (bz-az) J) ?_;refine cp aC (n6 az (f*(bz-az)) J) ?_;refine qM ?_;refine aN (og bw aw J) ?_;refine cp aC (iY f (bw-aw) J) ?_;refine cp aC (n6 aw (f*(bw-aw)) J) ?_;refine bN ?_;refine wq ?_;refine bG ?_;exact iJ [] rfl rfl rfl cs (cU cs rfl) al5 (.pure pu)
namespace axK
theorem aJ{p q:Prop}(k:q)(e:p=q:=by simp only[bD,bo,bp,bh,cg,ho0,fw,aaz,fg,aae,eln,edn,edm,cC,List.length_append,jt,dR,fX,fD,gy,gU,ey,dD,du,dC,reduceIte,if_true,if_false,dW,LV.kill,bC];exact rfl):p:=e.mpr k
end axK
open axK in
theorem aF3(k:List Rat)(t:Rat)(i0:Nat)(h3:i0<k.length)(hl:k.length<=1000)(hr:∀x∈k,rl x<=100000)(ht:rl t<=100000)(h1:∀j,j<i0->k.getD j 0<=t)(h2:t<k.getD i0 0):an ai 250 [.list 3 (k.map ae),ae t] (.list 3 ((k.take i0++t::k.drop i0).map ae)):=by
 have ho0:=aHe k t i0;refine aL Tryz.func250 (ht:=(fun g=>LV.db g _ (eY ao 3 _))) ?_;have fw:True:=trivial;have aaz:True:=trivial;have fg:True:=trivial;have aae:True:=trivial;have eln:True:=trivial;have edn:True:=trivial;have edm:True:=trivial;refine abE ?_;refine iS (au.own (t:=5) 95 3 rfl rfl) ?_;refine dy (fun(i:Nat) L=>(mS L [(3,⟨3,[ae t],true⟩),(95,⟨3,(oL k t i0 i).map ae,true⟩)] [(7,ah i),(6,bL (decide (i0<i))),(5,.ref 95 3 0 (oL k t i0 i).length),(3,.aB 3 3 0 0),(0,.list 3 (k.map ae))])) (fun i=>i<=k.length) (fun i=>k.length-i) 0 (bW _) ?_;rintro i L1 hi;refine bM ?_;refine aD rfl ?_ ?_<;>intro adm z5
 ·have cM:i<k.length:=J;have pW:rl (k.getD i 0)<=100000:=hr _ agY;have aRg:=aNG k t i0 i;have fw:((oL k t i0 i).map ae).take (oL k t i0 i).length=(oL k t i0 i).map ae:=cy aE;refine b7 ?_;refine dU 16 rfl ?_ ?_<;>intro yY yW
  ·have hle:¬i0<i:=by simpa using yY
   refine aN (uf t (k.getD i 0) J) ?_;refine aK ?_;refine aD rfl ?_ ?_<;>intro um rT
   ·have bV:=ug.1 rT;obtain rfl:i=i0:=by
     rcases g7 i i0 with g|g
     ·exact absurd (h1 i g) ba
     omega
    have aae:=aIf (t:=t) h3;have eln:(oL k t i i).length+1+1=(oL k t i (i+1)).length:=by rw[<-aae];simp
    have aaz:((oL k t i i++[t]).map ae).take ((oL k t i i).length+1)=(oL k t i i++[t]).map ae:=cy aE;have edn:decide (i<i+1)=true:=decide_eq_true J;refine aK ?_;refine cj rfl (.eU (d:=95) (news:=[ae t]) rfl rfl rfl rfl aeJ (.inl rfl) aj dp dp jg cS rfl jq (.inl ⟨27,0,_,rfl,by decide,rfl,rfl,by simp,rfl,by simp[aO,ao.pure]⟩) aQ aQ aj) ?_;refine bN ?_;refine cj rfl api ?_;refine aK ?_;refine cO ((au.kill _ 27).trans (au.kill _ 34)) ?_;refine nL ?_;exact gM
   have bV:i<i0:=by
    rcases g7 i i0 with g|g
    ·exact g
    obtain rfl:i=i0:=J;exact absurd (ug.2 h2) rT
   have fg:=aHw (t:=t) bV cM;have eln:(oL k t i0 i).length+1=(oL k t i0 (i+1)).length:=by rw[<-fg];simp
   have edn:decide (i0<i+1)=false:=decide_eq_false J;have edm:decide (i0<i)=false:=decide_eq_false J;refine bM ?_;refine cj rfl api ?_;refine aK ?_;refine cO ((au.kill _ 27).trans (au.kill _ 34)) ?_;refine nL ?_;exact gM
  have bV:i0<i:=by simpa using yY
  have fg:=aEJ (t:=t) bV cM;have eln:(oL k t i0 i).length+1=(oL k t i0 (i+1)).length:=by rw[<-fg];simp
  have edn:decide (i0<i+1)=true:=decide_eq_true J;have edm:decide (i0<i)=true:=decide_eq_true bV;refine nn ?_;refine cj rfl api ?_;refine aK ?_;refine cO ((au.kill _ 27).trans (au.kill _ 34)) ?_;refine nL ?_;exact gM
 obtain rfl:k.length=i:=J;refine bG ?_;refine rA (b:=_) rfl (by rw[decide_eq_true h3];rfl) ?_;refine bM ?_;rw[<-aHQ (t:=t) h3];exact lZ [95] rfl rfl (da ao rfl rfl aE)
def lb(f:Rat)(p q:aF):aF :=
 ⟨kJ (1/(p.w+f*(q.w-p.w))) ⟨p.w*p.p.x+f*(q.w*q.p.x-p.w*p.p.x),p.w*p.p.y+f*(q.w*q.p.y-p.w*p.p.y),p.w*p.p.z+f*(q.w*q.p.z-p.w*p.p.z)⟩,p.w+f*(q.w-p.w)⟩
def inQ(d at_ s:Nat)(k:List Rat)(t:Rat)(po:List aF)(i:Nat):aF :=
 if i+d<=at_ then po.getD i default else if at_<i+s then po.getD (i-1) default else lb ((t-k.getD i 0)/(k.getD (i+d) 0-k.getD i 0)) (po.getD (i-1) default) (po.getD i default)
def kt(d at_ s:Nat)(k:List Rat)(t:Rat)(po:List aF):List aF:=(cN (po.length+1)).map (inQ d at_ s k t po)
theorem ahY(d at_ s:Nat)(k:List Rat)(t:Rat)(po:List aF):(kt d at_ s k t po).length=po.length+1:=by simp[kt]
theorem aGf{d at_ s:Nat}{k:List Rat}{t:Rat}{po:List aF}{i:Nat}(h:i<=po.length):(kt d at_ s k t po).take i++[inQ d at_ s k t po i]=(kt d at_ s k t po).take (i+1):=by
 rw[te,ck (by rw[ahY];omega)];simp[kt]
namespace axV
theorem aJ{p q:Prop}(k:q)(e:p=q:=by simp only[bD,bo,bp,bh,cg,fw,fg,cC,jt,dR,fX,fD,gy,gU,ey,dD,du,dC,reduceIte,if_true,if_false,dW,LV.kill,bC];exact rfl):p:=e.mpr k
end axV
open axV in
theorem aKx(d at_ s:Nat)(k:List Rat)(t:Rat)(po:List aF)(R:Nat)(hR:R<=1000000)(hl:po.length<=1000)(gz:k.length<=1000)(hda:d<=at_)(hsa:s<=at_)(mb:1<=s)(iG:1<=d)(ha:at_+1<k.length)(pG:po.length+d+1=k.length)(hap:at_<po.length)(kW:∀x∈k,rl x<=1000)(ht:rl t<=1000)(fe:∀q∈po,oO R q)
  (g1:∀j,j<at_+1->k.getD j 0<=t) (g2:t<k.getD (at_+1) 0) (hIv:an ai 55 [.list 3 (k.map ae),ah d,ae t] (.aY [ah at_,iL 0])) (hTm:an ai 196 [.list 3 (k.map ae),ae t] (ah s)):an ai 197 [.agg [ah d,.list 3 (k.map ae),.list 12 (po.map aA)],ae t] (.agg [ah d,.list 3 ((k.take (at_+1)++t::k.drop (at_+1)).map ae),.list 12 ((kt d at_ s k t po).map aA)]):=by
 have dZ:LV.pure (.agg [ah d,.list 3 (k.map ae),.list 12 (po.map aA)])=true:=eN;have hKI:=aF3 k t (at_+1) ha gz (fun x hx=>aP (kW x hx) aj) J g1 g2;have hkg:∀j,rl (k.getD j 0)<=1000:=fun j=>ix aj kW j;have hIL:=ahY d at_ s k t po;have hp4:∀x0 x1 x2 x3:Rat,LV.pure (.agg [ae x0,ae x1,ae x2,ae x3])=true:=fun _ _ _ _=>by simp[LV.pure,aO,ao.pure]
 have aPX:aO ((k.take (at_+1)++t::k.drop (at_+1)).map ae)=true:=bm ao _;refine aL Tryz.func197 (ht:=(fun g=>LV.db g _ (by simp[LV.pure,aO,bm ao,bm ez,-tI,-wj,-nK]))) ?_;have fw:True:=trivial;have fg:True:=trivial;refine rC (hIv) ?_;refine aN (hTm) ?_;refine aN (hKI) ?_;refine bG ?_;refine iS ((au.cell 9 rfl (fun Z μ w cs h=>aeB 91 12 _ _ Z μ w cs h)).trans (au.qy _ 91 12 rfl)) ?_;refine dy (fun(i:Nat) L=>(mS L [(2,⟨3,[.agg [ah d,.list 3 (k.map ae),.list 12 (po.map aA)]],true⟩),(3,⟨3,[ae t],true⟩),(4,⟨3,[.agg [.v (.int .i64 0),.v (.slice none 0 0),.v (.slice none 0 0)]],true⟩),(9,⟨3,[.agg [ah d,.list 3 ((k.take (at_+1)++t::k.drop (at_+1)).map ae),.ref 91 12 0 i]],true⟩),(91,⟨12,((kt d at_ s k t po).take i).map aA,true⟩)] [(10,ah i),(9,.aB 9 3 0 0),(8,ah s),(6,ah at_),(5,ah d),(4,.aB 4 3 0 0),(3,.aB 3 3 0 0),(2,.aB 2 3 0 0)])) (fun i=>i<=po.length+1) (fun i=>po.length+1-i) 0 (bW _) ?_;rintro i L1 hi;refine b7 ?_;refine aD rfl ?_ ?_<;>intro aqm h36
 ·have cM:i<=po.length:=J;have kX:((kt d at_ s k t po).take i).length=i:=by rw[fH,ahY];omega
  have fw:(((kt d at_ s k t po).take i).map aA).take i=((kt d at_ s k t po).take i).map aA:=cy fW;have hsn:=aGf (d:=d) (at_:=at_) (s:=s) (k:=k) (t:=t) cM;refine b7 ?_;refine al rfl (.bin rfl rfl (yM (c:=at_-d) J J)) ?_;refine aK ?_;refine aD rfl ?_ ?_<;>intro aQ4 h81
  ·have hc:i+d<=at_:=J;have fg:(kt d at_ s k t po).take i++[(po.getD i default)]=(kt d at_ s k t po).take (i+1):=by rw[<-hsn,show (inQ d at_ s k t po i)=(po.getD i default) from if_pos hc]
   refine bM ?_;refine cj rfl (.eU (d:=91) (news:=[aA (po.getD i default)]) rfl rfl rfl rfl aeJ (.inl rfl) aj mg mg xu oT cs B42 (.inl ⟨94,0,_,rfl,by decide,rfl,rfl,by simp,rfl,by simp[aO,ez.pure]⟩) aQ aQ aj) ?_;refine aoD ?_;exact gM
  refine aW ?_;refine al rfl (.bin rfl rfl (yM (c:=at_-s) J J)) ?_;refine aK ?_;refine aD rfl ?_ ?_<;>intro aQ8 h97
  ·have uU:at_<i+s:=J;have fg:(kt d at_ s k t po).take i++[(po.getD (i-1) default)]=(kt d at_ s k t po).take (i+1):=by rw[<-hsn,show (inQ d at_ s k t po i)=(po.getD (i-1) default) from (if_neg J).trans (if_pos uU)]
   refine a6 ?_;refine jc ?_;refine bI ?_;refine cj rfl (.eU (d:=91) (news:=[aA (po.getD (i-1) default)]) rfl rfl rfl rfl aeJ (.inl rfl) aj mg mg xu oT cs B42 (.inl ⟨111,0,_,rfl,by decide,rfl,rfl,by simp,rfl,by simp[aO,ez.pure]⟩) aQ aQ aj) ?_;refine aoD ?_;exact gM
  have uU:¬at_<i+s:=J;have fg:(kt d at_ s k t po).take i++[lb ((t-k.getD i 0)/(k.getD (i+d) 0-k.getD i 0)) (po.getD (i-1) default) (po.getD i default)]=(kt d at_ s k t po).take (i+1):=by rw[<-hsn,show (inQ d at_ s k t po i)=lb ((t-k.getD i 0)/(k.getD (i+d) 0-k.getD i 0)) (po.getD (i-1) default) (po.getD i default) from (if_neg J).trans (if_neg uU)]
  obtain⟨⟨o1,o2,o3⟩,o4,o5⟩:=fe _ (qo (show i<po.length by omega));obtain⟨⟨u1,u2,u3⟩,u4,u5⟩:=fe _ (qo (show i-1<po.length by omega));have pW:=hkg i;have hkd:=hkg (i+d);have hf1:=eX t (k.getD i 0);have sK:=eX (k.getD (i+d) 0) (k.getD i 0);have v7:=pv (t-k.getD i 0) (k.getD (i+d) 0-k.getD i 0);have za0:=cF (po.getD (i-1) default).w (po.getD (i-1) default).p.x;have za1:=cF (po.getD (i-1) default).w (po.getD (i-1) default).p.y;have za2:=cF (po.getD (i-1) default).w (po.getD (i-1) default).p.z;have zb0:=cF (po.getD i default).w (po.getD i default).p.x;have zb1:=cF (po.getD i default).w (po.getD i default).p.y;have zb2:=cF (po.getD i default).w (po.getD i default).p.z;have s0:=eX ((po.getD i default).w*(po.getD i default).p.x) ((po.getD (i-1) default).w*(po.getD (i-1) default).p.x);have m0:=cF ((t-k.getD i 0)/(k.getD (i+d) 0-k.getD i 0)) (((po.getD i default).w*(po.getD i default).p.x)-((po.getD (i-1) default).w*(po.getD (i-1) default).p.x));have w0:=kO ((po.getD (i-1) default).w*(po.getD (i-1) default).p.x) (((t-k.getD i 0)/(k.getD (i+d) 0-k.getD i 0))*(((po.getD i default).w*(po.getD i default).p.x)-((po.getD (i-1) default).w*(po.getD (i-1) default).p.x)));have s1:=eX ((po.getD i default).w*(po.getD i default).p.y) ((po.getD (i-1) default).w*(po.getD (i-1) default).p.y)
  have m1:=cF ((t-k.getD i 0)/(k.getD (i+d) 0-k.getD i 0)) (((po.getD i default).w*(po.getD i default).p.y)-((po.getD (i-1) default).w*(po.getD (i-1) default).p.y));have w1:=kO ((po.getD (i-1) default).w*(po.getD (i-1) default).p.y) (((t-k.getD i 0)/(k.getD (i+d) 0-k.getD i 0))*(((po.getD i default).w*(po.getD i default).p.y)-((po.getD (i-1) default).w*(po.getD (i-1) default).p.y)));have s2:=eX ((po.getD i default).w*(po.getD i default).p.z) ((po.getD (i-1) default).w*(po.getD (i-1) default).p.z);have m2:=cF ((t-k.getD i 0)/(k.getD (i+d) 0-k.getD i 0)) (((po.getD i default).w*(po.getD i default).p.z)-((po.getD (i-1) default).w*(po.getD (i-1) default).p.z));have w2:=kO ((po.getD (i-1) default).w*(po.getD (i-1) default).p.z) (((t-k.getD i 0)/(k.getD (i+d) 0-k.getD i 0))*(((po.getD i default).w*(po.getD i default).p.z)-((po.getD (i-1) default).w*(po.getD (i-1) default).p.z)));have s3:=eX (po.getD i default).w (po.getD (i-1) default).w;have m3:=cF ((t-k.getD i 0)/(k.getD (i+d) 0-k.getD i 0)) ((po.getD i default).w-(po.getD (i-1) default).w);have w3:=kO (po.getD (i-1) default).w (((t-k.getD i 0)/(k.getD (i+d) 0-k.getD i 0))*((po.getD i default).w-(po.getD (i-1) default).w));have hL1:=aju (po.getD (i-1) default) R hR ⟨⟨u1,u2,u3⟩,u4,u5⟩;have hL0:=aju (po.getD i default) R hR ⟨⟨o1,o2,o3⟩,o4,o5⟩
  have hMi:=aEs ((t-k.getD i 0)/(k.getD (i+d) 0-k.getD i 0)) ((po.getD (i-1) default).w*(po.getD (i-1) default).p.x) ((po.getD (i-1) default).w*(po.getD (i-1) default).p.y) ((po.getD (i-1) default).w*(po.getD (i-1) default).p.z) (po.getD (i-1) default).w ((po.getD i default).w*(po.getD i default).p.x) ((po.getD i default).w*(po.getD i default).p.y) ((po.getD i default).w*(po.getD i default).p.z) (po.getD i default).w (2*R+6000) J J J J J J J J J J
  have hDr:an ai 56 [.agg [ae (((po.getD (i-1) default).w*(po.getD (i-1) default).p.x)+((t-k.getD i 0)/(k.getD (i+d) 0-k.getD i 0))*(((po.getD i default).w*(po.getD i default).p.x)-((po.getD (i-1) default).w*(po.getD (i-1) default).p.x))),ae (((po.getD (i-1) default).w*(po.getD (i-1) default).p.y)+((t-k.getD i 0)/(k.getD (i+d) 0-k.getD i 0))*(((po.getD i default).w*(po.getD i default).p.y)-((po.getD (i-1) default).w*(po.getD (i-1) default).p.y))),ae (((po.getD (i-1) default).w*(po.getD (i-1) default).p.z)+((t-k.getD i 0)/(k.getD (i+d) 0-k.getD i 0))*(((po.getD i default).w*(po.getD i default).p.z)-((po.getD (i-1) default).w*(po.getD (i-1) default).p.z))),ae ((po.getD (i-1) default).w+((t-k.getD i 0)/(k.getD (i+d) 0-k.getD i 0))*((po.getD i default).w-(po.getD (i-1) default).w))]] (aA (lb ((t-k.getD i 0)/(k.getD (i+d) 0-k.getD i 0)) (po.getD (i-1) default) (po.getD i default))):=apD (((po.getD (i-1) default).w*(po.getD (i-1) default).p.x)+((t-k.getD i 0)/(k.getD (i+d) 0-k.getD i 0))*(((po.getD i default).w*(po.getD i default).p.x)-((po.getD (i-1) default).w*(po.getD (i-1) default).p.x))) (((po.getD (i-1) default).w*(po.getD (i-1) default).p.y)+((t-k.getD i 0)/(k.getD (i+d) 0-k.getD i 0))*(((po.getD i default).w*(po.getD i default).p.y)-((po.getD (i-1) default).w*(po.getD (i-1) default).p.y))) (((po.getD (i-1) default).w*(po.getD (i-1) default).p.z)+((t-k.getD i 0)/(k.getD (i+d) 0-k.getD i 0))*(((po.getD i default).w*(po.getD i default).p.z)-((po.getD (i-1) default).w*(po.getD (i-1) default).p.z))) ((po.getD (i-1) default).w+((t-k.getD i 0)/(k.getD (i+d) 0-k.getD i 0))*((po.getD i default).w-(po.getD (i-1) default).w)) 100000000 aj J J J J
  refine aN (og t (k.getD i 0) J) ?_;refine aK ?_;refine al rfl sZ ?_;refine aN (og (k.getD (i+d) 0) (k.getD i 0) J) ?_;refine cp aC (y7 (t-k.getD i 0) (k.getD (i+d) 0-k.getD i 0) J) ?_;refine bN ?_;refine jc ?_;refine bf (hL1) ?_;refine bf (hL0) ?_;refine dN rfl (.cons (.pure (ao.pure _)) (.cons (.pure (hp4 _ _ _ _)) (.cons (.pure (hp4 _ _ _ _)) .nil))) hMi ?_;refine dN rfl (.cons (.pure (hp4 _ _ _ _)) .nil) hDr ?_;refine bn ?_;refine cj rfl (.eU (d:=91) (news:=[aA (lb ((t-k.getD i 0)/(k.getD (i+d) 0-k.getD i 0)) (po.getD (i-1) default) (po.getD i default))]) rfl rfl rfl rfl aeJ (.inl rfl) aj mg mg xu oT cs B42 (.inl ⟨78,0,_,rfl,by decide,rfl,rfl,by simp,rfl,by simp[aO,ez.pure]⟩) aQ aQ aj) ?_;refine aoD ?_;exact gM
 obtain rfl:i=po.length+1:=J;refine bG ?_;have hE:(kt d at_ s k t po).take (po.length+1)=(kt d at_ s k t po):=cy (by rw[hIL];exact bF _);simp only[hE];exact iJ [91] rfl rfl rfl cs (cU cs rfl) fo (.agg (.cons (.pure rfl) (.cons (.pure (eY ao 3 (k.take (at_+1)++t::k.drop (at_+1)))) (.cons (da (l:=(kt d at_ s k t po)) ez rfl rfl hIL.symm) .nil))))
def kS(d:Nat)(a t b:Rat):List Rat:=av (d+1) a++(av d t++av (d+1) b)
theorem alo(d:Nat)(a t b:Rat):(kS d a t b).length=3*d+2:=by simp[kS];omega
theorem aKu(d:Nat)(a t b:Rat){i:Nat}(h:i<3*d+2):(kS d a t b).getD i 0=if i<d+1 then a else if i<2*d+1 then t else b:=by
 unfold kS;rw[bq];by_cases h1:i<d+1
 ·rw[if_pos h1,ab6 (by simpa using h1),zU,if_pos h1];rfl
 rw[if_neg h1,abt aQ];simp only[List.length_replicate];by_cases h2:i<2*d+1
 ·rw[if_pos h2,ab6 aQ,zU,if_pos J];rfl
 rw[if_neg h2,abt aQ,zU,if_pos aQ];rfl
def sA(d:Nat)(a t b:Rat)(i:Nat):List Rat:=(kS d a t b).take (min i (2*d+1))
def sB(d:Nat)(a t b:Rat)(i:Nat):List Rat:=t::((kS d a t b).drop (d+1)).take (i-(d+1))
theorem aK5{d i:Nat}{a t b:Rat}(h:i<2*d+1):sA d a t b i++[(kS d a t b).getD i 0]=sA d a t b (i+1):=by
 have hl:=alo d a t b;unfold sA;rw[show min i (2*d+1)=i by omega,show min (i+1) (2*d+1)=i+1 by omega,te,bq,ck J];rfl
theorem aLC{d i:Nat}{a t b:Rat}(h:2*d+1<=i):sA d a t b (i+1)=sA d a t b i:=by
 unfold sA;rw[show min i (2*d+1)=2*d+1 by omega,show min (i+1) (2*d+1)=2*d+1 by omega]
theorem aA4{d i:Nat}{a t b:Rat}(h:d+1<=i)(hi:i<3*d+2):sB d a t b i++[(kS d a t b).getD i 0]=sB d a t b (i+1):=by
 have hl:=alo d a t b;unfold sB;rw[show i+1-(d+1)=(i-(d+1))+1 by omega,te,u6,show d+1+(i-(d+1))=i by omega,bq,ck J];rfl
theorem azT{d i:Nat}{a t b:Rat}(h:i<d+1):sB d a t b (i+1)=sB d a t b i:=by
 unfold sB;rw[show i+1-(d+1)=0 by omega,show i-(d+1)=0 by omega]
theorem avQ(d:Nat)(a t b:Rat):sA d a t b (3*d+2)++[t]=a8 d a t:=by
 unfold sA a8 kS;rw[show min (3*d+2) (2*d+1)=2*d+1 by omega,<-pn,List.take_left' aQ,pn,<-List.replicate_succ']
theorem aIY(d:Nat)(a t b:Rat):sB d a t b (3*d+2)=a8 d t b:=by
 have hl:=alo d a t b;unfold sB;rw[cy (by rw[jD];omega)];unfold a8 kS;rw[show (av (d+1) a++(av d t++av (d+1) b)).drop (d+1)=av d t++av (d+1) b by rw[List.drop_append_of_le_length aE];simp];rw[List.replicate_succ];rfl
namespace aBZ
theorem aJ{p q:Prop}(k:q)(e:p=q:=by simp only[bD,bo,bp,bh,cg,hA0,hB0,aa6,acM,aa2,yr,elA,elB,eoA,eoB,cC,jt,dR,fX,fD,gy,gU,ey,dD,du,dC,reduceIte,if_true,if_false,dW,LV.kill,bC];exact rfl):p:=e.mpr k
end aBZ
open aBZ in
theorem aJh(d:Nat)(a t b:Rat)(iG:1<=d)(hd9:d<=6)(g1:a<t)(g2:t<b)(ha:rl a<=1000)(ht:rl t<=1000)(hb:rl b<=1000)(Kq:Nat->List Rat)(Pq:Nat->List aF)(hK:Kq d=kS d a t b)(hP:(Pq d).length=2*d+1)
  (hIn:an ai 195 [.list 3 ((Kq 1).map ae),ae t] (bL true)) (hTm:∀m,1<=m->m<=d->an ai 196 [.list 3 ((Kq m).map ae),ae t] (ah m)) (xD:∀m,1<=m->m<d->an ai 197 [.agg [ah d,.list 3 ((Kq m).map ae),.list 12 ((Pq m).map aA)],ae t] (.agg [ah d,.list 3 ((Kq (m+1)).map ae),.list 12 ((Pq (m+1)).map aA)])):an ai 99 [.agg [ah d,.list 3 ((Kq 1).map ae),.list 12 ((Pq 1).map aA)],ae t] (.aY [.agg [ah d,.list 3 ((a8 d a t).map ae),.list 12 (((Pq d).take (d+1)).map aA)],.agg [ah d,.list 3 ((a8 d t b).map ae),.list 12 (((Pq d).drop d).map aA)],iL 0]):=by
 have hcw:∀m,LV.pure (.agg [ah d,.list 3 ((Kq m).map ae),.list 12 ((Pq m).map aA)])=true:=fun m=>by simp[LV.pure,aO,bm ao,bm ez]
 have hA0:sA d a t b 0=[]:=by unfold sA;rw[show min 0 (2*d+1)=0 by omega];rfl
 have hB0:sB d a t b 0=[t]:=by unfold sB;rw[show 0-(d+1)=0 by omega];rfl
 have hKl:=alo d a t b;have pG:aO ((kS d a t b).map ae)=true:=bm ao _;have xo:aO ((Pq d).map aA)=true:=bm ez _;have hS1:(((Pq d).map aA).take (d+1)).drop 0=((Pq d).take (d+1)).map aA:=by rw[jv,va]
 have hS2:(((Pq d).map aA).take ((Pq d).map aA).length).drop d=((Pq d).drop d).map aA:=by rw[List.take_length,abj]
 have ph:=kz d a t;have kK:=kz d t b;have hn:an ai 198 [.list 3 ((a8 d a t).map ae),ah d] (ah (d+1)):=by
  have:=aLP (a8 d a t) d J J;rwa[show (a8 d a t).length-d-1=d+1 by omega]at this
 refine aL Tryz.func99 (ht:=(ahv (by simp[LV.pure,aO,bm ao,bm ez,-va,-abj]) (by simp[LV.pure,aO,bm ao,bm ez,-va,-abj]) rfl)) ?_;have aa6:True:=trivial;have acM:True:=trivial;have aa2:True:=trivial;have yr:True:=trivial;have elA:True:=trivial;have elB:True:=trivial;have eoA:True:=trivial;have eoB:True:=trivial;refine aN (hIn) ?_;refine bI ?_;refine vM ?_;refine aK ?_;refine dy (fun(m:Nat) L=>(mS L [(2,⟨3,[.agg [ah d,.list 3 ((Kq m).map ae),.list 12 ((Pq m).map aA)]],true⟩),(3,⟨3,[ae t],true⟩),(4,⟨3,[.agg [.v (.int .i64 0),.v (.slice none 0 0),.v (.slice none 0 0)]],true⟩),(5,⟨3,[.agg [.v (.int .i64 0),.v (.slice none 0 0),.v (.slice none 0 0)]],true⟩)] [(5,.aB 5 3 0 0),(4,.aB 4 3 0 0),(3,.aB 3 3 0 0),(2,.aB 2 3 0 0)])) (fun m=>1<=m/\m<=d) (fun m=>d-m) 1 ⟨bF _,iG⟩ ?_;rintro m L1 ⟨iX,hm⟩;refine aN (hTm m iX hm) ?_;refine aW ?_;refine aD rfl ?_ ?_<;>intro acR qT
 ·have hTi:=xD m iX J;refine aK ?_;refine pJ ?_;refine bn ?_;refine dN rfl (.cons (.pure (hcw m)) (.cons (.pure (ao.pure _)) .nil)) hTi ?_;refine aK ?_;exact ji (m+1) ⟨J,J⟩
 obtain rfl:d=m:=J;rw[hK];have yi:LV.pure (.agg [ah d,.list 3 ((kS d a t b).map ae),.list 12 ((Pq d).map aA)])=true:=eN;refine a6 ?_;refine iZ (fun L=>∃  (L1:St),(True)/\L=(mS L1 [(4,⟨3,[.agg [.v (.int .i64 0),.v (.slice none 0 0),.v (.slice none 0 0)]],true⟩),(5,⟨3,[.agg [.v (.int .i64 0),.v (.slice none 0 0),.v (.slice none 0 0)]],true⟩),(7,⟨3,[.agg [ah d,.v (.slice none 0 0),.v (.slice none 0 0)]],true⟩),(8,⟨3,[.agg [ah d,.ref 35 3 0 1,.v (.slice none 0 0)]],true⟩),(35,⟨3,[ae t],true⟩)] [(8,.aB 8 3 0 0),(7,.aB 7 3 0 0),(5,.aB 5 3 0 0),(4,.aB 4 3 0 0),(3,.cx (ae t)),(2,.cx (.agg [ah d,.list 3 ((kS d a t b).map ae),.list 12 ((Pq d).map aA)]))])) ?_ ?_
 ·refine afn ((au.cx (t:=3) (b:=3) rfl rfl (ao.aq _) (ao.isAgg _) (ao.pure t)).trans (au.cx (t:=2) (b:=2) rfl rfl cs rfl yi)) ?_;refine fx 0 rfl rfl aG (.pure l5) gu fy ?_;refine fx 1 rfl rfl aG (.pure gJ) gu fy ?_;refine fx 2 rfl rfl aG (.pure (show aM _ _ _ _ (.agg [ah d,.v (.slice none 0 0),.v (.slice none 0 0)]) from .build (zs:=[.v (.int .i64 0),.v (.slice none 0 0),.v (.slice none 0 0)]) (by simpa[lay,LV.aq,dg,agl]using aAr) Z28 (by simp only[List.forall_mem_cons];exact⟨⟨_,rfl,rfl,ni⟩,fun _ h=>by cases h⟩))) gu fy ?_;refine fx 3 rfl rfl aG (.pure l5) gu fy ?_;refine fx 4 rfl rfl aG (.pure gJ) gu fy ?_;refine fx 5 rfl rfl aG (.pure gJ) gu fy ?_
  repeat' first
   |(refine pb aG ?_;refine bn ?_;exact⟨_,trivial,((aX (aX (aX (aX (aX (aX (jB vY) cl) cl) cl) cl) cl) cl)).symm⟩)
   |refine af2 6 8 9 _ _ _ aG rfl rfl rfl ?_ ?_ ?_
   |refine af2 7 8 9 _ _ _ aG rfl rfl rfl ?_ ?_ ?_
   |refine jy 8 9 _ _ aG rfl rfl ?_ ?_
   |refine di 9 _ aG rfl ?_
   |refine di 10 _ aG rfl ?_
   |refine di 11 _ aG rfl ?_
   |refine di 8 _ aG rfl ?_
   |refine jy 7 9 _ _ aG rfl rfl ?_ ?_
   |refine jy 7 10 _ _ aG rfl rfl ?_ ?_
   |refine di 7 _ aG rfl ?_
   |refine jy 7 8 _ _ aG rfl rfl ?_ ?_
   |refine jy 6 9 _ _ aG rfl rfl ?_ ?_
   |refine jy 6 10 _ _ aG rfl rfl ?_ ?_
   |refine di 6 _ aG rfl ?_
   |refine jy 6 8 _ _ aG rfl rfl ?_ ?_
   |(refine bn ?_;refine iy ?_)
   |fail
 rintro _ ⟨LR5,-,rfl⟩;refine bH ?_;refine iS ((au.cell 7 rfl (fun Z μ w cs h=>amk 71 3 _ _ Z μ w cs h)).trans (au.qy _ 71 3 rfl)) ?_;refine dy (fun(i:Nat) L=>(mS L [(4,⟨3,[.agg [.v (.int .i64 0),.v (.slice none 0 0),.v (.slice none 0 0)]],true⟩),(5,⟨3,[.agg [.v (.int .i64 0),.v (.slice none 0 0),.v (.slice none 0 0)]],true⟩),(7,⟨3,[.agg [ah d,.ref 71 3 0 (sA d a t b i).length,.v (.slice none 0 0)]],true⟩),(8,⟨3,[.agg [ah d,.ref 35 3 0 (sB d a t b i).length,.v (.slice none 0 0)]],true⟩),(35,⟨3,(sB d a t b i).map ae,true⟩),(71,⟨3,(sA d a t b i).map ae,true⟩)] [(9,ah i),(8,.aB 8 3 0 0),(7,.aB 7 3 0 0),(5,.aB 5 3 0 0),(4,.aB 4 3 0 0),(3,.cx (ae t)),(2,.cx (.agg [ah d,.list 3 ((kS d a t b).map ae),.list 12 ((Pq d).map aA)]))])) (fun i=>i<=3*d+2) (fun i=>3*d+2-i) 0 (bW _) ?_;rintro i L2 hi;refine aW ?_;refine al rfl (.kQ rfl pG rfl rfl) ?_;refine aK ?_;refine aD rfl ?_ ?_<;>intro aeb h41
 ·have cM:i<3*d+2:=J;have hgi:=aKu d a t b cM;have pW:rl (((kS d a t b).getD i 0))<=1000:=by
   rw[hgi];split
   ·omega
   split<;>omega
  have aa6:((sA d a t b i).map ae).take (sA d a t b i).length=(sA d a t b i).map ae:=cy aE;have acM:((sB d a t b i).map ae).take (sB d a t b i).length=(sB d a t b i).map ae:=cy aE;have mo:(sA d a t b i).length<=100:=by unfold sA;rw[fH];omega
  have aRa:(sB d a t b i).length<=100:=by unfold sB;rw[dR,fH,jD];omega
  refine bK ?_;refine al rfl (.kQ rfl pG rfl rfl) ?_;refine aN (uf ((kS d a t b).getD i 0) t J) ?_;refine b7 ?_;refine aD rfl ?_ ?_<;>intro aJG h52
  ·have hA:i<2*d+1:=by
    rcases g7 i (2*d+1)with g|g
    ·exact g
    rw[hgi,if_neg J,if_neg J]at h52;have:=qe.2 g2;omega
   have aa2:=aK5 (a:=a) (t:=t) (b:=b) hA;have elA:(sA d a t b i).length+1=(sA d a t b (i+1)).length:=by rw[<-aa2];simp
   refine aK ?_;refine al rfl (.kQ rfl pG rfl rfl) ?_;refine aK ?_;refine cj rfl (.eU (d:=71) (news:=[ae ((kS d a t b).getD i 0)]) rfl rfl rfl rfl aeJ (.inl rfl) aj dp dp jg cS rfl jq (.inl ⟨60,0,_,rfl,by decide,rfl,rfl,by simp,rfl,by simp[aO,ao.pure]⟩) aQ aQ aj) ?_;refine b7 ?_;refine aD rfl ?_ ?_<;>intro aKy h64
   ·have hB:d+1<=i:=by
     rcases g7 i (d+1)with g|g
     ·exfalso;rw[hgi,if_pos g]at h64;have:=ug.2 g1;omega
     exact g
    have yr:=aA4 (a:=a) (t:=t) (b:=b) hB cM;have elB:(sB d a t b i).length+1=(sB d a t b (i+1)).length:=by rw[<-yr];simp
    refine aK ?_;refine al rfl (.kQ rfl pG rfl rfl) ?_;refine aK ?_;refine cj rfl avj ?_;refine aW ?_;refine cO ((au.kill _ 60).trans (au.kill _ 72)) ?_;refine nL ?_;exact amr
   have hB:i<d+1:=by
    rcases g7 i (d+1)with g|g
    ·exact g
    exfalso;have h:=ug.1 (show fY ((kS d a t b).getD i 0) t<0 by omega);rw[hgi,if_neg J]at h;split at h<;>grind
   have eoB:=azT (a:=a) (t:=t) (b:=b) hB;refine bI ?_;refine cO ((au.kill _ 60).trans (au.kill _ 72)) ?_;refine nL ?_;exact amr
  have hA:2*d+1<=i:=by
   rcases g7 i (2*d+1)with g|g
   ·exfalso;have h:=qe.1 (show fY ((kS d a t b).getD i 0) t > 0 by omega);rw[hgi]at h;split at h
    ·grind
    grind
   exact g
  have eoA:=aLC (a:=a) (t:=t) (b:=b) hA;refine bH ?_;refine aD rfl ?_ ?_<;>intro aKy h64
  ·have hB:d+1<=i:=by
    rcases g7 i (d+1)with g|g
    ·exfalso;rw[hgi,if_pos g]at h64;have:=ug.2 g1;omega
    exact g
   have yr:=aA4 (a:=a) (t:=t) (b:=b) hB cM;have elB:(sB d a t b i).length+1=(sB d a t b (i+1)).length:=by rw[<-yr];simp
   refine aK ?_;refine al rfl (.kQ rfl pG rfl rfl) ?_;refine aK ?_;refine cj rfl avj ?_;refine aW ?_;refine cO ((au.kill _ 60).trans (au.kill _ 72)) ?_;refine nL ?_;exact amr
  have hB:i<d+1:=by
   rcases g7 i (d+1)with g|g
   ·exact g
   exfalso;have h:=ug.1 (show fY ((kS d a t b).getD i 0) t<0 by omega);rw[hgi,if_neg J]at h;split at h<;>grind
  have eoB:=azT (a:=a) (t:=t) (b:=b) hB;refine bI ?_;refine cO ((au.kill _ 60).trans (au.kill _ 72)) ?_;refine nL ?_;exact amr
 obtain rfl:i=3*d+2:=J;have aa6:((sA d a t b (3*d+2)).map ae).take (sA d a t b (3*d+2)).length=(sA d a t b (3*d+2)).map ae:=cy aE;have aa2:=avQ d a t b;have yr:=aIY d a t b;have mo:(sA d a t b (3*d+2)).length<=100:=by unfold sA;rw[fH];omega
 have elA:(sA d a t b (3*d+2)).length+1=2*(d+1):=by have:=congrArg List.length (avQ d a t b);rw[jx,kz]at this;simpa using this
 refine bN ?_;refine cj rfl (.eU (d:=71) (news:=[ae t]) rfl rfl rfl rfl aeJ (.inl rfl) aj dp dp jg cS rfl jq (.inl ⟨78,0,_,rfl,by decide,rfl,rfl,by simp,rfl,by simp[aO,ao.pure]⟩) aQ aQ aj) ?_;refine b7 ?_;refine afr [71] rfl rfl (.cons (da (l:=a8 d a t) ao rfl rfl ph.symm) (.cons (.pure rfl) .nil)) hn ?_;refine bH ?_;refine al rfl (.kQ rfl xo rfl rfl) ?_;refine bn ?_;refine al rfl (.acV (l:=((Pq d).map aA)) (a:=0) (h:=d+1) rfl mg oT (fun y h=>by cases h) (fun _=>rfl) (fun y h=>by cases h;exact⟨_,rfl⟩) (fun h=>by cases h) J aQ) ?_;refine cj rfl (.zG (d:=73) (sz:=12) (news:=((Pq d).take (d+1)).map aA) rfl rfl mg mg xu oT cs B42 (.inr (by rw[<-hS1];rfl)) aQ aQ aQ aj) ?_;refine bM ?_;refine al rfl (.kQ rfl xo rfl rfl) ?_;refine bn ?_;refine jc ?_;refine al rfl (.acV (l:=((Pq d).map aA)) (a:=d) (h:=((Pq d).map aA).length) rfl mg oT (fun y h=>by cases h;exact⟨_,rfl⟩) (fun h=>by cases h) (fun y h=>by cases h) (fun _=>rfl) aQ (bF _)) ?_;refine cj rfl (.zG (d:=74) (sz:=12) (news:=((Pq d).drop d).map aA) rfl rfl mg mg xu oT cs B42 (.inr (by rw[<-hS2];rfl)) aQ aQ aQ aj) ?_;refine aW ?_
 refine ace rfl 2 4 [1] aG rfl ?_;simp only[qS,tn,bD,bo,bp,bh,bh7,dh1,dh2,dh3];refine bc ?_;refine abZ ?_;simp only[xr,jv];refine a6 ?_;exact awt [71,35,73,74] rfl rfl rfl cs (cU cs rfl) fo (.agg (.cons (.pure rfl) (.cons (da (l:=a8 d a t) ao rfl rfl ph.symm) (.cons (da (l:=(Pq d).take (d+1)) ez rfl rfl aE) .nil)))) rfl rfl cs (cU cs rfl) fo (.agg (.cons (.pure rfl) (.cons (da (l:=a8 d t b) ao rfl rfl (by first|rfl|(rw[kK];done)|(rw[kK];omega))) (.cons (da (l:=(Pq d).drop d) ez rfl rfl aE) .nil)))) rfl (.pure rfl)
end Go.Proofs.YtbkmfcmgilhaaaaGreat
end
