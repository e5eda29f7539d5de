/- Texts C1, C2, D1, E1, E3, E4, K1, K4, LgS, LgT, LgU, LgV, H1, V1, P1, H2, C3, TW, K3, E2, G1, G2, S2, G4, K5, K8, K9, K13, K2, K10, K7, K11, K14, K16, P4, K17, K18, P5, K20, LgW of this proof, joined. -/
import Derived.Test.YtbkmfcmgilhaaaaGreatQW4
set_option linter.unusedVariables false
set_option linter.unusedSimpArgs false
open And renaming intro->dI
open Array renaming ext_getElem?->atz,getD_eq_getD_getElem?->dQ,getElem?_eq_getElem->oX,getElem?_eq_some_iff->lX,getElem?_setIfInBounds_ne->lU,getElem?_setIfInBounds_self_of_lt->p7,mem_toList_iff->aib
open Bool renaming and_eq_true->jS,not_eq_true'->yK,or_eq_true->pI
open Classical renaming byContradiction->rE
open Go.Proofs.Tryz renaming func103->aBN,func135->axn,func223->azU,prog->ai,underlying102->awy,underlying143->pF,underlying153->wa,underlying25->dp
open Int renaming emod_lt_of_pos->aaE,emod_nonneg->aaQ,natCast_mul->axb
open List renaming all_eq_true->nU,append_assoc->pn,append_nil->ey,contains_iff_mem->qJ,countP_eq_zero->ayQ,drop_zero->jv,eq_nil_of_length_eq_zero->pQ,ext_getElem->aaW,foldl->tF,getD_eq_getElem?_getD->bq,getElem?_drop->u6,getElem?_eq_getElem->ck,getElem?_eq_none->agE,getElem?_map->jY,getElem_mem->qX,length_append->jx,length_cons->dR,length_map->cC,length_nil->fX,length_replicate->oG,length_set->lQ,map->oC,map_congr_left->tQ,map_nil->gy,map_take->va,mem_append->nC,mem_cons->dS,mem_filterMap->aaF,mem_map->cZ,mem_range->rm,mem_toArray->aAQ,nil_append->fD,nodup_nil->abp,not_mem_nil->jR,range->cN,replicate->av,replicate_succ'->adx,replicate_zero->aeI,set->vg,set_cons_succ->du,set_cons_zero->dD,take_add_one->te,take_length->py,take_nil->gU,take_of_length_le->cy
open Nat renaming add_assoc->vp,add_le_add->ahl,add_mul->iV,add_sub_cancel->tD,add_zero->nW,le_refl->bF,le_succ->ayy,le_trans->aP,lt_or_ge->g7,mul_add->fp,mul_le_mul->nP,pow_le_pow_right->mN,pow_succ->kC,pow_zero->aeh,reduceAdd->bp,reduceBEq->bh,reduceEqDiff->dC,reduceMul->bo,sub_self->uz,sub_zero->aie,succ_mul->yz,zero_add->fZ,zero_le->bW
open Option renaming isNone_iff_eq_none->zX
open Option.some renaming injEq->gj
open Rat renaming add_zero->oc,div_def->gQ,intCast_add->af6,intCast_eq_zero_iff->aiy,intCast_mul->tx,intCast_pos->aaw,inv_pos->apF,le_of_lt->kL,le_refl->jM,le_trans->ajD,mul_assoc->xi,mul_inv_cancel->fV,mul_le_mul_of_nonneg_left->ayT,mul_nonneg->ua,mul_one->ahA,mul_pos->zW,mul_zero->abu,not_lt->awj,one_mul->wm
section
set_option linter.unusedVariables false
set_option linter.unusedSimpArgs false
set_option maxHeartbeats 8000000
set_option maxRecDepth 100000
attribute [local irreducible] Go.Lg.opsL Go.Lg.c9 Go.Lg.oF Go.Lg.qF
namespace Go.Proofs.YtbkmfcmgilhaaaaGreat
open Go.Lg
def gk:Nat->Nat->Nat
 |_,0=>1
 |0,_+1=>0
 |n+1,k+1=>gk n k+gk n (k+1)
theorem aiI:∀{n k:Nat},n<k->gk n k=0
 |0,k+1,_=>rfl
 |n+1,k+1,h=>by rw[gk,aiI J,aiI J]
theorem axp:∀n,gk n n=1
 |0=>rfl
 |n+1=>by rw[gk,axp n,aiI J]
theorem aiU(n:Nat):gk n 0=1:=by cases n<;>rfl
theorem ao4:∀n k,gk n k<=2^n
 |n,0=>by rw[aiU];exact Nat.pow_pos J
 |0,k+1=>by simp[gk]
 |n+1,k+1=>by
   have h1:=ao4 n k;have h2:=ao4 n (k+1);rw[gk,kC];omega
theorem ai2{n:Nat}(k:Nat)(h:n<=40):gk n k<=1099511627776:=aP (ao4 n k) (mN (n:=2) J h)
def aah(n:Nat):List Int:=(cN (n+1)).map fun x=>(gk n x:Int)
def iP(n:Nat):List Rat:=(cN (n+1)).map fun x=>((gk n x:Int):Rat)
theorem abk(n:Nat):(aah n).length=n+1:=by simp[aah]
theorem zA(n:Nat):(iP n).length=n+1:=by simp[iP]
theorem aqd{n x:Nat}(h:x<=n):(aah n).getD x 0=(gk n x:Int):=by
 rw[bq,ck (by rw[abk];omega)];simp[aah]
theorem ag3{n x:Nat}(h:x<=n):(iP n).getD x 0=((gk n x:Int):Rat):=by
 rw[bq,ck (by rw[zA];omega)];simp[iP]
theorem aIE{p q:List Int}(hl:p.length=q.length)(h:∀i,i<p.length->p.getD i 0=q.getD i 0):p=q:=by
 apply aaW hl;intro i h1 h2;have:=h i h1;rw[bq,bq,ck h1,ck h2]at this;exact this
theorem aPO(o:List Int)(i x:Nat)(v:Int)(hi:i<o.length):(o.set i v).getD x 0=if x=i then v else o.getD x 0:=by
 rw[bq,bq,List.getElem?_set];by_cases h:i=x
 ·subst h;simp[hi]
 rw[if_neg h,if_neg (fun e=>h e.symm)]
def afw(k i:Nat)(o:List Int):Prop:=o.length=k+2/\∀x,x<k+2->o.getD x 0=if i<x/\x<=k then(gk (k+1) x:Int)else if x<=k then(gk k x:Int)else 1
theorem aKm(k:Nat):afw k k (aah k++[1]):=by
 refine⟨by simp[abk],fun x hx=>?_⟩;rw[if_neg J];by_cases h:x<=k
 ·rw[if_pos h,afK _ _ _ (by rw[abk];omega),aqd h]
 rw[if_neg h,aok _ _ _ (by rw[abk];omega),abk,show x-(k+1)=0 by omega];rfl
theorem aNV{k i:Nat}{o:List Int}(h:afw k (i+1) o)(hi:i+1<=k):afw k i (o.set (i+1) (o.getD (i+1) 0+o.getD i 0)):=by
 obtain⟨h1,h2⟩:=h;refine⟨by simp[h1],fun x hx=>?_⟩;rw[aPO _ _ _ _ J];by_cases hxi:x=i+1
 ·subst hxi;rw[if_pos rfl,if_pos ⟨J,hi⟩,h2 _ J,h2 _ J,if_neg J,if_pos J,if_neg J,if_pos J,gk];simp;omega
 rw[if_neg hxi,h2 x hx];by_cases h3:i+1<x/\x<=k
 ·rw[if_pos h3,if_pos ⟨J,h3.2⟩]
 rw[if_neg h3,if_neg (show ¬(i<x/\x<=k) by omega)]
theorem aDn{k:Nat}{o:List Int}(h:afw k 0 o):o=aah (k+1):=by
 obtain⟨h1,h2⟩:=h;refine aIE (by rw[abk,h1]) (fun x hx=>?_);rw[h2 x J,aqd J];by_cases h3:0<x/\x<=k
 ·rw[if_pos h3]
 rw[if_neg h3];by_cases h4:x<=k
 ·obtain rfl:x=0:=J;rw[if_pos h4,aiU,aiU]
 obtain rfl:x=k+1:=J;rw[if_neg h4,axp];rfl
theorem awG{k i:Nat}{o:List Int}(h:afw k i o)(hk:k<=39){x:Nat}(hx:x<k+2):0<=o.getD x 0/\o.getD x 0<=1099511627776:=by
 rw[h.2 x hx];have h1:=ai2 (n:=k+1) x J;have h2:=ai2 (n:=k) x J;split
 ·omega
 split<;>omega
theorem z7{n:Nat}(hn:n<=40):∀x∈iP n,rl x<=2:=by
 intro x hx;simp only[iP,cZ]at hx;obtain⟨k,_,rfl⟩:=hx;have h:=ai2 k hn;rw[<-agF];have:=ad8 (k:=2) (decide ((gk n k:Int)<0)) (n:=(gk n k:Int).natAbs) (d:=1) J aj;omega
theorem zb{o p:List Rat}{k:Nat}{v:Rat}(hk:k<p.length)(dK:o.length=p.length)(ht:o.take k=p.take k)(hv:v=p.getD k 0):(o.set k v).take (k+1)=p.take (k+1):=by subst hv;exact awo hk dK ht
theorem aIx(n:Nat)(f:Int->LV):((aah n).map f).take (n+1)=(aah n).map f:=by rw[cy (by simp[abk])]
theorem aGD{p:List Rat}{k:Nat}(h:p.length<=k):p.getD k 0=0:=by
 rw[bq,agE h];rfl
theorem ae4{a b:List Rat}(h:a.length=b.length)(h2:∀k,k<a.length->a.getD k 0=b.getD k 0):a=b:=by
 refine aaW h fun k h1 h3=>?_;have:=h2 k h1;rw[bq,bq,ck h1,ck h3]at this;exact this
theorem ix{o:List Rat}{S:Nat}(h1:1<=S)(h:∀x∈o,rl x<=S)(k:Nat):rl (o.getD k 0)<=S:=by
 rcases g7 k o.length with hk|hk
 ·exact h _ (dJ hk)
 rw[bq,agE hk];show rl 0<=S;rw[show rl 0=1 from rfl];exact h1
theorem aGk{o:List Rat}{S:Nat}{i:Nat}{v:Rat}(h:∀x∈o,rl x<=S)(hv:rl v<=S):∀x∈o.set i v,rl x<=S:=fun x hx=>by
 rcases List.mem_or_eq_of_mem_set hx with h1|h1
 ·exact h x h1
 rw[h1];exact hv
namespace avE
theorem aJ{p q:Prop}(k:q)(e:p=q:=by simp only[bD,bo,bp,bh,dfi,cg,aIx,ey,abk,ek1,ek2,egr,jt,dR,fX,dO jH,dO ao,LV.kill,bC];exact rfl):p:=e.mpr k
end avE
open avE in
theorem apW(n:Nat)(hn:n<=40):an ai 282 [ah n] (.list 3 ((iP n).map ae)):=by
 refine aL Tryz.func282 ?_;have ek1:True:=trivial;have ek2:True:=trivial;have egr:True:=trivial;refine lV ?_;refine iS (au.mv (t:=3) (b:=8) 14 aj aj aj rfl rfl rfl) ?_;refine dy (fun(k:Nat) L=>(mS L [(14,⟨1,(aah k).map eE,true⟩)] [(10,ah k),(9,ah n),(3,.ref 14 1 0 (k+1))])) (fun k=>k<=n) (fun k=>n-k) 0 (bW _) ?_;rintro k L1 hk;refine a6 ?_;refine aD rfl ?_ ?_<;>intro adm z5
 ·have hkn:k<n:=J;have ek2:((((k+1+1:Nat)):Int)-2)=(k:Int):=J;refine bH ?_;refine cj rfl (.app (news:=[eE 1]) rfl rfl rfl rfl rfl (by simp[abk]) (.inl rfl) aj awy awy Z2 T2 rfl B2 (.inl ⟨13,0,_,rfl,by decide,rfl,rfl,by simp,rfl,rfl⟩) aQ aQ aj) ?_;refine aK ?_;refine cO (au.kill _ 13) ?_;refine bK ?_;refine kR (fun(i:Nat) (o:List Int) L=>(mS L [(14,⟨1,o.map eE,true⟩)] [(10,ah k),(9,ah n),(4,ah i),(3,.ref 14 1 0 (k+1+1))])) (fun i o=>i<=k/\afw k i o) (fun i o=>i) k (aah k++[1]) ⟨bF _,aKm k⟩ ?_;rintro i o L2 ⟨hi,hP⟩;refine bK ?_;refine aD rfl ?_ ?_<;>intro ab0 yI
  ·obtain⟨j,rfl⟩:∃j,i=j+1:=⟨i-1,J⟩;have ek1:(((j+1:Nat):Int)-1)=(j:Int):=J;have dK:=hP.1;have xH:=awG hP J (x:=j+1) J;have hb2:=awG hP J (x:=j) J;refine amI ?_;exact ja j (o.set (j+1) (o.getD (j+1) 0+o.getD j 0)) ⟨J,aNV hP hi⟩
  obtain rfl:i=0:=J;have hE:=aDn hP;subst hE;refine bN ?_;exact ji (k+1) J
 obtain rfl:n=k:=J;refine bM ?_;refine gv rfl rfl (.nr (n:=n+1) (m:=n+1) ml ml om om om) ?_;refine bG ?_;refine kR (fun(i:Nat) (w:List Rat) L=>(mS L [(14,⟨1,(aah n).map eE,true⟩),(36,⟨3,w.map ae,true⟩)] [(39,ah i),(38,ah (n+1)),(37,.ref 14 1 0 (n+1)),(5,.ref 36 3 0 (n+1))])) (fun i w=>i<=n+1/\w.length=n+1/\w.take i=(iP n).take i) (fun i w=>n+1-i) 0 (av (n+1) 0) ⟨bW _,by simp,rfl⟩ ?_;rintro i w L3 ⟨hi,gL,ij⟩;refine a6 ?_;refine aD rfl ?_ ?_<;>intro ao3 zB
 ·have uT:i<=n:=J;have egr:=aqd uT;have nz:=ai2 i hn;refine bf (zV (gk n i:Int) J J) ?_;refine b7 ?_;exact ja (i+1) (w.set i ((gk n i:Int):Rat)) ⟨J,by simp[gL],zb (by rw[zA];omega) (by rw[zA,gL]) ij (ag3 J).symm⟩
 obtain rfl:i=n+1:=J;have hE:w=iP n:=by
  rw[cy J,cy (by rw[zA];omega)]at ij;exact ij
 subst hE;refine bG ?_;exact lZ [36] rfl rfl (da ao rfl rfl (by rw[zA]))
theorem zE{a b:Nat}(h:a+b<=9223372036854775807):eO .add .i64 (a:Nat) (b:Nat)=some (.int .i64 ((a+b:Nat):Int)):=by
 rw[w6 J J];congr 2
theorem agf{a:Nat}(h:a+1<=9223372036854775807):eO .add .i64 (a:Nat) 1=some (.int .i64 ((a+1:Nat):Int)):=by
 rw[w6 J J];congr 2
theorem aNm{o:List Rat}{i:Nat}{v:Rat}(h:i<o.length):(o.set i v).getD i 0=v:=by rw[vz _ _ _ _ h,if_pos rfl]
def zM(x:Rat)(i:Nat)(y:List Rat)(q:List Rat)(o:List Rat):Nat->List Rat
 |0=>o
 |j+1=>(zM x i y q o j).set (i+j) ((zM x i y q o j).getD (i+j) 0+x*(y.getD j 0*q.getD j 0))
def allM(p q:List Rat):Nat->List Rat
 |0=>av (p.length-1+(q.length-1)+1) 0
 |i+1=>zM ((iP (p.length-1)).getD i 0*p.getD i 0) i (iP (q.length-1)) q (allM p q i) q.length
def oB(p q:List Rat):List Rat:=(cN (p.length-1+(q.length-1)+1)).map fun k=>(allM p q p.length).getD k 0/(iP (p.length-1+(q.length-1))).getD k 0
theorem ae9(x:Rat)(i:Nat)(y q o:List Rat):∀j,(zM x i y q o j).length=o.length
 |0=>rfl
 |j+1=>by simp[zM,ae9 x i y q o j]
theorem ady(p q:List Rat):∀i,(allM p q i).length=p.length-1+(q.length-1)+1
 |0=>by simp[allM]
 |i+1=>by rw[allM,ae9,ady p q i]
theorem zN(p q:List Rat):(oB p q).length=p.length-1+(q.length-1)+1:=by simp[oB]
theorem aty{p q:List Rat}{k:Nat}(h:k<p.length-1+(q.length-1)+1):(oB p q).getD k 0=(allM p q p.length).getD k 0/(iP (p.length-1+(q.length-1))).getD k 0:=by
 rw[bq,ck (by rw[zN];exact h)];simp[oB]
theorem alk{x:Rat}{i R S:Nat}{y q o:List Rat}(hS:1<=S)(ho:∀v∈o,rl v<=S)(hx:rl x<=R+2)(hy:∀v∈y,rl v<=2)(hq:∀v∈q,rl v<=R)(hR:1<=R):∀j,∀v∈zM x i y q o j,rl v<=S+j*(2*R+5)
 |0,v,hv=>by have:=ho v hv;omega
 |j+1,v,hv=>by
   have ih:=alk (i:=i) hS ho hx hy hq hR j;refine aGk (S:=S+(j+1)*(2*R+5)) (fun w hw=>?_) ?_ v hv
   ·have:=ih w hw;rw[yz];omega
   have h1:=ix J ih (i+j);have h2:=ix J hy j;have h3:=ix J hq j;have e1:=cF (y.getD j 0) (q.getD j 0);have e2:=cF x (y.getD j 0*q.getD j 0);have e3:=kO ((zM x i y q o j).getD (i+j) 0) (x*(y.getD j 0*q.getD j 0));rw[yz];omega
theorem adW{p q:List Rat}{R:Nat}(gf:p.length<=41)(jG:q.length<=41)(hR:1<=R)(mZ:∀v∈p,rl v<=R)(hq':∀v∈q,rl v<=R):∀i,∀v∈allM p q i,rl v<=1+i*(q.length*(2*R+5))
 |0,v,hv=>by
   simp only[allM,List.mem_replicate]at hv;rw[hv.2];show rl 0<=_;rw[show rl 0=1 from rfl];omega
 |i+1,v,hv=>by
   have ih:=adW gf jG hR mZ hq' i;have hx:rl ((iP (p.length-1)).getD i 0*p.getD i 0)<=R+2:=by
    have h1:=ix J (z7 (n:=p.length-1) J) i;have h2:=ix hR mZ i;have:=cF ((iP (p.length-1)).getD i 0) (p.getD i 0);omega
   have:=alk J ih hx (z7 (n:=q.length-1) J) hq' hR q.length v hv;rw[yz];omega
theorem aC2{i j l R:Nat}(hi:i<=41)(hl:l<=41)(hj:j<=l)(hR:R<=67108864):1+i*(l*(2*R+5))+j*(2*R+5)<=231122948107:=by
 have h1:=nP hl (show 2*R+5<=134217733 by omega);have h2:=nP hi h1;have h3:=nP (show j<=41 by omega) (show 2*R+5<=134217733 by omega);omega
def fG(p:List Rat):List Rat:=if p.length<2 then [0]else(cN (p.length-1)).map fun i=>(((p.length-1:Nat):Int):Rat)*(p.getD (i+1) 0-p.getD i 0)
theorem adL{p:List Rat}:(fG p).length=if p.length<2 then 1 else p.length-1:=by unfold fG;split<;>simp
theorem are{p:List Rat}{i:Nat}(h:i+1<p.length):(fG p).getD i 0=(((p.length-1:Nat):Int):Rat)*(p.getD (i+1) 0-p.getD i 0):=by
 unfold fG;rw[if_neg J,bq,ck aQ];simp
theorem aka{p:List Rat}{R:Nat}(hR:1<=R)(hl:p.length<=1000)(h:∀x∈p,rl x<=R):∀x∈fG p,rl x<=2*R+4:=by
 intro x hx;obtain⟨k,hk,rfl⟩:=ah6 hx;rw[adL]at hk;by_cases h2:p.length<2
 ·rw[if_pos h2]at hk;have:fG p=[0]:=by unfold fG;rw[if_pos h2]
  rw[this];obtain rfl:k=0:=J;show rl 0<=_;rw[show rl 0=1 from rfl];omega
 rw[if_neg h2]at hk;rw[are J];have h3:=aeu (n:=((p.length-1:Nat):Int)) J;have h4:=h _ (dJ (i:=k) J);have h5:=h _ (dJ (i:=k+1) J);have h6:=eX (p.getD (k+1) 0) (p.getD k 0);have h7:=cF (((p.length-1:Nat):Int):Rat) (p.getD (k+1) 0-p.getD k 0);omega
namespace aq2
theorem aJ{p q:Prop}(k:q)(e:p=q:=by simp only[bD,bo,bp,bh,cg,lQ,dO ao,kT,qV,LV.kill,bC];exact rfl):p:=e.mpr k
end aq2
open aq2 in
theorem akr(p:List Rat)(hl:p.length<=1000)(kI:∀x∈p,rl x<=1073741824):an ai 241 [.list 3 (p.map ae)] (.list 3 ((fG p).map ae)):=by
 refine aL Tryz.func241 ?_;refine dj ?_;refine aD rfl ?_ ?_<;>intro nX h8
 ·have hE:fG p=[0]:=by unfold fG;rw[if_pos J]
  refine bc ?_;refine pg ?_;refine a6 ?_;rw[hE];exact lZ [10] rfl rfl (da ao rfl rfl rfl)
 have mi:(fG p).length=p.length-1:=by rw[adL,if_neg J]
 refine a6 ?_;refine jc ?_;refine cp cr (zV ((p.length-1:Nat):Int) J J) ?_;refine bH ?_;refine jc ?_;refine gv rfl rfl (.nr (n:=(p.length-1)) (m:=(p.length-1)) ml ml om om om) ?_;refine bG ?_;refine kR (fun(i:Nat) (w:List Rat) L=>(mS L [(3,⟨3,[ae (((p.length-1:Nat):Int):Rat)],true⟩),(18,⟨3,w.map ae,true⟩)] [(21,ah i),(20,ah (p.length-1)),(19,.ref 18 3 0 (p.length-1)),(4,.ref 18 3 0 (p.length-1)),(3,.aB 3 3 0 0),(0,.list 3 (p.map ae))])) (fun i w=>i<=p.length-1/\w.length=p.length-1/\w.take i=(fG p).take i) (fun i w=>p.length-1-i) 0 (av (p.length-1) 0) ⟨bW _,by simp,rfl⟩ ?_;rintro i w L1 ⟨hi,gL,ij⟩;refine a6 ?_;refine aD rfl ?_ ?_<;>intro ae1 h22
 ·have cM:i<p.length-1:=J;have fR:=kI _ (dJ (i:=i) J);have mw:=kI _ (dJ (i:=i+1) J);have tL:=eX (p.getD (i+1) 0) (p.getD i 0);have hr4:=aeu (n:=((p.length-1:Nat):Int)) J;refine lN ?_;refine lG ?_;refine aN (ue (p.getD (i+1) 0) (p.getD i 0) J) ?_;refine cp aC (jE (((p.length-1:Nat):Int):Rat) (p.getD (i+1) 0-p.getD i 0) J) ?_;refine b7 ?_;exact ja (i+1) (w.set i ((((p.length-1:Nat):Int):Rat)*(p.getD (i+1) 0-p.getD i 0))) ⟨J,by simp[gL],zb J J ij (are J).symm⟩
 obtain rfl:i=p.length-1:=J;have hE:w=fG p:=by
  rw[cy J,cy J]at ij;exact ij
 subst hE;refine bG ?_;exact lZ [18] rfl rfl (da ao rfl rfl mi.symm)
theorem aIy{a:Rat}(h:0<a):cq a=1:=by unfold cq;rw[if_neg ba,if_neg ba]
theorem aGI{a:Rat}(h:a<0):cq a=-1:=by unfold cq;rw[if_neg ba,if_pos h]
theorem aLk(a:Rat):(a=0/\cq a=0)\/(0<a/\cq a=1)\/(a<0/\cq a=-1):=by
 by_cases h:a=0
 ·exact .inl ⟨h,by rw[h];rfl⟩
 by_cases h1:a<0
 ·exact .inr (.inr ⟨h1,aGI h1⟩)
 have:0<a:=ba;exact .inr (.inl ⟨this,aIy this⟩)
theorem asv{a:Rat}(h:cq a≠0):a≠0:=fun e=>h (by rw[e];rfl)
theorem aJy{a b:Int}(h:b≠0)(h1:-9223372036854775808<=a.tdiv b)(h2:a.tdiv b<=9223372036854775807):eO .quo .i64 a b=some (.int .i64 (a.tdiv b)):=by
 simp only[eO];rw[if_neg h,IntWalk.i64_in _ ⟨h1,h2⟩]
def fE(a b:Rat):Nat->(Nat->Rat)->Rat
 |0,f=>f 0
 |n+1,f=>fE a b n (fun i=>a*f i+b*f (i+1))
theorem aaq(a b:Rat):∀(n:Nat) (f g:Nat->Rat),(∀i,i<=n->f i=g i)->fE a b n f=fE a b n g
 |0,f,g,h=>h 0 (bF _)
 |n+1,f,g,h=>aaq a b n _ _ fun i hi=>by rw[h i J,h (i+1) J]
theorem al7(a b c d:Rat):∀(n:Nat) (f g:Nat->Rat),fE a b n (fun i=>c*f i+d*g i)=c*fE a b n f+d*fE a b n g
 |0,f,g=>rfl
 |n+1,f,g=>by
  rw[fE,fE,fE,<-al7 a b c d n];congr 1;funext i;grind
theorem amR(a b:Rat)(n:Nat)(f:Nat->Rat):fE a b (n+1) f=a*fE a b n f+b*fE a b n (fun i=>f (i+1)):=al7 a b a b n f (fun i=>f (i+1))
theorem aov(a b u v:Rat):∀(n:Nat) (f:Nat->Rat),fE a b n (fun k=>fE u v k f)=fE (a+b*u) (b*v) n f
 |0,f=>rfl
 |n+1,f=>by
  rw[amR,aov a b u v n f];have e:=aov a b u v n (fun i=>u*f i+v*f (i+1));have e2:(fun i=>fE u v (i+1) f)=(fun k=>fE u v k (fun i=>u*f i+v*f (i+1))):=rfl;rw[e2,e,<-al7];show fE _ _ n _=fE _ _ n _;congr 1;funext i;grind
theorem am8(t:Rat):∀(k:Nat) (q:List Rat),k<q.length->(yy t q.length q).getD k 0=fE (1-t) t k (fun i=>q.getD i 0)
 |0,q,h=>by
  obtain⟨m,hm⟩:∃m,q.length=m+1:=⟨q.length-1,J⟩;rw[hm];rfl
 |k+1,q,h=>by
  obtain⟨m,hm⟩:∃m,q.length=m+1:=⟨q.length-1,J⟩;have hs:(lC t q).length=m:=by rw[qq];omega
  have:=am8 t k (lC t q) J;rw[hs]at this;rw[hm,yy,List.getD_cons_succ,this,fE];exact aaq _ _ _ _ _ fun i hi=>agU t q i J
theorem agk{p:List Rat}{t:Rat}(h:0<p.length):dq p t=fE (1-t) t (p.length-1) (fun i=>p.getD i 0):=am8 t _ p J
theorem ard:∀(n:Nat) (f:Nat->Rat),fE 0 1 n f=f n
 |0,f=>rfl
 |n+1,f=>by rw[fE,ard n];grind
theorem anl{t:Rat}{C M:Nat}(hC:rl (1-t)+rl t+1<=C):∀(k:Nat) (q:List Rat),q.length=k->(∀x∈q,(rl x+C)*2^k<=M)->∀x∈yy t k q,rl x+C<=M
 |0,q,_,_,x,hx=>by cases hx
 |k+1,q,hq,h,x,hx=>by
  rw[yy,dS]at hx;rcases hx with rfl|hx
  ·exact aa7 (h _ (dJ J))
  exact anl hC k (lC t q) (by rw[qq];omega) (ajo hC h) x hx
theorem asS{t:Rat}{C M:Nat}(hC:rl (1-t)+rl t+1<=C):∀(k:Nat) (q tl:List Rat),q.length=k->(∀x∈q,(rl x+C)*2^k<=M)->(∀x∈tl,rl x+C<=M)->∀x∈wb t k q tl,rl x+C<=M
 |0,q,tl,hq,_,h2,x,hx=>by
  obtain rfl:q=[]:=pQ hq;exact h2 x hx
 |k+1,q,tl,hq,h,h2,x,hx=>by
  refine asS hC k (lC t q) _ (by rw[qq];omega) (ajo hC h) (fun y hy=>?_) x hx;rcases dS.1 hy with rfl|hy
  ·exact aa7 (h _ (dJ J))
  exact h2 y hy
theorem HS.lo{p:List Rat}{t:Rat}(h:HS p t):∀x∈oI p t,Go.Lg.rl x<=1073741824:=fun x hx=>by
 obtain⟨cc,h1,h2,h3⟩:=h;have:=anl h1 p.length p rfl h3 x hx;omega
theorem HS.hi{p:List Rat}{t:Rat}(h:HS p t):∀x∈lE p t,Go.Lg.rl x<=1073741824:=fun x hx=>by
 obtain⟨cc,h1,h2,h3⟩:=h;have:=asS h1 p.length p [] rfl h3 (fun y hy=>by cases hy) x hx;omega
theorem HS.ev{p:List Rat}{t:Rat}(h:HS p t):Go.Lg.rl (dq p t)<=1073741824:=ix aj h.lo _
theorem anp(a b:Rat):∀(n:Nat) (f:Nat->Rat),fE a b n f=fE b a n (fun i=>f (n-i))
 |0,f=>rfl
 |n+1,f=>by
  rw[amR,amR,anp a b n f,anp a b n (fun i=>f (i+1))];have e1:fE b a n (fun i=>f (n-i+1))=fE b a n (fun i=>f (n+1-i)):=aaq _ _ _ _ _ fun i hi=>by congr 1;omega
  have e2:(fun i=>f (n+1-(i+1)))=fun i=>f (n-i):=by funext i;congr 1;omega
  rw[e1,e2];grind
theorem atj(t:Rat):∀(k:Nat) (q tl:List Rat),q.length=k->∀j,j<k->(wb t k q tl).getD j 0=fE (1-t) t (k-1-j) (fun i=>q.getD (j+i) 0)
 |0,_,_,_,j,h=>by omega
 |k+1,q,tl,hq,j,hj=>by
  rw[wb];have hs:(lC t q).length=k:=by rw[qq];omega
  rcases g7 j k with h|h
  ·rw[atj t k _ _ hs j h,show k+1-1-j=k-1-j+1 by omega,fE];exact aaq _ _ _ _ _ fun i hi=>by rw[agU t q _ J];rfl
  obtain rfl:j=k:=J;rw[show j+1-1-j=0 by omega];have hE:∀(m:Nat) (q' tl':List Rat),q'.length=m->∀x,(wb t m q' tl').getD (m+x) 0=tl'.getD x 0:=by
   intro m
   induction m with
   |zero=>intro q' tl' h x;obtain rfl:q'=[]:=pQ h;rw[fZ];rfl
   |succ m ih =>
    intro q' tl' h x;rw[wb,show m+1+x=m+(x+1) by omega,ih _ _ (by rw[qq];omega)];rfl
  have:=hE j (lC t q) (q.getD j 0::tl) hs 0;rw[nW]at this;rw[this];rfl
theorem akn{p:List Rat}{j:Nat}(h:j<p.length)(t:Rat):(lE p t).getD j 0=fE (1-t) t (p.length-1-j) (fun i=>p.getD (j+i) 0):=atj t _ p [] rfl j h
theorem akv{p:List Rat}{j:Nat}(h:j<p.length)(t:Rat):(oI p t).getD j 0=fE (1-t) t j (fun i=>p.getD i 0):=am8 t j p h
def df(p:List Rat)(a b:Rat):List Rat:=if a=1 then oI (lE p.reverse 0) ((1-b-0)/(1-0))else oI (lE p a) ((b-a)/(1-a))
theorem azM:∀(n:Nat) (f:Nat->Rat),fE 1 0 n f=f 0
 |0,f=>rfl
 |n+1,f=>by rw[fE,azM n];grind
theorem aNk(p:List Rat):lE p 0=p:=by
 refine ae4 (aa4 p 0) fun j hj=>?_;rw[aa4]at hj;rw[akn hj,show (1:Rat)-0=1 from by grind,azM];rfl
theorem avI(p:List Rat)(a b:Rat):z6 p a b=df p a b:=by
 unfold z6 df;by_cases ha:a=1
 ·subst ha;rw[if_neg ba,if_pos rfl,aNk];have e0:(1-b-0)/(1-0)=1-b:=by rw[show (1:Rat)-0=1 by grind,show (1:Rat)-b-0=1-b by grind,gQ,Rat.inv_eq_of_mul_eq_one (show (1:Rat)*1=1 by grind),ahA]
  rw[e0];have hr:p.reverse.length=p.length:=List.length_reverse;by_cases hb:b=0
  ·subst hb;rw[if_neg ba];refine ae4 (by rw[aaB]) fun j hj=>?_;rw[akv hj,show (1:Rat)-(1-0)=0 by grind,show (1:Rat)-0=1 by grind,ard]
  rw[if_pos hb];refine ae4 (by rw[aa4,aaB,aaB,hr]) fun j hj=>?_;rw[aa4,aaB]at hj;rw[akn (by rw[aaB];exact hj),aaB,akv (by rw[hr];exact hj)];have e1:fE (1-1/b) (1/b) (p.length-1-j) (fun i=>(oI p b).getD (j+i) 0)=fE (1-1/b) (1/b) (p.length-1-j) (fun k=>fE (1-b) b k (fun i=>fE (1-b) b j (fun x=>p.getD (i+x) 0))):=by
   refine aaq _ _ _ _ _ fun i hi=>?_;rw[akv J];have aFg:∀(i j:Nat) (f:Nat->Rat),fE (1-b) b (j+i) f=fE (1-b) b i (fun y=>fE (1-b) b j (fun x=>f (y+x))):=by
    intro i
    induction i with
    |zero=>intro j f;show fE (1-b) b j f=fE (1-b) b j (fun x=>f (0+x));simp only[fZ]
    |succ i ih =>
     intro j f;rw[show j+(i+1)=(j+i)+1 by omega,fE,ih j,fE];refine aaq _ _ _ _ _ fun y hy=>?_;have:=al7 (1-b) b (1-b) b j (fun x=>f (y+x)) (fun x=>f (y+x+1));rw[this];congr 3;funext x;congr 1;omega
   exact aFg i j _
  have hi:=fV _ hb;rw[e1,aov,show (1-1/b)+(1/b)*(1-b)=0 by rw[gQ];grind,show 1/b*b=1 by rw[gQ];grind,ard,anp];rw[show (1:Rat)-(1-b)=b by grind];refine aaq _ _ _ _ _ fun i hi=>?_;rw[ar6 p J];congr 1;omega
 rw[if_pos ba,if_neg ha]
theorem aFh(p:List Rat)(a b:Rat):(z6 p a b).length=p.length:=by
 unfold z6;split
 ·rw[aaB,aa4]
 split
 ·rw[aa4,aaB]
 simp
def gg(a b:Rat):Rat:=if b<a then b else a
def fN(a b:Rat):Rat:=if a<b then b else a
def mz(s:Rat×Rat)(t:Rat×Rat):Rat×Rat:=(gg s.1 t.1,fN s.2 t.2)
def jm(p:List Rat):Nat->Rat×Rat
 |0=>(0,0)
 |k+1=>mz (if k=0 then(p.getD k 0,p.getD k 0)else jm p k) (p.getD k 0,p.getD k 0)
def fj(p:List Rat):Rat×Rat:=jm p p.length
theorem arI(a:Rat):gg a a=a:=by unfold gg;split<;>rfl
theorem amD(a:Rat):fN a a=a:=by unfold fN;split<;>rfl
theorem aPE(a b:Rat):gg a b<=a/\gg a b<=b/\(gg a b=a\/gg a b=b):=by unfold gg;split<;>grind
theorem aKs(a b:Rat):a<=fN a b/\b<=fN a b/\(fN a b=a\/fN a b=b):=by unfold fN;split<;>grind
theorem ai9(p:List Rat):∀k,(∀i,i<k->(jm p k).1<=p.getD i 0/\p.getD i 0<=(jm p k).2)/\(0<k->(∃i,i<k/\(jm p k).1=p.getD i 0)/\∃i,i<k/\(jm p k).2=p.getD i 0)
 |0=>⟨fun i h=>by omega,fun h=>by omega⟩
 |k+1=>by
  obtain⟨h1,h2⟩:=ai9 p k;rw[jm];by_cases hk:k=0
  ·subst hk;rw[if_pos rfl];simp only[mz,arI,amD];refine⟨fun i hi=>?_,fun _=>⟨⟨0,J,rfl⟩,⟨0,J,rfl⟩⟩⟩;obtain rfl:i=0:=J;exact⟨jM,jM⟩
  rw[if_neg hk];obtain⟨⟨i,hi,ei⟩,⟨j,hj,ej⟩⟩:=h2 J;have a:=aPE (jm p k).1 (p.getD k 0);have b:=aKs (jm p k).2 (p.getD k 0);simp only[mz];refine⟨fun x hx=>?_,fun _=>⟨?_,?_⟩⟩
  ·by_cases wM:x=k
   ·subst wM;exact⟨a.2.1,b.2.1⟩
   have:=h1 x J;exact⟨ajD a.1 this.1,ajD this.2 b.1⟩
  ·rcases a.2.2 with e|e
   ·exact⟨i,J,by rw[e,ei]⟩
   exact⟨k,J,e⟩
  rcases b.2.2 with e|e
  ·exact⟨j,J,by rw[e,ej]⟩
  exact⟨k,J,e⟩
theorem agn{p:List Rat}{R:Nat}(hR:1<=R)(h:∀k,rl (p.getD k 0)<=R):∀k,rl (jm p k).1<=R/\rl (jm p k).2<=R
 |0=>⟨hR,hR⟩
 |k+1=>by
  obtain⟨⟨i,_,ei⟩,⟨j,_,ej⟩⟩:=(ai9 p (k+1)).2 J;rw[ei,ej];exact⟨h i,h j⟩
theorem ako{p:List Rat}{R:Nat}(hR:1<=R)(h:∀x∈p,rl x<=R)(k:Nat):rl (p.getD k 0)<=R:=ix hR h k
theorem ahq{a b:Rat}:fY a b<=0↔a<=b:=by
 unfold fY;split
 ·rename_i h;exact⟨fun _=>kL h,fun _=>by decide⟩
 split
 ·rename_i h;exact⟨fun e=>absurd e aj,fun e=>absurd h (awj.2 e)⟩
 rename_i h;exact⟨fun _=>awj.1 h,fun _=>by decide⟩
def ks(s:Rat×Rat)(x:Rat):Bool:=decide (s.1<=x)&&decide (x<=s.2)
theorem auy{s:Rat×Rat}{x:Rat}(h:decide (fY s.1 x<=0)=true):decide (fY x s.2<=0)=ks s x:=by
 unfold ks;rw[decide_eq_true (ahq.1 (of_decide_eq_true h)),Bool.true_and,decide_eq_decide,ahq]
theorem aB7{s:Rat×Rat}{x:Rat}(h:decide (fY s.1 x<=0)=false):false=ks s x:=by
 unfold ks;rw[decide_eq_false (fun e=>of_decide_eq_false h (ahq.2 e)),Bool.false_and]
def kv(n:Int):Int:=1+(n.tdiv 17)%12
def sg(n:Int):Rat:=((n%(kv n+1):Int):Rat)/((kv n:Int):Rat)
theorem akU(n:Int):1<=kv n/\kv n<=12:=by
 unfold kv;have h1:=aaQ (n.tdiv 17) (show (12:Int)≠0 by decide);have h2:=aaE (n.tdiv 17) (show (0:Int)<12 by decide);omega
theorem arF{a b:Int}(ha:0<=a)(hb:0<b):(0:Rat)<=(a:Rat)/(b:Rat):=by
 rw[gQ];exact ua (Rat.intCast_nonneg.2 ha) (kL (apF.2 (aaw.2 hb)))
theorem aG8{a b c:Int}(hc:0<c)(h:a+b=c):(a:Rat)/(c:Rat)+(b:Rat)/(c:Rat)=1:=by
 have h1:(c:Rat)≠0:=fun e=>by have:=aiy.1 e;omega
 rw[gQ,gQ,<-Rat.add_mul,<-af6,h,fV _ h1]
theorem aKR(n:Int):0<=sg n/\sg n<=1:=by
 have hd:=akU n;have h1:=aaQ n (show kv n+1≠0 by omega);have h2:=aaE n (show (0:Int)<kv n+1 by omega);have h3:=arF (a:=n%(kv n+1)) (b:=kv n) h1 J;have h4:=arF (a:=kv n-n%(kv n+1)) (b:=kv n) J J;have h5:=aG8 (a:=n%(kv n+1)) (b:=kv n-n%(kv n+1)) (c:=kv n) J J;unfold sg;exact⟨h3,by grind⟩
theorem aBC(n:Int):rl (sg n)<=1:=by
 have hd:=akU n;have h1:=aaQ n (show kv n+1≠0 by omega);have h2:=aaE n (show (0:Int)<kv n+1 by omega);exact acO J J
theorem aiq{p:List Rat}{R:Nat}(hR:1<=R)(h:∀x∈p,rl x<=R):rl (fj p).1<=R/\rl (fj p).2<=R:=agn hR (ako hR h) p.length
open H0 in
theorem ad4(a b:Rat)(h:rl a+rl b<=549755813888):an ai 73 [ae a,ae b] (ar (gg a b,fN a b)):=by
 refine aL Tryz.func73 ?_;refine bN ?_;refine cp aC (aqY _ _ J) ?_;refine bc ?_;refine cp aC (apa _ _ J) ?_;refine aW ?_;exact mL
namespace aBs
theorem aJ{p q:Prop}(k:q)(e:p=q:=by simp only[bD,bo,bp,bh,arI,amD];exact rfl):p:=e.mpr k
end aBs
open aBs in
theorem vn(a:Rat)(h:rl a+rl a<=549755813888):an ai 171 [ae a] (ar (a,a)):=by
 refine aL Tryz.func171 ?_;refine b7 ?_;refine cp aC (ad4 _ _ J) ?_;refine aK ?_;exact mL
open H0 in
theorem yT(s t:Rat×Rat)(h1:rl s.1+rl t.1<=549755813888)(h2:rl s.2+rl t.2<=549755813888):an ai 172 [ar s,ar t] (ar (mz s t)):=by
 refine aL Tryz.func172 ?_;refine dj ?_;refine cp aC (aqY _ _ J) ?_;refine aK ?_;refine cp aC (apa _ _ J) ?_;refine aW ?_;exact mL
namespace auq
theorem aJ{p q:Prop}(k:q)(e:p=q:=by simp only[bD,bo,bp,bh,cg,tc,dO ao,kT,qV,LV.kill,bC];exact rfl):p:=e.mpr k
end auq
open auq in
theorem akP(p:List Rat)(hl:p.length<=1048576)(kI:∀x∈p,rl x<=137438953472):an ai 174 [.list 3 (p.map ae)] (ar (fj p)):=by
 refine aL Tryz.func174 ?_;have tc:True:=trivial;refine lV ?_;refine dy (fun(k:Nat) L=>(mS L [(2,⟨6,[ar (0,0)],true⟩),(3,⟨6,[ar (jm p k)],true⟩)] [(8,ah k),(7,ah p.length),(6,.list 3 (p.map ae)),(3,.aB 3 6 0 0),(2,.aB 2 6 0 0)])) (fun k=>k<=p.length) (fun k=>p.length-k) 0 (bW _) ?_;rintro k L1 hk;refine a6 ?_;refine aD rfl ?_ ?_<;>intro sw h9
 ·have kK:k<p.length:=J;have fR:=ako (R:=137438953472) aj kI;have mw:=fR k;have tL:=agn aj fR k;have hr4:rl ((p.getD k 0,p.getD k 0):Rat×Rat).1<=137438953472:=mw;have hr5:rl ((p.getD k 0,p.getD k 0):Rat×Rat).2<=137438953472:=mw;have tc:jm p (k+1)=mz (if k=0 then(p.getD k 0,p.getD k 0)else jm p k) (p.getD k 0,p.getD k 0):=rfl;refine ab7 ?_;refine aD rfl ?_ ?_<;>intro pU jI
  ·have nN:k=0:=J;rw[if_pos nN]at tc;refine bc ?_;refine cp cr (vn _ J) ?_;refine a6 ?_;refine cp cr (vn _ J) ?_;refine cp aC (yT _ _ J J) ?_;refine aK ?_;refine cO (au.kill _ 5) ?_;refine aK ?_;exact ji (k+1) J
  have nN:¬k=0:=J;rw[if_neg nN]at tc;refine aW ?_;refine cp cr (vn _ J) ?_;refine cp aC (yT _ _ J J) ?_;refine aK ?_;refine cO (au.kill _ 5) ?_;refine aK ?_;exact ji (k+1) J
 obtain rfl:k=p.length:=J;refine bG ?_;exact mL
open H0 in
theorem afk(s:Rat×Rat)(x:Rat)(h1:rl s.1+rl x<=34359738368)(h2:rl x+rl s.2<=34359738368):an ai 101 [ar s,ae x] (bL (ks s x)):=by
 refine aL Tryz.func101 ?_;refine bG ?_;refine cp aC (uf _ _ J) ?_;refine bc ?_;refine dU 10 rfl ?_ ?_<;>intro nj pC
 ·refine bI ?_;refine cp aC (uf _ _ J) ?_;refine a6 ?_;rw[<-auy nj];exact ee
 refine b7 ?_;rw[<-aB7 nj];exact ee
open H0 in
theorem aDp(n:Int)(hn:-9223372036854775808<=n/\n<=9223372036854775807):an ai 53 [iL n] (ae (sg n)):=by
 have hd:=akU n;have hq:(n.tdiv 17).natAbs=n.natAbs/17:=Int.natAbs_tdiv _ _;have hpd:kv n=1+(n.tdiv 17)%12:=rfl;have h1:=aaQ n (show kv n+1≠0 by omega);have h2:=aaE n (show (0:Int)<kv n+1 by omega);refine aL Tryz.func53 ?_;refine bH ?_;refine al rfl (.bin rfl rfl (aJy (a:=n) (b:=17) aj J J)) ?_;refine cp aC (acg (n.tdiv 17) 12 aj aj) ?_;refine al rfl acz ?_;refine bK ?_;refine al rfl (.bin rfl rfl (w6 (a:=kv n) J J)) ?_;refine cp aC (acg n (kv n+1) J J) ?_;refine aN (aey (n%(kv n+1)) (kv n) J J J J J) ?_;refine aK ?_;exact fO
open H0 in
theorem alI(a b:Rat)(h:rl a+rl b<=34359738368):an ai 204 [ae a,ae b] (ae (gg a b)):=by
 refine aL Tryz.func204 ?_;refine bG ?_;refine cp aC (uf _ _ J) ?_;refine bI ?_;refine aD rfl ?_ ?_<;>intro nX h8
 ·have hE:gg a b=b:=if_pos (ug.1 h8);refine bH ?_;rw[hE];exact fO
 have hE:gg a b=a:=if_neg (fun e=>h8 (ug.2 e));refine bM ?_;rw[hE];exact fO
open H0 in
theorem alp(a b:Rat)(h:rl a+rl b<=34359738368):an ai 203 [ae a,ae b] (ae (fN a b)):=by
 refine aL Tryz.func203 ?_;refine bG ?_;refine cp aC (uf _ _ J) ?_;refine bI ?_;refine aD rfl ?_ ?_<;>intro nX h8
 ·have hE:fN a b=b:=if_pos (qe.1 h8);refine bH ?_;rw[hE];exact fO
 have hE:fN a b=a:=if_neg (fun e=>h8 (qe.2 e));refine bM ?_;rw[hE];exact fO
open H0 in
theorem uB(a:Rat):an ai 207 [ae a] (ar (a,a)):=by
 refine aL Tryz.func207 ?_;refine iR ?_;exact mL
open H0 in
theorem acF(s t:Rat×Rat)(h1:rl s.1+rl t.1<=34359738368)(h2:rl s.2+rl t.2<=34359738368):an ai 206 [ar s,ar t] (ar (mz s t)):=by
 refine aL Tryz.func206 ?_;refine dj ?_;refine cp aC (alI _ _ J) ?_;refine aK ?_;refine cp aC (alp _ _ J) ?_;refine aW ?_;exact mL
open H0 in
theorem aGr(s:Rat×Rat)(h1:rl s.1<=17179869184)(h2:rl s.2<=17179869184):an ai 122 [ar s,ar s] (bL true):=by
 refine aL Tryz.func122 ?_;refine dj ?_;refine cp aC (aen _ _ J) ?_;refine bn ?_;refine al acL l5 ?_;refine al acL gJ ?_;refine al acL l5 ?_;refine al acL gJ ?_;refine dN acL (.cons eu (.cons eu .nil)) (aen _ _ J) ?_;refine al rfl (.sR rfl ((decide_eq_true rfl))) ?_;refine aK ?_;exact eG (x:=bL true) rfl (.pure rfl)
def v3a(p q:V3):V3:=⟨p.x+q.x,p.y+q.y,p.z+q.z⟩
def rk(p q:V3):V3:=⟨p.x-q.x,p.y-q.y,p.z-q.z⟩
def kJ(r:Rat)(p:V3):V3:=⟨r*p.x,r*p.y,r*p.z⟩
def cA(p q:V3):Rat:=0+p.x*q.x+p.y*q.y+p.z*q.z
def cG(R:Nat)(p:V3):Prop:=rl p.x<=R/\rl p.y<=R/\rl p.z<=R
theorem cG.le{R S:Nat}{p:V3}(h:cG R p)(hRS:R<=S):cG S p:=⟨aP h.1 hRS,aP h.2.1 hRS,aP h.2.2 hRS⟩
theorem adn{R S:Nat}{p q:V3}(hp:cG R p)(hq:cG S q):rl (cA p q)<=3*(R+S)+4:=by
 obtain⟨a1,a2,a3⟩:=hp;obtain⟨b1,b2,b3⟩:=hq;have h1:=cF p.x q.x;have h2:=cF p.y q.y;have h3:=cF p.z q.z;have h4:=kO 0 (p.x*q.x);have h5:=kO (0+p.x*q.x) (p.y*q.y);have h6:=kO (0+p.x*q.x+p.y*q.y) (p.z*q.z);have h0:rl 0=1:=rfl;unfold cA;omega
def oO(R:Nat)(q:aF):Prop:=cG R q.p/\rl q.w<=R/\0<q.w
theorem aeG(q:V3)(b:Nat):(aR q).kill b=aR q:=LV.oH b _ (cu.pure q)
theorem aiC(q:aF)(b:Nat):(aA q).kill b=aA q:=LV.oH b _ (ez.pure q)
theorem dW:type_of% (dI (@aeG) (dI (@aiC) (dI (dO cu) (dI (dO ez) (dI (dO ao) (dI (@kT) (@qV))))))):=dI (@aeG) (dI (@aiC) (dI (dO cu) (dI (dO ez) (dI (dO ao) (dI (@kT) (@qV))))))
namespace av2
theorem aJ{p q:Prop}(k:q)(e:p=q:=by simp only[bD,bo,bp,bh,acu];exact rfl):p:=e.mpr k
end av2
open av2 in
theorem axi(f:Nat)(g:Rat->Rat->Rat)(p q:V3)(h1:an ai f [ae p.x,ae q.x] (ae (g p.x q.x)))(h2:an ai f [ae p.y,ae q.y] (ae (g p.y q.y)))(h3:an ai f [ae p.z,ae q.z] (ae (g p.z q.z))):an ai 183 [aR p,aR q,.dT f []] (aR ⟨g p.x q.x,g p.y q.y,g p.z q.z⟩):=by
 refine aL Tryz.func183 (ht:=(fun r=>LV.db r _ (cu.pure _))) ?_;refine lV ?_;refine gH ?_;refine lV ?_;refine qk [] rfl rfl (.dT (f:=f) (cap:=[]) (args:=[ae p.x,ae q.x]) rfl (.cons eu (.cons eu .nil)) ⟨rfl,fun _ h=>by cases h⟩ h1.1 aj (fun _ h=>by cases h)) (h1.2 _) ?_;refine b7 ?_;refine gH ?_;refine lV ?_;refine qk [] rfl rfl (.dT (f:=f) (cap:=[]) (args:=[ae p.y,ae q.y]) rfl (.cons eu (.cons eu .nil)) ⟨rfl,fun _ h=>by cases h⟩ h2.1 aj (fun _ h=>by cases h)) (h2.2 _) ?_;refine b7 ?_;refine gH ?_;refine lV ?_;refine qk [] rfl rfl (.dT (f:=f) (cap:=[]) (args:=[ae p.z,ae q.z]) rfl (.cons eu (.cons eu .nil)) ⟨rfl,fun _ h=>by cases h⟩ h3.1 aj (fun _ h=>by cases h)) (h3.2 _) ?_;refine b7 ?_;refine pa ?_;refine bG ?_;exact vG
open H0 in
theorem aM8(p q:V3)(R:Nat)(hR:R<=100000000000)(hp:cG R p)(hq:cG R q):an ai 246 [aR p,aR q] (aR (v3a p q)):=by
 obtain⟨a1,a2,a3⟩:=hp;obtain⟨b1,b2,b3⟩:=hq;refine aL Tryz.func246 (ht:=(fun r=>LV.db r _ (cu.pure _))) ?_;refine bN ?_;refine cp kN (axi 78 (·+·) p q (lf _ _ J) (lf _ _ J) (lf _ _ J)) ?_;refine aK ?_;exact vG
open H0 in
theorem agR(r:Rat)(p:V3)(R:Nat)(hR:R<=100000000000)(hr:rl r<=R)(hp:cG R p):an ai 89 [ae r,aR p] (aR (kJ r p)):=by
 obtain⟨a1,a2,a3⟩:=hp;refine aL Tryz.func89 (ht:=(fun r=>LV.db r _ (cu.pure _))) ?_;refine rC (axi 181 (·*·) ⟨r,r,r⟩ p (jE r p.x J) (jE r p.y J) (jE r p.z J)) ?_;refine aK ?_;exact vG
open H0 in
theorem ahp(p q:V3)(R:Nat)(hR:R<=1000000000)(hp:cG R p)(hq:cG R q):an ai 245 [aR p,aR q] (ae (cA p q)):=by
 obtain⟨a1,a2,a3⟩:=hp;obtain⟨b1,b2,b3⟩:=hq;have m1:=cF p.x q.x;have m2:=cF p.y q.y;have m3:=cF p.z q.z;have s1:=kO 0 (p.x*q.x);have s2:=kO (0+p.x*q.x) (p.y*q.y);have vH:rl 0=1:=rfl;refine aL Tryz.func245 ?_;refine lV ?_;refine gH ?_;refine aN (jE p.x q.x J) ?_;refine cp aC (lf 0 (p.x*q.x) J) ?_;refine bM ?_;refine gH ?_;refine aN (jE p.y q.y J) ?_;refine cp aC (lf (0+p.x*q.x) (p.y*q.y) J) ?_;refine bM ?_;refine gH ?_;refine aN (jE p.z q.z J) ?_;refine cp aC (lf (0+p.x*q.x+p.y*q.y) (p.z*q.z) J) ?_;refine bM ?_;refine pa ?_;refine bG ?_;exact fO
open H0 in
theorem ahs(p q:V3)(R:Nat)(hR:R<=1000000000)(hp:cG R p)(hq:cG R q):an ai 258 [aR p,aR q] (ae (cA p q)):=by
 obtain⟨a1,a2,a3⟩:=hp;obtain⟨b1,b2,b3⟩:=hq;have m1:=cF p.x q.x;have m2:=cF p.y q.y;have m3:=cF p.z q.z;have s1:=kO 0 (p.x*q.x);have s2:=kO (0+p.x*q.x) (p.y*q.y);have vH:rl 0=1:=rfl;refine aL Tryz.func258 ?_;refine lV ?_;refine qK ?_;refine aN (iY p.x q.x J) ?_;refine cp aC (n6 0 (p.x*q.x) J) ?_;refine b7 ?_;refine qK ?_;refine aN (iY p.y q.y J) ?_;refine cp aC (n6 (0+p.x*q.x) (p.y*q.y) J) ?_;refine b7 ?_;refine qK ?_;refine aN (iY p.z q.z J) ?_;refine cp aC (n6 (0+p.x*q.x+p.y*q.y) (p.z*q.z) J) ?_;refine b7 ?_;refine wq ?_;refine bG ?_;exact fO
open H0 in
theorem aF4(p q:V3)(R:Nat)(hR:R<=1000000000)(hp:cG R p)(hq:cG R q):an ai 60 [aR p,aR q] (aR (rk p q)):=by
 obtain⟨a1,a2,a3⟩:=hp;obtain⟨b1,b2,b3⟩:=hq;refine aL Tryz.func60 (ht:=(fun r=>LV.db r _ (cu.pure _))) ?_;refine ff ?_;refine qK ?_;refine aN (og p.x q.x J) ?_;refine qM ?_;refine aN (og p.y q.y J) ?_;refine qM ?_;refine aN (og p.z q.z J) ?_;refine bN ?_;refine wq ?_;refine bG ?_;exact vG
open H0 in
theorem aL7(p q:V3)(R:Nat)(hR:R<=1000000000)(hp:cG R p)(hq:cG R q):an ai 224 [aR p,aR q] (aR (v3a p q)):=by
 obtain⟨a1,a2,a3⟩:=hp;obtain⟨b1,b2,b3⟩:=hq;refine aL Tryz.func224 (ht:=(fun r=>LV.db r _ (cu.pure _))) ?_;refine ff ?_;refine qK ?_;refine aN (n6 p.x q.x J) ?_;refine qM ?_;refine aN (n6 p.y q.y J) ?_;refine qM ?_;refine aN (n6 p.z q.z J) ?_;refine bN ?_;refine wq ?_;refine bG ?_;exact vG
open H0 in
theorem avt(r:Rat)(p:V3)(R:Nat)(hR:R<=1000000000)(hr:rl r<=R)(hp:cG R p):an ai 131 [ae r,aR p] (aR (kJ r p)):=by
 obtain⟨a1,a2,a3⟩:=hp;refine aL Tryz.func131 (ht:=(fun r=>LV.db r _ (cu.pure _))) ?_;refine ff ?_;refine qK ?_;refine aN (iY r p.x J) ?_;refine qM ?_;refine aN (iY r p.y J) ?_;refine qM ?_;refine aN (iY r p.z J) ?_;refine bN ?_;refine wq ?_;refine bG ?_;exact vG
theorem xx{a b:Rat}:0<=fY a b↔b<=a:=by
 unfold fY;constructor
 ·intro h;split at h
  ·exact absurd h aj
  grind
 intro h;split
 ·exfalso;grind
 split<;>decide
end Go.Proofs.YtbkmfcmgilhaaaaGreat
end
section
set_option linter.unusedVariables false
set_option linter.unusedSimpArgs false
namespace Go.Lg
def pz:Op->Bool
 | .move _=>true
 | .pick ..=>true
 | .binOp ..=>true
 | .load ..=>true
 | .fieldAddr ..=>true
 | .indexAddr ..=>true
 | .call ⟨.builtin .len,_,_⟩=>true
 |_=>false
theorem aBB{op:Op}(h:pz op=true):wK op=false:=by
 unfold pz at h;split at h<;>first|rfl|cases h
section
variable {P:Program} {H:cd} {ρ tp:Operand->LV}
theorem aM.aek{op:Op}{r:LV}(h:aM P H ρ op r)(hp:pz op=true)(hr:∀x∈op.operands,tp x=ρ x):aM P H tp op r:=by
 cases h with
 |move x=>rw[<-hr x cX];exact .move x
 |pick hc =>
  rename_i c x y t;have e1:=hr x cX;have e2:=hr y cX;have:=aM.pick (P:=P) (H:=H) (ρ:=tp) (x:=x) (y:=y) ((hr _ cX).trans hc);rw[e1,e2]at this;exact this
 |bin hx hy h=>exact .bin ((hr _ cX).trans hx) ((hr _ cX).trans hy) h
 |sh hx hy h=>exact .sh ((hr _ cX).trans hx) ((hr _ cX).trans hy) h
 |beq hx hy hT=>exact .beq ((hr _ cX).trans hx) ((hr _ cX).trans hy) hT
 |bne hx hy hT=>exact .bne ((hr _ cX).trans hx) ((hr _ cX).trans hy) hT
 |aax hq hT vc=>exact .aax ((hr _ cX).trans hq) hT vc
 |acW hq hT hk=>exact .acW ((hr _ cX).trans hq) hT hk
 |abx hq hT hc=>exact .abx ((hr _ cX).trans hq) hT hc
 |fa hq hb hs hi hx vc hT=>exact .fa ((hr _ cX).trans hq) hb hs hi hx vc hT
 |ado hx hT hE hi h0 hm=>exact .ado ((hr _ cX).trans hx) hT hE ((hr _ cX).trans hi) h0 hm
 |ac3 hx hT hE hf hi h0 vc=>exact .ac3 ((hr _ cX).trans hx) hT hE hf ((hr _ cX).trans hi) h0 vc
 |qt hx hT hE hi h0 vc hc=>exact .qt ((hr _ cX).trans hx) hT hE ((hr _ cX).trans hi) h0 vc hc
 |wL hx hT hE hi h0 hn=>exact .wL ((hr _ cX).trans hx) hT hE ((hr _ cX).trans hi) h0 hn
 |abC hx has hT=>exact .abC ((hr _ mB).trans hx) has hT
 |acx hx has hT=>exact .acx ((hr _ mB).trans hx) has hT
 |ab9 hx has hT=>exact .ab9 ((hr _ mB).trans hx) has hT
 |acD hx has hT=>exact .acD ((hr _ mB).trans hx) has hT
 |_=>first|(cases hp;done)|(simp[pz]at hp;done)
end
def aaH(n e:Nat):Array Bool:=((cN n).map fun i=>decide (i<e)).toArray
theorem atm{n e i:Nat}(h:i<n):(aaH n e).getD i false=decide (i<e):=by
 unfold aaH;rw[dQ];simp[h]
theorem axa(n e:Nat):(aaH n e).size=n:=by simp[aaH]
theorem aG0{n e:Nat}{D:Array Bool}(hs:D.size=n)(h:∀i,i<n->D.getD i false=decide (i<e)):D=aaH n e:=by
 refine Array.ext (by rw[axa,hs]) fun i h1 h2=>?_;have e1:=h i J;have e2:=atm (n:=n) (e:=e) (i:=i) J;rw[dQ,oX h1]at e1;rw[dQ,oX h2]at e2;simp only[Option.getD_some]at e1 e2;rw[e1,e2]
def amO(ops:Array Oper)(s e:Nat):Bool :=
 decide (s<=e)&&decide (e<=ops.size)&&((cN ops.size).all fun i=>(kh (ops.getD i default)).all (·<i)) &&
 ((cN e).all fun i=>decide (i<s)||pz (ops.getD i default).op) &&
 ((cN e).all fun i=>(cN e).all fun j=>decide (i<s)||decide (j<s)||i==j||acf ops (bef ops.toList []) i j) &&
 ((cN ops.size).all fun i=>decide (i<e)||(cN e).all fun j=>decide (j<s)||((bef ops.toList []).getD i 0).testBit j)
section
variable {P:Program} {ops:Array Oper}
theorem at8{K:St->Prop}:∀(n:Nat) (D:Array Bool) (L:St),jA P ops n D L K->jA P ops (n+1) D L K
 |0,D,L,h=>⟨fun _=>h.2,fun i hi=>by rw[h.1]at hi;cases hi⟩
 |n+1,D,L,h=>⟨h.1,fun i hi=>by
  obtain⟨o,L',h1,h2,h3⟩:=h.2 i hi;exact⟨o,L',h1,h2,at8 n _ _ h3⟩⟩
open Classical in
noncomputable def xS(ops:Array Oper)(g:Nat->St)(s e:Nat)(D:Array Bool)(t:Nat):LV :=
 if ∃i o,s<=i/\i<e/\D.getD i false=true/\ops[i]?=some o/\o.dst=some t then(g e).slot t else(g s).slot t
theorem aD0{fuel:Nat}{K:St->Prop}{L:St}{D:Array Bool}(s e:Nat)(l:List Oper)(hD:D=aaH ops.size s)(hl:l=(ops.toList.drop s).take (e-s))(fe:amO ops s e=true)
  (h:opsL P true ops l L (fun L'=>jA P ops fuel (aaH ops.size e) L' K)):jA P ops (fuel+(e-s)) D L K:=by
 unfold amO at fe;simp only[jS,decide_eq_true_eq,nU,rm,pI]at fe;obtain⟨⟨⟨⟨⟨hse,hen⟩,h1⟩,h2⟩,h3⟩,h4⟩:=fe;have jr:∀i o,ops[i]?=some o->ops.getD i default=o:=fun i o h=>by rw[dQ,h];rfl
 have pO:∀i o,ops[i]?=some o->i<ops.size:=fun i o h=>(lX.1 h).1;have aad:∀i,i<ops.size->∃o,ops[i]?=some o:=fun i h=>⟨_,oX h⟩;have oP:=aeM ops ops.toList [] (fun i=>by simp) (fun i t h=>by simp at h);have xX:∀i o,ops[i]?=some o->∀j∈kh o,j<i:=fun i o h j hj=>h1 i (pO i o h) j (by rw[jr i o h];exact hj);have arZ:∀i o,ops[i]?=some o->s<=i->i<e->pz o.op=true:=fun i o h a b=>by
  rcases h2 i b with c|c
  ·omega
  rw[jr i o h]at c;exact c
 have yA:∀i,i<ops.size->e<=i->∀j,s<=j->j<e->oa ops j i:=fun i hi a j b c=>by
  rcases h4 i hi with q|q
  ·omega
  rcases q j c with q|q
  ·omega
  exact oP i j q
 have xj:∀i j oi oj d,ops[i]?=some oi->ops[j]?=some oj->s<=i->i<e->s<=j->j<e->i≠j->oj.dst=some d->oi.dst≠some d/\(d∈oi.looksAt ops->if j<i then oa ops j i else oa ops i j):=by
  intro i j oi oj d hi hj si ei sj ej aZ q8;rcases h3 i ei j ej with((q|q)|q)|q
  ·omega
  ·omega
  ·exact absurd (by simpa using q) aZ
  unfold acf at q;rw[jr j oj hj,jr i oi hi,q8]at q;simp only[jS,bne_iff_ne,ne_eq,pI,yK]at q;refine⟨q.1,fun uE=>?_⟩;rcases q.2 with h'|h'
  ·rw[qJ.2 uE]at h';cases h'
  split at h'<;>rename_i bV
  ·rw[if_pos bV];exact oP i j h'
  rw[if_neg bV];exact oP j i h'
 obtain⟨f,f0,fs,fK⟩:=acr _ _ h;have hlen:l.length=e-s:=by rw[hl];simp;omega
 obtain⟨g,hg⟩:∃g:Nat->St,g=fun i=>f (i-s):=⟨_,rfl⟩;have gs0:g s=L:=by rw[hg];simp only[uz];exact f0
 have ge0:g e=f l.length:=by rw[hg,hlen]
 have gst:∀i o,ops[i]?=some o->s<=i->i<e->Step P true ops o (g i) (g (i+1)):=fun i o h a b=>by
  have:=fs (i-s) o (by
   rw[hl,List.getElem?_take,if_pos J,u6,show s+(i-s)=i by omega];simpa using h)
  rw[hg];simp only;rw[show i+1-s=i-s+1 by omega];exact this
 rw[<-ge0]at fK;have aa8:∀i o,ops[i]?=some o->s<=i->i<e->(g i).heap.le (g (i+1)).heap/\∀t,o.dst≠some t->(g (i+1)).slot t=(g i).slot t:=fun i o h a b=>ars (aBB (arZ i o h a b)) (gst i o h a b);have hle:∀i j,s<=i->i<=j->j<=e->(g i).heap.le (g j).heap:=by
  intro i j si ud
  induction j with
  |zero =>
   intro _;obtain rfl:i=0:=J;exact cd.le_refl _
  |succ j ih =>
   intro nD;by_cases c:i=j+1
   ·subst c;exact cd.le_refl _
   obtain⟨o,ho⟩:=aad j J;exact cd.le_trans (ih J J) (aa8 j o ho J J).1
 have hconst:∀i j t,s<=i->i<=j->j<=e->(∀k o,i<=k->k<j->ops[k]?=some o->o.dst≠some t)->(g j).slot t=(g i).slot t:=by
  intro i j t si ud
  induction j with
  |zero =>
   intro _ _;obtain rfl:i=0:=J;rfl
  |succ j ih =>
   intro nD hk;by_cases c:i=j+1
   ·subst c;rfl
   obtain⟨o,ho⟩:=aad j J;rw[(aa8 j o ho J J).2 t (hk j o J J ho)];exact ih J J (fun k o a b=>hk k o a J)
 have agq:∀i o t,ops[i]?=some o->s<=i->i<e->o.dst=some t->(g e).slot t=(g (i+1)).slot t:=fun i o t ho si ei kX =>
  hconst (i+1) e t J J (bF _) (fun k ok a b hk q=>(xj i k o ok t ho hk si ei J b J q).1 kX)
 let closed:Array Bool->Prop:=fun D=>∀i o,ops[i]?=some o->D.getD i false=true->∀j∈kh o,D.getD j false=true
 have aaJ:∀D,closed D->∀j i,oa ops j i->(∀o,ops[i]?=some o->∀k∈kh o,D.getD k false=true)->D.getD j false=true:=by
  intro D hD j i hA
  induction hA with
  | @one i o ho h=>intro hr;exact hr o ho _ h
  | @step k i o hA ho hk ih=>intro hr;exact ih (fun o' ki k' qD=>hD k o' ki (hr o ho k hk) k' qD)
 have main:∀(n:Nat) (D:Array Bool) (L:St),D.size=ops.size->(∀i,i<s->D.getD i false=true)->(∀i,e<=i->D.getD i false=false)->closed D->(∀t,L.slot t=xS ops g s e D t) ->
   (L.heap=(g e).heap\/(L.heap=(g s).heap/\∀i,s<=i->i<e->D.getD i false=true->(g (i+1)).heap=(g i).heap))->(cN e).countP (fun i=>!D.getD i false)<=n->jA P ops (fuel+n) D L K:=by
  intro n
  induction n with
  |zero =>
   intro D L bU cI jf ju mo hhp hct;have fM:∀i,i<e->D.getD i false=true:=fun i hi=>by
    have:(cN e).countP (fun i=>!D.getD i false)=0:=J;have:=ayQ.1 this i (rm.2 hi);simpa using this
   have eD:D=aaH ops.size e:=aG0 bU fun i hi=>by
    rcases g7 i e with c|c
    ·rw[fM i c,decide_eq_true c]
    rw[jf i c,decide_eq_false J]
   have eL:L=g e:=by
    have q1:L.slot=(g e).slot:=by
     funext t;rw[mo t];unfold xS;split
     ·rfl
     rename_i ns;exact(hconst s e t (bF _) hse (bF _) (fun k o a b hk q=>ns ⟨k,o,a,b,fM k b,hk,q⟩)).symm
    have q2:L.heap=(g e).heap:=by
     rcases hhp with q|⟨q,hq⟩
     ·exact q
     rw[q];have:∀m,s<=m->m<=e->(g m).heap=(g s).heap:=by
      intro m
      induction m with
      |zero =>
       intro a _;obtain rfl:s=0:=J;rfl
      |succ m ih =>
       intro a b;by_cases c:s=m+1
       ·rw[c]
       rw[hq m J J (fM m J)];exact ih J J
     exact(this e hse (bF _)).symm
    cases L;cases mr:g e
    rw[mr]at q1 q2;simp only at q1 q2;rw[q1,q2]
   rw[eD,eL];exact fK
  |succ n ih =>
   intro D L bU cI jf ju mo hhp hct;by_cases fM:∀i,i<e->D.getD i false=true
   ·have h0:(cN e).countP (fun i=>!D.getD i false)=0:=ayQ.2 fun i hi=>by rw[fM i (rm.1 hi)];decide
    exact at8 _ _ _ (ih D L bU cI jf ju mo hhp J)
   have uT:∀i,i∈Region.ready .any ops D->s<=i/\i<e:=fun i hi=>by
    obtain⟨o,yZ,wy,p3'⟩:=(pV bU).1 hi;have bV:=pO i o yZ;have vf:D.getD i false=false:=by rw[tO J false true];exact wy
    refine⟨?_,?_⟩
    ·rcases g7 i s with c|c
     ·rw[cI i c]at vf;cases vf
     exact c
    rcases g7 i e with c|c
    ·exact c
    exfalso;refine fM fun j hj=>?_;rcases g7 j s with d|d
    ·exact cI j d
    exact aaJ D ju j i (yA i bV c j d hj) (fun o' ki k hk=>by rw[yZ]at ki;cases ki;exact p3' k hk)
   refine⟨fun hr=>?_,fun i hi=>?_⟩
   ·exfalso;refine fM fun i=>?_
    induction i using Nat.strongRecOn with
    |_ i ihh =>
     intro hie
     cases hc:D.getD i false with
     |true=>rfl
     |false =>
      obtain⟨o,ho⟩:=aad i J;have:i∈Region.ready .any ops D:=(pV bU).2 ⟨o,ho,by rw[tO J true false];exact hc,fun j hj=>by
       have:=xX i o ho j hj;exact ihh j this J⟩
      rw[hr]at this;cases this
   obtain⟨si,ei⟩:=uT i hi;obtain⟨o,ho,acQ,zO⟩:=(pV bU).1 hi;have vf:D.getD i false=false:=by rw[tO J false true];exact acQ
   have kf:∀k,(D.setIfInBounds i true).getD k false=true↔k=i\/D.getD k false=true:=fun k=>by
    by_cases c:i=k
    ·subst c;rw[dQ,p7 J];simp
    rw[dQ,lU c,<-dQ];constructor
    ·exact fun h=>.inr h
    rintro(h|h)
    ·exact absurd h.symm c
    exact h
   have aeo:closed (D.setIfInBounds i true):=fun k ok hk gi j hj=>by
    rcases(kf k).1 gi with rfl|h
    ·rw[ho]at hk;cases hk;exact(kf j).2 (.inr (zO j hj))
    exact(kf j).2 (.inr (ju k ok hk h j hj))
   have adP:∀o',ops[i]?=some o'->∀k∈kh o',D.getD k false=true:=fun o' ki k hk=>(by rw[ho]at ki;cases ki;exact zO k hk);have afD:∀t,t∈o.looksAt ops->(g i).slot t=L.slot t:=by
    intro t ht;rw[mo t];by_cases hex:∃j oj,s<=j/\j<e/\ops[j]?=some oj/\oj.dst=some t
    ·obtain⟨j,oj,sj,ej,hj,q8⟩:=hex;have aaR:∀k ok,s<=k->k<e->ops[k]?=some ok->ok.dst=some t->k=j:=fun k ok sk ek hk nk =>
      rE fun aZ=>(xj k j ok oj t hk hj sk ek sj ej aZ q8).1 nk
     have au1:(∀hh:D.getD j false=true,False)->xS ops g s e D t=(g s).slot t:=fun hh=>by
      unfold xS;rw[if_neg];rintro⟨k,ok,sk,ek,gi,hk,nk⟩;have:=aaR k ok sk ek hk nk;subst this;exact hh gi
     by_cases kD:j=i
     ·subst kD;rw[hconst s j t (bF _) si J (fun k ok a b hk q=>by have:=aaR k ok a J hk q;omega),au1 (fun hh=>by rw[vf]at hh;cases hh)]
     have hp:=(xj i j o oj t ho hj si ei sj ej (Ne.symm kD) q8).2 ht;by_cases bV:j<i
     ·rw[if_pos bV]at hp;have vV:=aaJ D ju j i hp adP;have e2:xS ops g s e D t=(g e).slot t:=by
       unfold xS;rw[if_pos ⟨j,oj,sj,ej,vV,hj,q8⟩]
      rw[e2,agq j oj t hj sj ej q8];exact hconst (j+1) i t J J J (fun k ok a b hk q=>by have:=aaR k ok J J hk q;omega)
     rw[if_neg bV]at hp;rw[hconst s i t (bF _) si J (fun k ok a b hk q=>by have:=aaR k ok a J hk q;omega),au1 (fun hh=>by
      have:=aaJ D ju i j hp (fun o' ki k' qD=>ju j o' ki hh k' qD);rw[vf]at this;cases this)]
    rw[hconst s i t (bF _) si J (fun k ok a b hk q=>hex ⟨k,ok,a,J,hk,q⟩)];unfold xS;rw[if_neg];rintro⟨k,ok,sk,ek,gi,hk,nk⟩;exact hex ⟨k,ok,sk,ek,hk,nk⟩
   have aii:∀t,xS ops g s e (D.setIfInBounds i true) t=if o.dst=some t then(g (i+1)).slot t else L.slot t:=by
    intro t;rw[mo t];by_cases kX:o.dst=some t
    ·rw[if_pos kX];unfold xS;rw[if_pos ⟨i,o,si,ei,(kf i).2 (.inl rfl),ho,kX⟩];exact agq i o t ho si ei kX
    rw[if_neg kX];unfold xS;congr 1;apply propext;constructor
    ·rintro⟨k,ok,sk,ek,gi,hk,nk⟩;rcases(kf k).1 gi with rfl|h
     ·rw[ho]at hk;cases hk;exact absurd nk kX
     exact⟨k,ok,sk,ek,h,hk,nk⟩
    rintro⟨k,ok,sk,ek,gi,hk,nk⟩;exact⟨k,ok,sk,ek,(kf k).2 (.inr gi),hk,nk⟩
   have aiV:∀res,eg ops (g i) o res->eg ops L o res:=fun res hgd=>by
    unfold eg at hgd ⊢
    cases hh:o.guard with
    |none=>rw[hh]at hgd;exact hgd
    |some pr =>
     obtain⟨j,want⟩:=pr;rw[hh]at hgd;obtain⟨d,vF,q'⟩:=hgd;have e1:(g i).slot d=L.slot d:=afD d (by unfold Oper.looksAt;rw[hh];simp[vF]);refine⟨d,vF,?_⟩;show (∃b,L.slot d=_/\_)\/(L.slot d=_/\_);rw[<-e1];exact q'
   have nG:∀(r:LV) (H1:cd),(∀t,o.dst=some t->(g (i+1)).slot t=r)->∀t,(⟨(L.put o.dst r).slot,H1⟩:St).slot t=xS ops g s e (D.setIfInBounds i true) t:=fun r H1 hr t=>by
    rw[aii t];show (L.put o.dst r).slot t=_
    cases hd:o.dst with
    |none=>rw[if_neg aE];rfl
    |some d =>
     rw[iU];by_cases c:t=d
     ·subst c;rw[if_pos rfl,if_pos rfl,hr t hd]
     rw[if_neg c,if_neg (fun q=>c (by cases q;rfl))]
   have ati:(cN e).countP (fun k=>!(D.setIfInBounds i true).getD k false)<=n:=by
    have:(cN e).countP (fun k=>!(D.setIfInBounds i true).getD k false)<(cN e).countP (fun k=>!D.getD k false):=by
     apply anr
     ·intro k _ hk
      cases hc:D.getD k false with
      |false=>rfl
      |true=>rw[(kf k).2 (.inr hc)]at hk;cases hk
     exact⟨i,rm.2 ei,by rw[vf];rfl,by rw[(kf i).2 (.inl rfl)];rfl⟩
    omega
   have ad6:∀L',Step P false ops o L L'->(∀t,L'.slot t=xS ops g s e (D.setIfInBounds i true) t)->(L'.heap=(g e).heap\/(L'.heap=(g s).heap/\∀k,s<=k->k<e->(D.setIfInBounds i true).getD k false=true->(g (k+1)).heap=(g k).heap)) ->
     ∃o L',ops[i]?=some o/\Step P false ops o L L'/\jA P ops (fuel+n) (D.setIfInBounds i true) L' K:=fun L' ef kF hh' =>
    ⟨o,L',ho,ef,ih _ L' (by simpa using bU) (fun k hk=>(kf k).2 (.inr (cI k hk))) (fun k hk=>by
     cases hc:(D.setIfInBounds i true).getD k false with
     |false=>rfl
     |true =>
      rcases(kf k).1 hc with rfl|q
      ·omega
      rw[jf k hk]at q;cases q) aeo kF hh' ati⟩
   have gf:=arZ i o ho si ei
   cases gst i o ho si ei with
   |skip hg' h' =>
    refine ad6 (L.put o.dst (.aY [])) (.skip (aiV false hg') rfl) (fun t=>?_) ?_
    ·have:=nG (.aY []) L.heap (fun t ht=>by rw[h',ht,iU,if_pos rfl]) t;exact this
    rw[kH];rcases hhp with q|⟨q,hq⟩
    ·exact .inl q
    refine .inr ⟨q,fun k sk ek hk=>?_⟩;rcases(kf k).1 hk with rfl|hk
    ·rw[h',kH]
    exact hq k sk ek hk
   | @val r fr H1 hg' hH eM oA h' =>
    obtain⟨dst,op,ty,pos,after,gd⟩:=o;have r9:H1=(g (i+1)).heap:=by rw[h']
    have afx:H1.le (g e).heap:=by rw[r9];exact hle (i+1) e J J (bF _)
    cases oA with
    |alloc ha=>cases ha<;>cases gf
    |call hc=>cases hc<;>cases gf
    |pure xo =>
     have gV:∀x∈op.operands,L.ev x=(g i).ev x:=by
      intro x hx
      cases x with
      |tmp t =>
       have ht:t∈Oper.looksAt ops ⟨dst,op,ty,pos,after,gd⟩:=by
        unfold Oper.looksAt;simp only[nC,aaF];exact .inl ⟨.tmp t,by simpa using hx,rfl⟩
       exact(afD t ht).symm
      |const v=>rfl
      |func f=>rfl
      |global f=>rfl
     have aIN:=aM.aek (aM.le afx xo) gf gV;have hLe:L.heap.le (g e).heap:=by
      rcases hhp with q|⟨q,_⟩
      ·rw[q];exact cd.le_refl _
      rw[q];exact hle s e (bF _) hse (bF _)
     refine ad6 ⟨(L.put dst r).slot,(g e).heap⟩ (.val (fr:=[]) (aiV true hg') hLe (fun _ _ hh=>by cases hh) (.pure aIN) rfl) (nG r _ (fun t ht=>?_)) (.inl rfl);rw[h'];show ((g i).put dst r).slot t=r;have ht:dst=some t:=ht;rw[ht,iU,if_pos rfl]
   |st hg' rX =>
    obtain⟨dst,op,ty,pos,after,gd⟩:=o;have:=aBB gf;rw[rX.tail]at this;cases this
   |stM ir _ _=>cases ir
 have bU:D.size=ops.size:=by rw[hD];exact axa _ _
 have hDg:∀i,D.getD i false=true↔i<s:=fun i=>by
  rcases g7 i ops.size with c|c
  ·rw[hD,atm c,decide_eq_true_eq]
  constructor
  ·intro q;rw[dQ,Array.getElem?_eq_none J]at q
   cases q
  intro q;omega
 refine main (e-s) D L bU (fun i hi=>(hDg i).2 hi) (fun i hi=>?_) (fun i o ho hi j hj=>(hDg j).2 (by have:=xX i o ho j hj;have:=(hDg i).1 hi;omega)) (fun t=>?_) (.inr ⟨by rw[gs0],fun i si _ hi=>by have:=(hDg i).1 hi;omega⟩) ?_
 ·cases hc:D.getD i false with
  |false=>rfl
  |true=>have:=(hDg i).1 hc;omega
 ·unfold xS;rw[if_neg,gs0];rintro⟨k,o,sk,_,hk,_⟩;have:=(hDg k).1 hk;omega
 have:∀m,(cN m).countP (fun i=>!D.getD i false)<=m-s:=by
  intro m
  induction m with
  |zero=>simp
  |succ m ih =>
   rw[List.range_succ,List.countP_append];have aaN:List.countP (fun i=>!D.getD i false) [m]=if D.getD m false=true then 0 else 1:=by
    rw[List.countP_cons,List.countP_nil,fZ]
    cases hc:D.getD m false<;>rfl
   rw[aaN];split
   ·omega
   rename_i hc;have:¬m<s:=fun q=>hc ((hDg m).2 q);omega
 exact this e
theorem arv{m:Nat}{K:St->Prop}{L:St}{D:Array Bool}{l0:List Oper}(s e fuel:Nat)(hm:m=fuel+(e-s))(hD:D=aaH l0.toArray.size s)(fe:amO l0.toArray s e=true)
  (h:opsL P true l0.toArray ((l0.drop s).take (e-s)) L (fun L'=>jA P l0.toArray fuel (aaH l0.toArray.size e) L' K)):jA P l0.toArray m D L K:=by
 subst hm;exact aD0 s e _ hD rfl fe h
end
def aia:Op->Bool
 | .move _=>true
 | .binOp ..=>true
 | .fieldAddr ..=>true
 | .indexAddr ..=>true
 | .call ⟨.builtin .len,_,_⟩=>true
 |_=>false
def abD:Op->Bool
 | .store ..=>true
 | .call ⟨.value (.func _),_,_⟩=>true
 |op=>pz op
theorem aI0{op:Op}(h:aia op=true):pz op=true:=by
 unfold aia at h;split at h<;>first|rfl|cases h
theorem aM.aKC{P:Program}{H H':cd}{ρ:Operand->LV}{op:Op}{r:LV}(h:aM P H ρ op r)(hp:aia op=true):aM P H' ρ op r:=by
 cases h with
 |move x=>exact .move x
 |bin hx hy h=>exact .bin hx hy h
 |sh hx hy h=>exact .sh hx hy h
 |beq hx hy hT=>exact .beq hx hy hT
 |bne hx hy hT=>exact .bne hx hy hT
 |aax hq hT vc=>exact .aax hq hT vc
 |acW hq hT hk=>exact .acW hq hT hk
 |ado hx hT hE hi h0 hm=>exact .ado hx hT hE hi h0 hm
 |ac3 hx hT hE hf hi h0 vc=>exact .ac3 hx hT hE hf hi h0 vc
 |qt hx hT hE hi h0 vc hc=>exact .qt hx hT hE hi h0 vc hc
 |wL hx hT hE hi h0 hn=>exact .wL hx hT hE hi h0 hn
 |abC hx has hT=>exact .abC hx has hT
 |acx hx has hT=>exact .acx hx has hT
 |ab9 hx has hT=>exact .ab9 hx has hT
 |acD hx has hT=>exact .acD hx has hT
 |_=>first|(cases hp;done)|(simp[aia]at hp;done)
theorem put_comm(L:St){d e:Nat}(h:d≠e)(v r:LV):(L.put (some d) v).put (some e) r=(L.put (some e) r).put (some d) v:=by
 have:∀t,((L.put (some d) v).put (some e) r).slot t=((L.put (some e) r).put (some d) v).slot t:=fun t=>by
  rw[iU,iU,iU,iU];by_cases h1:t=e
  ·rw[if_pos h1,if_neg J,if_pos h1]
  rw[if_neg h1,if_neg h1]
 exact congrArg (fun f=>St.mk f L.heap) (funext this)
theorem vu(L:St){d:Nat}{e:Option Nat}(h:e≠some d)(v r:LV):(L.put (some d) v).put e r=(L.put e r).put (some d) v:=by
 cases e with
 |none=>rfl
 |some e=>exact put_comm L (fun q=>h (by rw[q])) v r
section
variable {P:Program} {ops:Array Oper}
theorem apr{L:St}{d:Nat}{v:LV}{o:Oper}(h:d∉o.looksAt ops):∀x∈o.op.operands,(L.put (some d) v).ev x=L.ev x:=fun x hx=>by
 cases x with
 |tmp t =>
  have ht:t∈o.looksAt ops:=by
   unfold Oper.looksAt;simp only[nC,aaF];exact .inl ⟨.tmp t,by simpa using hx,rfl⟩
  show (L.put (some d) v).slot t=L.slot t;rw[iU,if_neg (fun q=>h (by rw[<-q];exact ht))]
 |const v=>rfl
 |func f=>rfl
 |global f=>rfl
theorem xI{L:St}{d:Nat}{v:LV}{o:Oper}{res:Bool}(h:d∉o.looksAt ops)(hg:eg ops (L.put (some d) v) o res):eg ops L o res:=by
 unfold eg at hg ⊢
 cases hh:o.guard with
 |none=>rw[hh]at hg;exact hg
 |some pr =>
  obtain⟨j,want⟩:=pr;rw[hh]at hg;obtain⟨t,vF,q'⟩:=hg;have aZ:t≠d:=fun q=>h (by rw[<-q];unfold Oper.looksAt;rw[hh];simp[vF]);have e1:(L.put (some d) v).slot t=L.slot t:=by rw[iU,if_neg aZ]
  refine⟨t,vF,?_⟩;show (∃b,L.slot t=_/\_)\/(L.slot t=_/\_);rw[<-e1];exact q'
theorem yx{f:Operand}{xs:Array Operand}{xh:Array TypeId}{x:Operand}(h:x∈xs.toList):x∈(Op.call ⟨.value f,xs,xh⟩).operands:=by
 have:=aib.1 h;simp[Op.operands,Call.operands,this]
theorem aLi{L L2:St}{d:Nat}{v:LV}{o:Oper}(hk:abD o.op=true)(hl:d∉o.looksAt ops)(hd:o.dst≠some d)(h:Step P false ops o (L.put (some d) v) L2):
  ∃L1,Step P false ops o L L1/\L2=L1.put (some d) v/\∀t,o.dst≠some t->L1.slot t=L.slot t:=by
 have gV:=apr (L:=L) (v:=v) hl;have mo:∀(M:St) (r:LV) t,M.slot t=L.slot t->o.dst≠some t->(M.put o.dst r).slot t=L.slot t:=fun M r t hM aZ=>by
  cases hh:o.dst with
  |none=>exact hM
  |some e=>rw[iU,if_neg (fun q=>aZ (by rw[hh,q]))];exact hM
 cases h with
 |skip hg hL=>exact⟨L.put o.dst (.aY []),.skip (xI hl hg) rfl,by rw[hL,vu L hd],fun t ht=>mo L _ t rfl ht⟩
 | @val r fr H1 hg hle eM oA hL =>
  obtain⟨dst,op,ty,pos,after,gd⟩:=o;have agj:∀x∈op.operands,L.ev x=(L.put (some d) v).ev x:=fun x hx=>(gV x hx).symm;have ae8:nB P H1 L.ev (dst.getD 0) op r fr:=by
   cases oA with
   |pure hp =>
    by_cases gf:pz op=true
    ·exact .pure (hp.aek gf agj)
    cases hp with
    |acN hf ta hb hn he hx hr h1 h2 =>
     refine .pure (.acN hf ta hb hn he ?_ hr h1 h2);rw[<-hx];exact tQ fun x zt=>agj x (yx zt)
    |_=>first|(exfalso;exact gf rfl)|(exfalso;revert hk gf;simp[abD,pz])
   |alloc ha=>cases ha<;>(exfalso;revert hk;simp[abD,pz])
   |call hc =>
    cases hc with
    |func ha wH hlen km =>
     refine .call (.func ?_ wH hlen km);rw[show (_:Array Operand).toList.map L.ev=_ from tQ fun x zt=>agj x (yx zt)];exact ha
    |acP hx ha hb wH hlen km=>exact .call (.acP ((agj _ (yx aE)).trans hx) ha hb wH hlen km)
    |dT=>exfalso;revert hk;simp[abD,pz]
    |mk=>exfalso;revert hk;simp[abD,pz]
  refine⟨⟨(L.put dst r).slot,H1⟩,.val (xI hl hg) hle eM ae8 rfl,?_,fun t ht=>mo L r t rfl ht⟩;rw[hL];have:=vu L hd v r;exact congrArg (fun M=>St.mk (St.slot M) H1) this
 |st hg rX =>
  obtain⟨dst,op,ty,pos,after,gd⟩:=o
  cases rX with
  |store hp hb hs hm hi hy nG hT aZ =>
   rename_i T p x b sz i o' blk y y';have e1:=gV p cX;have e2:=gV x cX;rw[e1]at hp;rw[e2]at nG hT aZ;refine⟨_,.st (xI hl hg) (.store hp hb hs hm hi hy nG hT aZ),?_,fun t ht=>?_⟩
   ·exact vu (L.bO b _) hd v .any
   exact mo (L.bO b _) .any t rfl ht
  |_=>exfalso;revert hk;simp[abD,pz]
 |stM ir hg mR =>
  obtain⟨dst,op,ty,pos,after,gd⟩:=o
  cases mR with
  |call hb hm hp ha hn wH r8 mZ =>
   rename_i f xs xh args r b blk blk';have em:xs.toList.map (L.put (some d) v).ev=xs.toList.map L.ev:=tQ fun x zt=>gV x (yx zt);rw[em]at ha hn;refine⟨_,.stM ir (xI hl hg) (.call hb hm hp ha hn wH r8 mZ),?_,fun t ht=>?_⟩
   ·exact vu (L.bO b _) hd v _
   exact mo (L.bO b _) _ t rfl ht
  |aiA=>exfalso;revert hk;simp[abD,pz]
  |ovl hf ta hb hn he ht hE hx hy yb h1 h2 fb =>
   rw[gV _ (yx aE)]at hx;rw[gV _ (yx aE)]at hy;refine⟨_,.stM ir (xI hl hg) (.ovl hf ta hb hn he ht hE hx hy yb h1 h2 fb),?_,fun t ht=>?_⟩
   ·exact vu L hd v _
   exact mo L _ t rfl ht
def asG(ops:Array Oper)(i:Nat)(D:Array Bool):Bool :=
 D.size==ops.size&&!D.getD i true&&(kh (ops.getD i default)).all (fun j=>D.getD j false)&&(ops.getD i default).guard.isNone&&aia (ops.getD i default).op &&
 (cN ops.size).all fun j=>j==i||D.getD j true||(abD (ops.getD j default).op&&((ops.getD j default).dst != (ops.getD i default).dst) &&
  (match (ops.getD i default).dst with|some d=>!((ops.getD j default).looksAt ops).contains d||(kh (ops.getD j default)).contains i|none=>false) &&
  (match (ops.getD j default).dst with|some e=>!((ops.getD i default).looksAt ops).contains e|none=>true))
theorem aj9{m:Nat}{K:St->Prop}{L:St}{D:Array Bool}{d:Nat}{v:LV}(i:Nat){o:Oper}(ho:ops[i]?=some o)(afA:o.dst=some d)(fe:asG ops i D=true)(hv:aM P L.heap L.ev o.op v)
  (h:jA P ops m (D.setIfInBounds i true) (L.put (some d) v) K):jA P ops (m+1) D L K:=by
 have jr:∀i o,ops[i]?=some o->ops.getD i default=o:=fun i o h=>by rw[dQ,h];rfl
 have uT:i<ops.size:=(lX.1 ho).1
 let C:Array Bool->Prop:=fun D=>D.size=ops.size/\D.getD i false=false/\(∀j∈kh o,D.getD j false=true)/\∀j oj,ops[j]?=some oj->j≠i->D.getD j false=false ->
  abD oj.op=true/\oj.dst≠some d/\(d∈oj.looksAt ops->i∈kh oj)/\∀e,oj.dst=some e->e∉o.looksAt ops
 unfold asG at fe;rw[jr i o ho,afA]at fe;simp only[jS,nU,rm,pI,beq_iff_eq,yK,zX,bne_iff_ne,ne_eq]at fe;obtain⟨⟨⟨⟨⟨bU,vf⟩,zO⟩,hgd⟩,alJ⟩,fM⟩:=fe;have hC:C D:=by
  refine⟨bU,by rw[tO J false true];exact vf,zO,fun j oj hj aZ vV=>?_⟩;have hjl:j<ops.size:=(lX.1 hj).1;have:=fM j hjl;rw[jr j oj hj]at this;rcases this with(q|q)|q
  ·exact absurd q aZ
  ·rw[tO J true false,vV]at q;cases q
  obtain⟨⟨⟨q1,q2⟩,q3⟩,q4⟩:=q;refine⟨q1,q2,fun hm=>?_,fun e he hm=>?_⟩
  ·rcases q3 with q|q
   ·rw[qJ.2 hm]at q;cases q
   exact qJ.1 q
  rw[he]at q4;simp only[yK]at q4;rw[qJ.2 hm]at q4;cases q4
 have aiL:∀L:St,aM P L.heap L.ev o.op v->Step P false ops o L (L.put (some d) v):=fun L hv=>by
  refine .val (fr:=[]) (H1:=L.heap) (r:=v) (by unfold eg;rw[hgd]) (cd.le_refl _) (fun _ _ hh=>by cases hh) (.pure hv) ?_;rw[afA];rfl
 clear bU vf zO fM;have main:∀(n:Nat) (D:Array Bool) (L:St),C D->aM P L.heap L.ev o.op v->jA P ops n (D.setIfInBounds i true) (L.put (some d) v) K->jA P ops (n+1) D L K:=by
  intro n
  induction n with
  |zero =>
   intro D L ⟨c1,c2,c3,c4⟩ hv hh;have uF:i∈Region.ready .any ops D:=(pV c1).2 ⟨o,ho,by rw[tO J true false];exact c2,c3⟩;refine⟨fun hr=>(by rw[hr]at uF;cases uF),fun j hj=>?_⟩;by_cases kD:j=i
   ·subst kD;exact⟨o,_,ho,aiL L hv,hh⟩
   exfalso;obtain⟨oj,h1,h2,h3⟩:=(pV c1).1 hj;have:j∈Region.ready .any ops (D.setIfInBounds i true):=(pV (by simpa using c1)).2 ⟨oj,h1,by
    rw[dQ,lU (Ne.symm kD),<-dQ];exact h2,fun k hk=>by
    by_cases pW:i=k
    ·subst pW;rw[dQ,p7 J];rfl
    rw[dQ,lU pW,<-dQ];exact h3 k hk⟩
   rw[hh.1]at this;cases this
  |succ n ih =>
   intro D L ⟨c1,c2,c3,c4⟩ hv hh;have uF:i∈Region.ready .any ops D:=(pV c1).2 ⟨o,ho,by rw[tO J true false];exact c2,c3⟩;refine⟨fun hr=>(by rw[hr]at uF;cases uF),fun j hj=>?_⟩;by_cases kD:j=i
   ·subst kD;exact⟨o,_,ho,aiL L hv,hh⟩
   obtain⟨oj,h1,h2,h3⟩:=(pV c1).1 hj;have hjl:j<ops.size:=(lX.1 h1).1;have vV:D.getD j false=false:=by rw[tO J false true];exact h2
   have arG:j∈Region.ready .any ops (D.setIfInBounds i true):=(pV (by simpa using c1)).2 ⟨oj,h1,by
    rw[dQ,lU (Ne.symm kD),<-dQ];exact h2,fun k hk=>by
    by_cases pW:i=k
    ·subst pW;rw[dQ,p7 J];rfl
    rw[dQ,lU pW,<-dQ];exact h3 k hk⟩
   obtain⟨oj',L2,g1,g2,g3⟩:=hh.2 j arG;rw[h1]at g1;cases g1;obtain⟨k1,k2,k3,k4⟩:=c4 j oj h1 kD vV;have mJ:d∉oj.looksAt ops:=fun hm=>by
    have:=h3 i (k3 hm);rw[c2]at this;cases this
   obtain⟨L1,s1,s2,s3⟩:=aLi k1 mJ k2 g2;refine⟨oj,L1,h1,s1,ih (D.setIfInBounds j true) L1 ⟨by simpa using c1,?_,fun k hk=>?_,fun k ok hk aZ gi=>?_⟩ ?_ ?_⟩
   ·rw[dQ,lU kD,<-dQ];exact c2
   ·by_cases ya:j=k
    ·subst ya;rw[dQ,p7 J];rfl
    rw[dQ,lU ya,<-dQ];exact c3 k hk
   ·by_cases ya:j=k
    ·subst ya;rw[dQ,p7 J]at gi
     cases gi
    rw[dQ,lU ya,<-dQ]at gi;exact c4 k ok hk aZ gi
   ·refine(hv.aek (aI0 alJ) fun x hx=>?_).aKC alJ
    cases x with
    |tmp t =>
     have ht:t∈o.looksAt ops:=by
      unfold Oper.looksAt;simp only[nC,aaF];exact .inl ⟨.tmp t,by simpa using hx,rfl⟩
     exact s3 t (fun q=>k4 t q ht)
    |const v=>rfl
    |func f=>rfl
    |global f=>rfl
   rw[<-s2];have:(D.setIfInBounds j true).setIfInBounds i true=(D.setIfInBounds i true).setIfInBounds j true:=by
    refine atz fun k=>?_;by_cases q1:i=k
    ·subst q1;rw[p7 aQ,lU kD,p7 J]
    by_cases q2:j=k
    ·subst q2;rw[lU q1,p7 J,p7 aQ]
    rw[lU q1,lU q2,lU q2,lU q1]
   rw[this];exact g3
 exact main m D L hC hv h
end
theorem au.b9{L:St}{t:Nat}{x y:LV}(bs:List Nat)(h0:bs.contains 0=false)(h:L.slot t=x)(hi:dt (L.b9 bs).heap x y):au L ((L.b9 bs).put (some t) y):=by
 rintro n W X Z0 a w ⟨fA,bU,μ,Z,hc,hr⟩;obtain⟨Z',hc',hz⟩:=hc.adk (vW bs h0);refine⟨fA,bU,μ,Z',by rw[kH];exact hc',fun s=>?_⟩;have hm:=bJ.mono hz (fun _ _ h=>h) (Frame.refl Z μ w) (hr s);rw[iU];split
 ·rename_i ef;subst ef;rw[h]at hm;exact bJ.xO (LV.fh hi.lay.2.2) (dt.agD (bE:=μ) hc' hi hm)
 exact hm
theorem au.hand{L:St}{t:Nat}{α:Type}{e:α->LV}{ag:Bool}{b sz len:Nat}{l:List α}{m:Bool}(he:jF e sz ag)(h:L.slot t=.ref b sz 0 len)(hb:L.heap b=some ⟨sz,l.map e,m⟩)(hl:len=l.length)(h0:b≠0:=by decide):
  au L ((L.put (some t) (.list sz (l.map e))).kill b):=by
 have h0':([b]:List Nat).contains 0=false:=aQ;have e1:=(au.b9 [b] h0' h (da (bs:=[b]) he hb aE hl)).trans (au.kill _ b h0);have e2:((L.b9 [b]).put (some t) (.list sz (l.map e))).kill b=(L.put (some t) (.list sz (l.map e))).kill b:=by
  unfold St.kill;congr 1;funext c;rw[kH,kH];by_cases nz:c=b
  ·simp[nz]
  simp only[St.b9,if_neg nz]
  cases L.heap c with
  |none=>rfl
  |some blk=>simp[nz]
 rw[<-e2];exact e1
theorem au.cx{L:St}{t b sz:Nat}{y:LV}{m:Bool}(h:L.slot t=.aB b sz 0 0)(hb:L.heap b=some ⟨sz,[y],m⟩)(hs:y.aq=sz)(ha:y.isAgg=true)(hp:y.pure=true)(h0:b≠0:=by decide):au L ((L.put (some t) (.cx y)).kill b):=by
 have h0':([b]:List Nat).contains 0=false:=aQ;have e1:=(au.b9 [b] h0' h (.aB (blk:=⟨sz,[y],m&&!([b]:List Nat).contains b⟩) (x:=y) (n:=sz) (ag:=true) (by simp only[St.b9,hb,Option.map_some]) rfl rfl hs (cU hs ha) hp aE)).trans (au.kill _ b h0);have e2:((L.b9 [b]).put (some t) (.cx y)).kill b=(L.put (some t) (.cx y)).kill b:=by
  unfold St.kill;congr 1;funext c;rw[kH,kH];by_cases nz:c=b
  ·simp[nz]
  simp only[St.b9,if_neg nz]
  cases L.heap c with
  |none=>rfl
  |some blk=>simp[nz]
 rw[<-e2];exact e1
theorem afn{P:Program}{L L0:St}{Q:lR->St->Prop}{ops:Array Oper}{id:Nat}(hw:au L L0)(h:jA P ops ops.size (Array.replicate ops.size false) L0 (Q .normal)):c9 P (.region id ops true) Q L:=⟨L0,hw,.inr (.inl ⟨rfl,h⟩)⟩
def aip:List (Nat×aV)->List (Nat×aV)->Prop
 | [],_=>True
 |(b,x)::t,l=>hp l b=some x/\aip t l
theorem aqT{l':List (Nat×aV)}:∀{l:List (Nat×aV)},aip l l'->∀c x,hp l c=some x->hp l' c=some x
 | [],_,c,x,h=>by cases h
 |(b,y)::t,h,c,x,hc=>by
  simp only[hp]at hc;by_cases hb:c=b
  ·subst hb;simp only[Nat.beq_refl,cond_true,gj]at hc;subst hc;exact h.1
  have:Nat.beq c b=false:=by rw[<-Bool.not_eq_true,Nat.beq_eq];exact hb
  rw[this]at hc;exact aqT h.2 c x hc
theorem wN{l l':List (Nat×aV)}(h:aip l l')(h':aip l' l):hp l=hp l':=by
 funext c
 cases hc:hp l c with
 |some x=>exact(aqT h c x hc).symm
 |none =>
  cases hc':hp l' c with
  |none=>rfl
  |some x=>rw[aqT h' c x hc']at hc;cases hc
def aiu:Op->Bool
 | .store ..=>true
 | .build ..=>true
 | .box ..=>true
 | .alloc ..=>true
 | .buildSlice ..=>true
 | .makeSlice ..=>true
 | .call ⟨.value (.func _),_,_⟩=>true
 | .call ⟨.builtin .append,_,_⟩=>true
 |op=>pz op
section
variable {P:Program} {H:cd} {ρ tp:Operand->LV}
theorem anH{ps:Array (Nat×Operand)}(hr:∀p∈ps.toList,tp p.2=ρ p.2):(ps.toList.map fun p=>(p.1,ρ p.2))=ps.toList.map fun p=>(p.1,tp p.2) :=
 tQ fun p hp=>by rw[hr p hp]
theorem dV.aek{d:Nat}{op:Op}{r:LV}{blk:aV}(h:dV P ρ d op r blk)(hr:∀x∈op.operands,tp x=ρ x):dV P tp d op r blk:=by
 cases h with
 |make hT hz hE fk hb hl hc lK hm fC=>exact .make hT hz hE fk hb ((hr _ cX).trans hl) ((hr _ cX).trans hc) lK hm fC
 | @lit T E n ps z sz hT hz hE fk hn h0 fb hp =>
  have hq:∀p∈ps.toList,tp p.2=ρ p.2:=fun p hp=>hr _ (by simp only[Op.operands,aAQ];exact cZ.2 ⟨p,hp,rfl⟩);rw[anH hq];exact .lit hT hz hE fk hn h0 fb fun p mZ=>by rw[hq p mZ];exact hp p mZ
 |aee hT hE=>exact .aee hT hE
 | @box T x aZ =>
  have e:=hr x cX;rw[<-e];rw[<-e]at aZ;exact .box aZ
 |alloc hz=>exact .alloc hz
theorem aM.aEI{T:TypeId}{ps:Array (Nat×Operand)}{r:LV}(h:aM P H ρ (.build T ps) r)(hr:∀x∈(Op.build T ps).operands,tp x=ρ x):aM P H tp (.build T ps) r:=by
 have hq:∀p∈ps.toList,tp p.2=ρ p.2:=fun p hp=>hr _ (by simp only[Op.operands,aAQ];exact cZ.2 ⟨p,hp,rfl⟩)
 cases h with
 |aci hT hE hf hz hp =>
  rw[anH hq];exact .aci hT hE hf hz fun p mZ=>by rw[hq p mZ];exact hp p mZ
 |build hT hz hp =>
  rw[anH hq];exact .build hT hz fun p mZ=>by rw[hq p mZ];exact hp p mZ
end
theorem aM2(L:St){d:Nat}{v:LV}(hv:∀b,v.kill b=v)(b:Nat):(L.put (some d) v).kill b=(L.kill b).put (some d) v:=by
 have h1:∀t,((L.put (some d) v).kill b).slot t=((L.kill b).put (some d) v).slot t:=fun t=>by
  rw[iU];show (((L.put (some d) v).slot t).kill b)=_;rw[iU];split
  ·exact hv b
  rfl
 exact congrArg (fun f=>St.mk f (L.kill b).heap) (funext h1)
section
variable {P:Program} {ops:Array Oper}
def aqZ(L:St):List Operand->Prop
 | []=>True
 |x::xs=>(∀b,(L.ev x).kill b=L.ev x)/\aqZ L xs
theorem aud{L:St}:∀{l:List Operand},aqZ L l->∀x∈l,∀b,(L.ev x).kill b=L.ev x
 |_::_,h,_,.head _=>h.1
 |_::_,h,_,.tail _ hx=>aud h.2 _ hx
theorem fy{p:Prop}(h:p:=by first|exact And.intro (fun _=>rfl) trivial|exact And.intro (fun _=>rfl) (And.intro (fun _=>rfl) trivial)|exact And.intro (fun b=>LV.oH b _ pu) trivial):p:=h
theorem gu{p:Prop}(h:p:=by first|exact(fun _=>rfl)|exact(fun b=>LV.oH b _ pu)|exact(fun b=>LV.oH b _ (by assumption))):p:=h
end
theorem au.aNS{L:St}{t b sz len:Nat}{vals:List LV}{m:Bool}(h:L.slot t=.ref b sz 0 len)(hb:L.heap b=some ⟨sz,vals,m⟩)(hp:aO vals=true)(hl:len=vals.length)(h0:b≠0):
  au L ((L.put (some t) (.list sz vals)).kill b):=by
 have h0':([b]:List Nat).contains 0=false:=aQ;have hi:dt (L.b9 [b]).heap (.ref b sz 0 len) (.list sz ((vals.drop 0).take len)):=abG (bs:=[b]) hb aE hp J;rw[jv,cy J]at hi;have e1:=(au.b9 [b] h0' h hi).trans (au.kill _ b h0);have e2:((L.b9 [b]).put (some t) (.list sz vals)).kill b=(L.put (some t) (.list sz vals)).kill b:=by
  unfold St.kill;congr 1;funext c;rw[kH,kH];by_cases nz:c=b
  ·simp[nz]
  simp only[St.b9,if_neg nz]
  cases L.heap c with
  |none=>rfl
  |some blk=>simp[nz]
 rw[<-e2];exact e1
section
variable {P:Program} {ops:Array Oper}
section
variable {D:Array Bool} {L:St} {K:St->Prop} {fuel:Nat}
end
section
variable {W w:World} {X:XS} {Z0:Nat->Prop} {a:Act} {n:Nat}
end
end
end Go.Lg
end
section
set_option linter.unusedVariables false
set_option linter.unusedSimpArgs false
set_option maxHeartbeats 8000000
set_option maxRecDepth 100000
attribute [local irreducible] Go.Lg.opsL Go.Lg.c9 Go.Lg.oF Go.Lg.qF
namespace Go.Proofs.YtbkmfcmgilhaaaaGreat
open Go.Lg
end Go.Proofs.YtbkmfcmgilhaaaaGreat
namespace Go.Lg
theorem aMp{s:Nat->LV}{sz:Nat}{vals:List LV}{mt:Bool}{x:LV}:(((⟨s,vd [⟨sz,vals,mt⟩]⟩:St).put (some 0) x).kill 1).heap=vd []:=by
 funext b
 match b with
 |0=>rfl
 |1=>rfl
 |b+2=>rfl
theorem apM{P:Program}{f:FuncId}{args:List LV}{sz n:Nat}{vals:List LV}{mt:Bool}(h:mW P f args (.ref 1 sz 0 n) [⟨sz,vals,mt⟩])(hp:aO vals=true)(hn:vals.length=n):an P f args (.list sz vals):=by
 refine⟨⟨h.1,fun W Z0 vs hz hr=>Calls.mono (h.2 W Z0 vs hz hr) (fun e w' ⟨v,μ,Z,he,hc,hv⟩=>?_)⟩,fun g=>LV.db g _ (by simp[LV.pure,hp])⟩;obtain⟨-,-,bE,Z',k1,k2⟩:=au.aNS (L:=⟨fun t=>[LV.ref 1 sz 0 n].getD t .any,vd [⟨sz,vals,mt⟩]⟩) (t:=0) (b:=1) rfl rfl hp hn.symm aj 1 W _ Z0 ⟨#[v],[]⟩ w' ⟨rfl,rfl,μ,Z,hc,fun t=>match t with|0=>hv|_+1=>trivial⟩;exact⟨v,bE,Z',he,aMp▸k1,LV.oH 1 _ (show (LV.list sz vals).pure=true by simp[LV.pure,hp])▸k2 0⟩
end Go.Lg
namespace Go.Proofs.YtbkmfcmgilhaaaaGreat
open Go.Lg
theorem aDk(p:List Rat)(hl:p.length<=1048576)(kI:∀x∈p,rl x<=274877906944):an ai 168 [.list 3 (p.map ae)] (.list 3 (p.map ae)) :=
 apM (arL p hl kI) (bm ao _) aE
def abc(p:List Rat)(i:Nat):Rat:=(if 0<i then((i:Int):Rat)/((p.length:Int):Rat)*p.getD (i-1) 0 else 0)+(if i<p.length then(((p.length:Int)-(i:Int):Int):Rat)/((p.length:Int):Rat)*p.getD i 0 else 0)
def oq(p:List Rat):List Rat:=(cN (p.length+1)).map (abc p)
def v9:Nat->List Rat->List Rat
 |0,p=>p
 |k+1,p=>v9 k (oq p)
def fU(p:List Rat)(n:Nat):List Rat:=v9 (n+1-p.length) p
theorem sV(p:List Rat):(oq p).length=p.length+1:=by simp[oq]
theorem acU{p:List Rat}{i:Nat}(h:i<p.length+1):(oq p).getD i 0=abc p i:=by
 rw[bq,ck (by rw[sV];exact h)];simp[oq]
theorem aAp:∀(k:Nat) (p:List Rat),(v9 k p).length=p.length+k
 |0,p=>rfl
 |k+1,p=>by rw[v9,aAp k,sV];omega
theorem ajL{p:List Rat}{n:Nat}(h:p.length<=n+1):(fU p n).length=n+1:=by rw[fU,aAp];omega
theorem aCb{p:List Rat}{i:Nat}(h0:0<i)(h1:i<p.length):abc p i=((i:Int):Rat)/((p.length:Int):Rat)*p.getD (i-1) 0+(((p.length:Int)-(i:Int):Int):Rat)/((p.length:Int):Rat)*p.getD i 0:=by
 rw[abc,if_pos h0,if_pos h1]
theorem aDj{p:List Rat}{i:Nat}(h0:0<i)(h1:¬i<p.length):abc p i=((i:Int):Rat)/((p.length:Int):Rat)*p.getD (i-1) 0:=by
 rw[abc,if_pos h0,if_neg h1,oc]
theorem axw{p:List Rat}{i:Nat}(h0:¬0<i)(h1:i<p.length):abc p i=(((p.length:Int)-(i:Int):Int):Rat)/((p.length:Int):Rat)*p.getD i 0:=by
 rw[abc,if_neg h0,if_pos h1,Rat.zero_add]
def qh(p:List Rat)(n:Nat):Prop:=(∀x∈p,rl x<=1073741824)/\∀k,p.length+k<=n+1->∀x∈v9 k p,rl x<=1073741824
theorem amp{p:List Rat}{n:Nat}(h:qh p n)(k:Nat):rl (p.getD k 0)<=1073741824:=ix aj h.1 k
theorem aqG{p:List Rat}{n:Nat}(hl:p.length<=n)(h:qh p n):qh (oq p) n:=⟨h.2 1 J,fun k hk=>h.2 (k+1) (by rw[sV]at hk;omega)⟩
theorem al4{p:List Rat}{n:Nat}(h:n+1<=p.length):fU p n=p:=by rw[fU,show n+1-p.length=0 by omega];rfl
theorem aAP{p:List Rat}{n:Nat}(h:p.length<=n):v9 (n+1-(oq p).length) (oq p)=v9 (n+1-p.length) p:=by
 rw[show n+1-p.length=(n+1-(oq p).length)+1 by rw[sV];omega];rfl
def pj(g:Rat->Rat->Rat)(a b:List Rat):List Rat:=(cN a.length).map fun i=>g (a.getD i 0) (b.getD i 0)
theorem aaZ(g:Rat->Rat->Rat)(a b:List Rat):(pj g a b).length=a.length:=by simp[pj]
theorem akS{g:Rat->Rat->Rat}{a b:List Rat}{i:Nat}(h:i<a.length):(pj g a b).getD i 0=g (a.getD i 0) (b.getD i 0):=by
 rw[bq,ck (by rw[aaZ];exact h)];simp[pj]
namespace axs
theorem aJ{p q:Prop}(k:q)(e:p=q:=by simp only[bD,bo,bp,bh,cg,lQ,List.set_set,egs,egz,eim,Rat.zero_add,dO ao,kT,LV.kill,bC];exact rfl):p:=e.mpr k
end axs
open axs in
theorem atT(p:List Rat)(n:Nat)(jh:0<p.length)(hn:n<=1000)(hl:p.length<=1001)(hs:qh p n):an ai 281 [.list 3 (p.map ae),ah n] (.list 3 ((fU p n).map ae)):=by
 refine aL Tryz.func281 ?_;have egs:True:=trivial;have egz:True:=trivial;have eim:True:=trivial;refine bf (aDk p J (fun x hx=>by have:=amp hs;have h9:=List.getElem_of_mem hx;obtain⟨k,hk,rfl⟩:=h9;have h8:=this k;rw[bq,ck hk]at h8;exact aP h8 aj)) ?_;refine aW ?_;refine dy (fun(o:List Rat) L=>(mS L [] [(5,.list 3 (o.map ae)),(1,ah n)])) (fun o=>0<o.length/\o.length<=1001/\qh o n/\v9 (n+1-o.length) o=fU p n) (fun o=>n+1-o.length) p ⟨jh,hl,hs,rfl⟩ ?_;rintro o L1 ⟨ho0,dK,hos,hit⟩;refine bK ?_;refine dU 18 rfl ?_ ?_<;>intro re pR
 ·refine bK ?_;refine aD rfl ?_ ?_<;>intro qZ sb
  ·have hon:o.length<=n:=J;refine dj ?_;refine lG ?_;refine gv rfl rfl (.nr (n:=(o.length+1)) (m:=(o.length+1)) ml ml om om om) ?_;refine bG ?_;refine kR (fun(i:Nat) (w:List Rat) L=>(mS L [(28,⟨3,w.map ae,true⟩)] [(31,ah i),(30,ah (o.length+1)),(29,.ref 28 3 0 (o.length+1)),(7,.ref 28 3 0 (o.length+1)),(6,ah o.length),(5,.list 3 (o.map ae)),(1,ah n)])) (fun i w=>i<=o.length+1/\w.length=o.length+1/\w.take i=(oq o).take i/\∀x,i<=x->w.getD x 0=0) (fun i w=>o.length+1-i) 0 (av (o.length+1) 0) ⟨bW _,by simp,rfl,fun x _=>by simp[bq,List.getElem?_replicate];split<;>rfl⟩ ?_;rintro i w L2 ⟨hi,gL,ij,hz⟩;refine a6 ?_;refine aD rfl ?_ ?_<;>intro ab5 h32
   ·have cM:i<o.length+1:=J;have hf1:=acO (n:=(i:Int)) (d:=(o.length:Int)) J J;have sK:=acO (n:=(o.length:Int)-(i:Int)) (d:=(o.length:Int)) J J;have fR:=amp hos (i-1);have mw:=amp hos i;have iX:=cF (((i:Int):Rat)/((o.length:Int):Rat)) (o.getD (i-1) 0);have fC:=cF ((((o.length:Int)-(i:Int):Int):Rat)/((o.length:Int):Rat)) (o.getD i 0);have egs:=fun v=>aNm (o:=w) (i:=i) (v:=v) J;have egz:=hz i (bF _);have eim:((i:Int)-1).toNat=i-1:=J;have tY:rl 0=1:=rfl;refine nh ?_;refine aD rfl ?_ ?_<;>intro aay h35
    ·have rS:0<i:=J;refine aN (an1 (i:Int) (o.length:Int) J J J J J) ?_;refine nh ?_
     try simp only[t1,cg,eim]
     refine cp aC (jE _ _ J) ?_;refine bG ?_;refine aD rfl ?_ ?_<;>intro aFo h55
     ·have sC:i<o.length:=J;refine aK ?_;refine al rfl vX ?_;refine aN (an1 ((o.length:Int)-(i:Int)) (o.length:Int) J J J J J) ?_;refine nn ?_
      try simp only[t1,cg]
      refine cp aC (jE _ _ J) ?_
      try simp only[t1,cg,fZ,egs,egz]
      refine cp aC (lf _ _ J) ?_;refine aW ?_;refine cO ((au.kill _ 9).trans (au.kill _ 11)) ?_;refine aK ?_;exact ja (i+1) (w.set i (((i:Int):Rat)/((o.length:Int):Rat)*o.getD (i-1) 0+(((o.length:Int)-(i:Int):Int):Rat)/((o.length:Int):Rat)*o.getD i 0)) ⟨J,by simp[gL],zb xT xT ij (by rw[acU J,aCb rS sC]),fun x hx=>by rw[vz _ _ _ _ J,if_neg J];exact hz x J⟩
     have sC:¬i<o.length:=J;refine bI ?_;refine cO ((au.kill _ 9).trans (au.kill _ 11)) ?_;refine aK ?_;exact ja (i+1) (w.set i (((i:Int):Rat)/((o.length:Int):Rat)*o.getD (i-1) 0)) ⟨J,by simp[gL],zb xT xT ij (by rw[acU J,aDj rS sC]),fun x hx=>by rw[vz _ _ _ _ J,if_neg J];exact hz x J⟩
    have rS:¬0<i:=J;refine b7 ?_;refine aD rfl ?_ ?_<;>intro aFo h55
    ·have sC:i<o.length:=J;refine aK ?_;refine al rfl vX ?_;refine aN (an1 ((o.length:Int)-(i:Int)) (o.length:Int) J J J J J) ?_;refine nn ?_
     try simp only[t1,cg]
     refine cp aC (jE _ _ J) ?_
     try simp only[t1,cg,fZ,egs,egz]
     refine cp aC (lf _ _ J) ?_;refine aW ?_;refine cO ((au.kill _ 9).trans (au.kill _ 11)) ?_;refine aK ?_;exact ja (i+1) (w.set i ((((o.length:Int)-(i:Int):Int):Rat)/((o.length:Int):Rat)*o.getD i 0)) ⟨J,by simp[gL],zb xT xT ij (by rw[acU J,axw rS sC]),fun x hx=>by rw[vz _ _ _ _ J,if_neg J];exact hz x J⟩
    have sC:¬i<o.length:=J;refine bI ?_;refine cO ((au.kill _ 9).trans (au.kill _ 11)) ?_;refine aK ?_;exact ja (i+1) w (False.elim J)
   obtain rfl:i=o.length+1:=J;have hE:w=oq o:=by
    rw[cy J,cy xT]at ij;exact ij
   subst hE;refine aW ?_;refine cO ((au.b9 (t:=7) [28] rfl rfl (da ao rfl rfl (by rw[sV]))).trans (au.kill _ 28)) ?_;refine aW ?_;exact ji (oq o) ⟨by rw[sV];omega,by rw[sV];omega,aqG J hos,by rw[aAP J];exact hit⟩ (hm:=by rw[sV];omega)
  refine bG ?_;have hE:fU p n=o:=by rw[<-hit,show n+1-o.length=0 by omega];rfl
  rw[hE];exact ee
 refine nn ?_;have hE:fU p n=o:=by rw[<-hit,show n+1-o.length=0 by omega];rfl
 rw[hE];exact ee
def sm:Nat->(Nat->Rat)->Rat
 |0,_=>0
 |n+1,f=>sm n f+f n
theorem acJ:∀(n:Nat) (f g:Nat->Rat),(∀i,i<n->f i=g i)->sm n f=sm n g
 |0,_,_,_=>rfl
 |n+1,f,g,h=>by rw[sm,sm,acJ n f g (fun i hi=>h i J),h n J]
theorem ane:∀(n:Nat) (f g:Nat->Rat),sm n (fun i=>f i+g i)=sm n f+sm n g
 |0,_,_=>by show (0:Rat)=0+0;grind
 |n+1,f,g=>by rw[sm,sm,sm,ane n];grind
theorem ax2:∀(n:Nat) (f:Nat->Rat),sm (n+1) f=f 0+sm n (fun i=>f (i+1))
 |0,f=>by show 0+f 0=f 0+0;grind
 |n+1,f=>by rw[sm,ax2 n f,sm];grind
theorem aO5(n:Nat)(f:Nat->Rat)(h:∀i,i<n->f i=0):sm n f=0:=by
 induction n with
 |zero=>rfl
 |succ n ih=>rw[sm,ih (fun i hi=>h i J),h n J];exact oc 0
theorem aIv{x y:Rat}(hx:0<x)(h:x<=y):0<1/y/\1/y<=1/x:=by
 have hy:0<y:=ba;have e1:1/x*x=1:=ba;have e2:1/y*y=1:=ba;have r0:0<1/x:=by rw[gQ,wm];exact apF.2 hx
 have s0:0<1/y:=by rw[gQ,wm];exact apF.2 hy
 revert e1 e2 r0 s0;generalize 1/x=r;generalize 1/y=s;intro e1 e2 r0 s0;refine⟨s0,?_⟩;have h1:=ayT h (kL (zW s0 r0));have e3:s*r*x=s:=by rw[xi,e1,ahA]
 have e4:s*r*y=r:=by rw[Rat.mul_comm s r,xi,e2,ahA]
 rwa[e3,e4]at h1
theorem aqq{W r:Rat}(hr:r*W=1)(x:Rat):x/W=x*r:=by
 have h0:W≠0:=by rintro rfl;rw[abu]at hr;exact absurd hr aj
 have h1:=fV W h0;have:W⁻¹=r:=by
  have e:r*(W*W⁻¹)=r:=by rw[h1,ahA]
  rw[<-xi,hr,wm]at e;exact e
 rw[gQ,this]
theorem at7{n:Nat}(hn:n<=1000):∀(k:Nat) (p:List Rat),0<p.length->p.length+k<=n+1->qh p n->qh (v9 k p) n
 |0,_,_,_,h=>h
 |k+1,p,h0,hk,h=>at7 hn k (oq p) xT xT (aqG J h)
theorem akO{p:List Rat}{n:Nat}(hn:n<=1000)(h0:0<p.length)(hl:p.length<=n+1)(h:qh p n)(k:Nat):rl ((fU p n).getD k 0)<=1073741824 :=
 amp (at7 hn _ p h0 J h) k
theorem emx{a b n:Nat}(h:0<a)(h1:a<=n+1)(h2:b<=n+1)(h3:a=n+1\/b=n+1):(if ((b:Nat):Int) > ((a:Nat):Int)then((b:Nat):Int)else((a:Nat):Int))-1=(n:Int):=by
 split<;>omega
theorem emn(a:Nat):(if ((a:Nat):Int)<((a:Nat):Int)then((a:Nat):Int)else((a:Nat):Int))=(a:Int):=by split<;>rfl
theorem aye{a b n:Nat}(h:0<a)(h1:a<=n+1)(h2:b<=n+1)(h3:a=n+1\/b=n+1)(hn:n<=1000):eO .sub .i64 (if ((b:Nat):Int) > ((a:Nat):Int)then((b:Nat):Int)else((a:Nat):Int)) 1=some (.int .i64 ((n:Nat):Int)):=by
 have e:=emx h h1 h2 h3;rw[ab1 J J,e]
namespace avB
theorem aJ{p q:Prop}(k:q)(e:p=q:=by simp only[bD,bo,bp,bh,cg,av0,elp,elq,emn,dO ao,kT,qV,LV.kill,bC];exact rfl):p:=e.mpr k
end avB
open avB in
theorem aDP(p q:List Rat)(f:Nat)(g:Rat->Rat->Rat)(n:Nat)(jh:0<p.length)(mK:0<q.length)(hn:n<=1000)(sE:p.length<=n+1)(tB:q.length<=n+1)(uw:p.length=n+1\/q.length=n+1)(wg:qh p n)(vL:qh q n)(hf:∀i,an ai f [ae ((fU p n).getD i 0),ae ((fU q n).getD i 0)] (ae (g ((fU p n).getD i 0) ((fU q n).getD i 0)))):an ai 274 [.list 3 (p.map ae),.list 3 (q.map ae),.dT f []] (.list 3 ((pj g (fU p n) (fU q n)).map ae)):=by
 have av0:=emx jh sE tB uw;have elp:=ajL sE;have elq:=ajL tB;have p9:(pj g (fU p n) (fU q n)).length=n+1:=by rw[aaZ,elp]
 refine aL Tryz.func274 ?_;have av0:True:=trivial;have elp:True:=trivial;have elq:True:=trivial;have emn:True:=trivial;refine bG ?_;refine al rfl (.bin rfl rfl (aye jh sE tB uw hn)) ?_;refine aN (atT p n jh hn J wg) ?_;refine aN (atT q n mK hn J vL) ?_;refine b7 ?_
 try simp only[elp,elq]
 refine bn ?_;refine gv rfl rfl (.nr (n:=(n+1)) (m:=(n+1)) ml ml om om om) ?_;refine bG ?_;refine kR (fun(i:Nat) (w:List Rat) L=>(mS L [(27,⟨3,w.map ae,true⟩)] [(30,ah i),(29,ah (n+1)),(28,.ref 27 3 0 (n+1)),(8,.ref 27 3 0 (n+1)),(2,.dT f []),(1,.list 3 ((fU q n).map ae)),(0,.list 3 ((fU p n).map ae))])) (fun i w=>i<=n+1/\w.length=n+1/\w.take i=(pj g (fU p n) (fU q n)).take i) (fun i w=>n+1-i) 0 (av (n+1) 0) ⟨bW _,by simp,rfl⟩ ?_;rintro i w L1 ⟨hi,gL,ij⟩;refine a6 ?_;refine aD rfl ?_ ?_<;>intro apK h31
 ·have cM:i<n+1:=J;have hfi:=hf i;refine amm ?_
  try simp only[t1,cg]
  refine qk [] rfl rfl (.dT (f:=f) (cap:=[]) (args:=[ae ((fU p n).getD i 0),ae ((fU q n).getD i 0)]) rfl (.cons eu (.cons eu .nil)) ⟨rfl,fun _ h=>by cases h⟩ hfi.1 aj (fun _ h=>by cases h)) (hfi.2 _) ?_;refine b7 ?_;exact ja (i+1) (w.set i (g ((fU p n).getD i 0) ((fU q n).getD i 0))) ⟨J,by simp[gL],zb J J ij (by rw[akS J])⟩
 obtain rfl:i=n+1:=J;have hE:w=(pj g (fU p n) (fU q n)):=by
  rw[cy J,cy J]at ij;exact ij
 subst hE;refine bG ?_;exact lZ [27] rfl rfl (da ao rfl rfl p9.symm)
open H0 in
theorem aHd(p q:List Rat)(n:Nat)(jh:0<p.length)(mK:0<q.length)(hn:n<=1000)(sE:p.length<=n+1)(tB:q.length<=n+1)(uw:p.length=n+1\/q.length=n+1)(wg:qh p n)(vL:qh q n):an ai 242 [.list 3 (p.map ae),.list 3 (q.map ae)] (.list 3 ((pj (·-·) (fU p n) (fU q n)).map ae)):=by
 refine aL Tryz.func242 ?_;refine bM ?_;refine cp kN (aDP p q 160 (·-·) n jh mK hn sE tB uw wg vL (fun i=>ue _ _ (by have:=akO hn jh sE wg i;have:=akO hn mK tB vL i;omega))) ?_;refine aK ?_;exact ee
namespace auZ
theorem aJ{p q:Prop}(k:q)(e:p=q:=by simp only[bD,bo,bp,bh,cg,lQ,ae9,ady,zA,jV,elz,ela,dO ao,kT,LV.kill,bC];exact rfl):p:=e.mpr k
end auZ
open auZ in
theorem aFN(p q:List Rat)(R:Nat)(jh:0<p.length)(mK:0<q.length)(h:p.length-1+(q.length-1)<=40)(fL:1<=R)(hR:R<=67108864)(px:∀x∈p,rl x<=R)(o6:∀x∈q,rl x<=R):an ai 275 [.list 3 (p.map ae),.list 3 (q.map ae)] (.aY [.list 3 ((oB p q).map ae),iL 0]):=by
 have gf:p.length<=41:=J;have jG:q.length<=41:=J;refine aL Tryz.func275 ?_;have jV:True:=trivial;have elz:True:=trivial;have ela:True:=trivial;refine b7 ?_;refine jc ?_;refine bc ?_;refine jc ?_;refine bM ?_;refine al rfl sZ ?_;refine bI ?_;refine aD rfl ?_ ?_<;>intro acR qT
 ·omega
 refine bH ?_;refine dU 28 rfl ?_ ?_<;>intro aa1 tX
 ·exfalso;omega
 refine aW ?_;refine aD rfl ?_ ?_<;>intro apK h31
 ·omega
 refine aW ?_;refine cp cr (apW _ J) ?_;refine bn ?_;refine cp cr (apW _ J) ?_;refine bc ?_;refine al rfl sZ ?_;refine cp cr (apW _ J) ?_;refine bM ?_;refine al rfl sZ ?_;refine lG ?_;refine gv rfl rfl (.nr (n:=(p.length-1+(q.length-1)+1)) (m:=(p.length-1+(q.length-1)+1)) ml ml om om om) ?_;refine bG ?_;refine dy (fun(i:Nat) L=>(mS L [(44,⟨3,(allM p q i).map ae,true⟩)] [(47,ah i),(46,ah p.length),(45,.list 3 (p.map ae)),(11,.ref 44 3 0 (p.length-1+(q.length-1)+1)),(10,.list 3 ((iP (p.length-1+(q.length-1))).map ae)),(9,.list 3 ((iP (q.length-1)).map ae)),(8,.list 3 ((iP (p.length-1)).map ae)),(1,.list 3 (q.map ae)),(0,.list 3 (p.map ae))])) (fun i=>i<=p.length) (fun i=>p.length-i) 0 (bW _) ?_;rintro i L1 hi;refine a6 ?_;refine aD rfl ?_ ?_<;>intro aPe h48
 ·have hip:i<p.length:=J;have iT:=z7 (n:=p.length-1) J _ (dJ (i:=i) (by rw[zA];omega));have uJ:=px _ (dJ (i:=i) hip);have hx3:=cF ((iP (p.length-1)).getD i 0) (p.getD i 0);refine nn ?_
  try simp only[t1,cg]
  refine cp aC (jE _ _ J) ?_;refine bG ?_;refine dy (fun(j:Nat) L=>(mS L [(44,⟨3,(zM ((iP (p.length-1)).getD i 0*p.getD i 0) i (iP (q.length-1)) q (allM p q i) j).map ae,true⟩),(13,⟨3,[ae ((iP (p.length-1)).getD i 0*p.getD i 0)],true⟩)] [(61,ah j),(60,ah q.length),(59,.list 3 (q.map ae)),(13,.aB 13 3 0 0),(12,ah i),(47,ah i),(46,ah p.length),(45,.list 3 (p.map ae)),(11,.ref 44 3 0 (p.length-1+(q.length-1)+1)),(10,.list 3 ((iP (p.length-1+(q.length-1))).map ae)),(9,.list 3 ((iP (q.length-1)).map ae)),(8,.list 3 ((iP (p.length-1)).map ae)),(1,.list 3 (q.map ae)),(0,.list 3 (p.map ae))])) (fun j=>j<=q.length) (fun j=>q.length-j) 0 (bW _) ?_;rintro j L2 hj;refine a6 ?_;refine aD rfl ?_ ?_<;>intro atc h62
  ·have hjq:j<q.length:=J;have jV:((i:Int)+(j:Int)).toNat=i+j:=J;have hlr:(zM ((iP (p.length-1)).getD i 0*p.getD i 0) i (iP (q.length-1)) q (allM p q i) j).length=(p.length-1+(q.length-1)+1):=by rw[ae9,ady]
   have hS:=adW gf jG fL px o6 i;have ho:=alk (i:=i) J hS (show rl ((iP (p.length-1)).getD i 0*p.getD i 0)<=R+2 by omega) (z7 (n:=q.length-1) J) o6 fL j;have gY:=aC2 (i:=i) (j:=j) J jG hj hR;have nx:=ix J ho (i+j);have hg2:=z7 (n:=q.length-1) J _ (dJ (i:=j) (by rw[zA];omega));have hg3:=o6 _ (dJ (i:=j) hjq);have hg4:=cF ((iP (q.length-1)).getD j 0) (q.getD j 0);have hg5:=cF ((iP (p.length-1)).getD i 0*p.getD i 0) ((iP (q.length-1)).getD j 0*q.getD j 0);refine ff ?_;refine al rfl sZ ?_;refine bI ?_;refine al rfl sZ ?_;refine bN ?_
   try simp only[t1,cg,fZ]
   refine cp aC (jE _ _ J) ?_
   try simp only[t1,cg,fZ]
   refine cp aC (jE _ _ J) ?_
   try simp only[t1,cg,fZ]
   refine cp aC (lf _ _ J) ?_;refine b7 ?_;exact yd
  obtain rfl:j=q.length:=J;refine a6 ?_;refine cO (au.kill _ 13) ?_;refine aK ?_;exact gM
 obtain rfl:i=p.length:=J;refine ff ?_;refine kR (fun(k:Nat) (w:List Rat) L=>(mS L [(44,⟨3,w.map ae,true⟩)] [(91,ah k),(90,ah (p.length-1+(q.length-1)+1)),(89,.ref 44 3 0 (p.length-1+(q.length-1)+1)),(11,.ref 44 3 0 (p.length-1+(q.length-1)+1)),(10,.list 3 ((iP (p.length-1+(q.length-1))).map ae))])) (fun k w=>k<=(p.length-1+(q.length-1)+1)/\w.length=(p.length-1+(q.length-1)+1)/\w.take k=(oB p q).take k/\∀x,k<=x->w.getD x 0=(allM p q p.length).getD x 0) (fun k w=>(p.length-1+(q.length-1)+1)-k) 0 (allM p q p.length) ⟨bW _,ady _ _ _,rfl,fun x _=>rfl⟩ ?_;rintro k w L3 ⟨hk,gL,ij,hz⟩;refine a6 ?_;refine aD rfl ?_ ?_<;>intro aQd h92
 ·have mO:k<(p.length-1+(q.length-1)+1):=J;have hS:=adW gf jG fL px o6 p.length;have gY:=aC2 (i:=p.length) (j:=0) gf jG J hR;have nx:=ix J hS k;have hg2:=z7 (n:=p.length-1+(q.length-1)) h _ (dJ (i:=k) (by rw[zA];omega));have hzk:=hz k (bF _);rw[<-hzk]at nx;refine ab7 ?_
  try simp only[t1,cg,fZ]
  refine cp aC (arc _ _ J) ?_;refine b7 ?_;exact ja (k+1) (w.set k (w.getD k 0/(iP (p.length-1+(q.length-1))).getD k 0)) ⟨J,by simp[gL],zb (by rw[zN];omega) (by rw[zN,gL]) ij (by rw[aty J,hz k (bF _)]),fun x hx=>by rw[vz _ _ _ _ J,if_neg J];exact hz x J⟩
 obtain rfl:k=(p.length-1+(q.length-1)+1):=J;have hE:w=oB p q:=by
  rw[cy J,cy (by rw[zN];omega)]at ij;exact ij
 refine dj ?_;rw[<-hE];exact adC [44] rfl rfl (da ao rfl rfl J) rfl (.pure rfl)
end Go.Proofs.YtbkmfcmgilhaaaaGreat
namespace Go.Lg
theorem au.cell{L:St}(b:Nat){sz:Nat}{x y:LV}{mt:Bool}(hb:L.heap b=some ⟨sz,[x],mt⟩)(h:∀Z μ w cs,aH Z μ w x cs->aH Z μ w y cs):au L (L.bO b (some ⟨sz,[y],mt⟩)):=by
 rintro n W X Z0 a w ⟨fA,bU,μ,Z,hc,hr⟩;refine⟨fA,bU,μ,Z,?_,hr⟩;have hs:∀c,(L.bO b (some ⟨sz,[y],mt⟩)).heap c=if c=b then some ⟨sz,[y],mt⟩else L.heap c:=fun c=>rfl
 refine⟨hc.cV,hc.m9,hc.kU,hc.nc,hc.inj,hc.own,hc.x0,hc.pY,hc.x1,fun c id blk g1 g2=>?_,fun c id blk g1 g2=>?_,fun c id g1=>?_⟩
 ·rw[hs]at g2;split at g2
  ·rename_i e;subst e;cases g2;exact hc.ku c id ⟨sz,[x],mt⟩ g1 hb
  exact hc.ku c id blk g1 g2
 ·rw[hs]at g2;split at g2
  ·rename_i e;subst e;cases g2;exact hc.b9 c id ⟨sz,[x],mt⟩ g1 hb
  exact hc.b9 c id blk g1 g2
 obtain⟨blk,k1,k2⟩:=hc.heap c id g1;rw[hs];by_cases e:c=b
 ·subst e;rw[if_pos rfl];rw[hb]at k1
  cases k1
  refine⟨_,rfl,?_⟩;obtain⟨cs,T,part,rest,e1,e2,e3⟩:=k2;refine⟨cs,T,part,rest,e1,e2,?_⟩;simp only[aT]at e3 ⊢;obtain⟨c1,c2,q1,q2,q3,q4⟩:=e3;exact⟨c1,c2,q1,q2,h _ _ _ _ q3,q4⟩
 rw[if_neg e];exact⟨blk,k1,k2⟩
theorem au.qy(L:St)(d sz:Nat)(hd:L.heap d=none):au L (L.bO d (some ⟨sz,[],true⟩)):=by
 rintro n W X Z0 a w ⟨fA,bU,μ,Z,hc,hr⟩;refine⟨fA,bU,μ,Z,?_,hr⟩;refine hc.apJ fun c id yi=>?_;have:c≠d:=by rintro rfl;rw[xb hc hd]at yi;cases yi
 simp[St.bO,this]
theorem aeB(d sz:Nat)(x y:LV)(Z:Nat->Prop)(μ:Nat->Option Nat)(w:World)(cs:List Value)(h:aH Z μ w (.agg [x,y,.v (.slice none 0 0)]) cs):aH Z μ w (.agg [x,y,.ref d sz 0 0]) cs:=by
 simp only[aH,cP]at h ⊢;obtain⟨c1,c2,e1,e2,e3,c3,c4,e4,e5,e6,c5,c6,e7,e8,e9,e10⟩:=h;exact⟨c1,c2,e1,e2,e3,c3,c4,e4,e5,e6,c5,c6,e7,e8,.inl ⟨e9.1,trivial⟩,e10⟩
end Go.Lg
namespace Go.Proofs.YtbkmfcmgilhaaaaGreat
open Go.Lg
def _root_.Go.Lg.V3.at(p:V3):Nat->Rat
 |0=>p.x
 |1=>p.y
 |_=>p.z
def a7(po:List aF)(k:Nat):List Rat:=po.map fun q=>q.w*q.p.at k
def aS(po:List aF):List Rat:=po.map fun q=>q.w
theorem s9(po:List aF)(k:Nat):(a7 po k).length=po.length:=by simp[a7]
theorem tb(po:List aF):(aS po).length=po.length:=by simp[aS]
theorem ae3{R:Nat}{p:V3}(h:cG R p):∀k,rl (p.at k)<=R
 |0=>h.1
 |1=>h.2.1
 |_+2=>h.2.2
theorem aht{R:Nat}{po:List aF}(h:∀q∈po,oO R q)(k:Nat):∀x∈a7 po k,rl x<=2*R:=fun x hx=>by
 obtain⟨q,hq,rfl⟩:=cZ.1 hx;obtain⟨h1,h2,_⟩:=h q hq;have h3:=ae3 h1 k;have h4:=cF q.w (q.p.at k);show rl (q.w*q.p.at k)<=_;omega
theorem aha{R:Nat}{po:List aF}(h:∀q∈po,oO R q):∀x∈aS po,rl x<=R:=fun x hx=>by
 obtain⟨q,hq,rfl⟩:=cZ.1 hx;exact(h q hq).2.1
def eF(po:List aF)(k:Nat):List Rat:=pj (·-·) (oB (fG (a7 po k)) (aS po)) (oB (a7 po k) (fG (aS po)))
theorem aiW{p:List Rat}{n:Nat}(hp:p.length=n+1)(h:∀x∈p,rl x<=1073741824):qh p n:=⟨h,fun k hk=>by
 obtain rfl:k=0:=J;exact h⟩
theorem apk(p q:List Rat)(n:Nat)(hn:n<=40)(hp:p.length=n+1)(hq:q.length=n+1)(px:∀x∈p,rl x<=1073741824)(o6:∀x∈q,rl x<=1073741824):an ai 242 [.list 3 (p.map ae),.list 3 (q.map ae)] (.list 3 ((pj (·-·) p q).map ae)):=by
 have:=aHd p q n J J J J J (.inl hp) (aiW hp px) (aiW hq o6);rwa[al4 J,al4 J]at this
theorem as7{p q:List Rat}{R:Nat}(h:p.length-1+(q.length-1)<=40)(gf:p.length<=41)(jG:q.length<=41)(fL:1<=R)(hR:R<=100)(px:∀x∈p,rl x<=R)(o6:∀x∈q,rl x<=R):∀x∈oB p q,rl x<=344700:=fun x hx=>by
 obtain⟨k,hk,rfl⟩:=cZ.1 hx;have hS:=adW gf jG fL px o6 p.length;have gY:p.length*(q.length*(2*R+5))<=41*(41*205):=nP gf (nP jG J);have nx:=ix J hS k;have hg2:=ix (S:=2) aj (z7 (n:=p.length-1+(q.length-1)) h) k;have h3:=pv ((allM p q p.length).getD k 0) ((iP (p.length-1+(q.length-1))).getD k 0);omega
theorem awq{R:Nat}{p q:List Rat}{g:Rat->Rat->Rat}(hg:∀a b,rl (g a b)<=rl a+rl b+1)(hR:1<=R)(hp:∀x∈p,rl x<=R)(hq:∀x∈q,rl x<=R):∀x∈pj g p q,rl x<=2*R+1:=fun x hx=>by
 obtain⟨i,_,rfl⟩:=cZ.1 hx;have h1:=ix hR hp i;have h2:=ix hR hq i;have h3:=hg (p.getD i 0) (q.getD i 0);omega
structure qL (po:List aF) (d:Nat):Prop where
 hl:po.length=d+1
 hd:1<=d
 h6:d<=6
 ok:∀q∈po,oO 1 q
section
variable {po:List aF} {d:Nat} (h:qL po d)
theorem qL.n(h:qL po d)(k:Nat):(a7 po k).length=d+1/\∀x∈a7 po k,rl x<=2:=⟨by rw[s9,h.hl],aht h.ok k⟩
theorem qL.w(h:qL po d):(aS po).length=d+1/\∀x∈aS po,rl x<=2:=⟨by rw[tb,h.hl],fun x hx=>aP (aha h.ok x hx) aj⟩
theorem qL.dn(h:qL po d)(k:Nat):(fG (a7 po k)).length=d/\∀x∈fG (a7 po k),rl x<=8:=by
 obtain⟨h1,h2⟩:=h.n k;have:=h.hd;have:=h.h6;exact⟨by rw[adL,h1,if_neg J];omega,aka aj J h2⟩
theorem qL.dw(h:qL po d):(fG (aS po)).length=d/\∀x∈fG (aS po),rl x<=8:=by
 obtain⟨h1,h2⟩:=h.w;have:=h.hd;have:=h.h6;exact⟨by rw[adL,h1,if_neg J];omega,aka aj J h2⟩
theorem qL.m1(h:qL po d)(k:Nat):(oB (fG (a7 po k)) (aS po)).length=2*d-1+1/\∀x∈oB (fG (a7 po k)) (aS po),rl x<=344700:=by
 obtain⟨h1,h2⟩:=h.dn k;obtain⟨h3,h4⟩:=h.w;have:=h.hd;have:=h.h6;exact⟨by rw[zN,h1,h3];omega,as7 (R:=8) J J J aj aj h2 (fun x hx=>aP (h4 x hx) aj)⟩
theorem qL.m2(h:qL po d)(k:Nat):(oB (a7 po k) (fG (aS po))).length=2*d-1+1/\∀x∈oB (a7 po k) (fG (aS po)),rl x<=344700:=by
 obtain⟨h1,h2⟩:=h.n k;obtain⟨h3,h4⟩:=h.dw;have:=h.hd;have:=h.h6;exact⟨by rw[zN,h1,h3];omega,as7 (R:=8) J J J aj aj (fun x hx=>aP (h2 x hx) aj) h4⟩
theorem qL.t(h:qL po d)(k:Nat):(eF po k).length=2*d-1+1/\∀x∈eF po k,rl x<=689401:=by
 obtain⟨h1,h2⟩:=h.m1 k;obtain⟨_,h4⟩:=h.m2 k;exact⟨by rw[eF,aaZ,h1],fun x hx=>awq eX aj h2 h4 x hx⟩
end
theorem akd{Z:Nat->Prop}{μ:Nat->Option Nat}{w:World}{cs:List Value}(d sz:Nat)(h:aH Z μ w (.v (.slice none 0 0)) cs):aH Z μ w (.ref d sz 0 0) cs:=by
 simp only[aH]at h ⊢;exact .inl ⟨h.1,trivial⟩
theorem ay3(a b c d:Nat)(sz:Nat)(Z:Nat->Prop)(μ:Nat->Option Nat)(w:World)(cs:List Value)(h:aH Z μ w (.agg [.v (.slice none 0 0),.v (.slice none 0 0),.v (.slice none 0 0),.v (.slice none 0 0)]) cs):
  aH Z μ w (.agg [.ref a sz 0 0,.ref b sz 0 0,.ref c sz 0 0,.ref d sz 0 0]) cs:=by
 simp only[aH.eq_4,cP]at h ⊢;obtain⟨c1,c2,e1,e2,e3,c3,c4,e4,e5,e6,c5,c6,e7,e8,e9,c7,c8,e10,e11,e12,e13⟩:=h;exact⟨c1,c2,e1,e2,akd _ _ e3,c3,c4,e4,e5,akd _ _ e6,c5,c6,e7,e8,akd _ _ e9,c7,c8,e10,e11,akd _ _ e12,e13⟩
theorem yO{α β:Type}[Inhabited α](f:α->β)(l:List α){j:Nat}(h:j<l.length):(l.map f).take j++[f (l.getD j default)]=(l.map f).take (j+1):=by
 rw[te,jY,ck h,bq,ck h];rfl
theorem qo{po:List aF}{j:Nat}(h:j<po.length):po.getD j default∈po:=by
 rw[bq,ck h];exact qX h
open H0 in
theorem ae0(p q:List Rat)(R:Nat)(jh:0<p.length)(mK:0<q.length)(h:p.length-1+(q.length-1)<=40)(fL:1<=R)(hR:R<=67108864)(px:∀x∈p,rl x<=R)(o6:∀x∈q,rl x<=R):an ai 243 [.list 3 (p.map ae),.list 3 (q.map ae)] (.list 3 ((oB p q).map ae)):=by
 refine aL Tryz.func243 ?_;refine aN (aFN p q R jh mK h fL hR px o6) ?_;refine ff ?_;exact ee
theorem aEA{lo:List Rat}{m k:Nat}{v:Rat}(h:lo.length=k):(lo++av (m+1) 0).set k v=lo++[v]++av m 0:=by
 rw[List.replicate_succ,anL _ _ _ _ h.symm];simp
theorem ayE{tl:List Rat}{m:Nat}{v:Rat}:(av (m+1) 0++tl).set m v=av m 0++v::tl:=by
 rw[adx,pn];exact anL _ _ _ _ aE
theorem aD3{p:List Rat}{i:Nat}(h:i<p.length):(av (p.length-i) 0++(p.take i).reverse).set (p.length-(i+1)) (p.getD i 0)=av (p.length-(i+1)) 0++(p.take (i+1)).reverse:=by
 rw[show p.length-i=p.length-(i+1)+1 by omega,ayE,List.take_succ_eq_append_getElem h,List.reverse_append,List.reverse_singleton,List.singleton_append];rw[bq,ck h];rfl
theorem anM{a:Rat}(h:cq a=0):a=0:=by
 rcases aLk a with⟨g,e⟩|⟨_,e⟩|⟨_,e⟩
 ·exact g
 ·rw[e]at h;cases h
 rw[e]at h;cases h
namespace aCr
theorem aJ{p q:Prop}(k:q)(e:p=q:=by simp only[bD,bo,bp,bh,cg,ejm,lQ];exact rfl):p:=e.mpr k
end aCr
open aCr in
theorem aEr(p:List Rat)(n:Nat)(gf:p.length=n)(jJ:0<n)(hn:n<=1048576):pe ai 169 ⟨3,p.map ae,true⟩ [.ref 0 3 0 n] (.aY []) ⟨3,p.reverse.map ae,true⟩:=by
 refine fnM Tryz.func169 ?_;have ejm:True:=trivial;refine aK ?_;refine jc ?_;refine aW ?_;refine wz (fun(i j:Nat) (o:List Rat) L=>(mS L [(0,⟨3,o.map ae,true⟩)] [(3,ah j),(2,ah i),(0,.ref 0 3 0 n)])) (fun i j o=>j+i+1=n/\o.length=n/\∀x,x<n->o.getD x 0=if x<i\/n<=x+i then p.getD (n-1-x) 0 else p.getD x 0) (fun i j o=>j) 0 (n-1) p ⟨J,gf,fun x hx=>by rw[if_neg J]⟩ ?_;rintro i j o L1 ⟨ud,dK,hg⟩;refine bH ?_;refine aD rfl ?_ ?_<;>intro sw h9
 ·have ejm:((j:Int)-1)=((j-1:Nat):Int):=J;refine aK ?_;refine gE 13 [2,3] aG ?_;refine apC ?_;exact vU (i+1) (j-1) ((o.set i (o.getD j 0)).set j (o.getD i 0)) ⟨J,by simp[dK],aLo gf dK J ud hg⟩
 refine aK ?_;have hE:=aJH gf dK J hg;rw[<-hE];exact aJK rfl rfl (bm ao _)
namespace akE
theorem aJ{p q:Prop}(k:q)(e:p=q:=by simp only[bD,bo,bp,bh,cg,r1r,dO ao,kT,qV,LV.kill,bC];exact rfl):p:=e.mpr k
end akE
open akE in
theorem aJC(p:List Rat)(a b:Rat)(jh:0<p.length)(hl:p.length<=1048576)(kI:∀x∈p,rl x<=274877906944)(cm:rl a+rl b<=1073741824)(g1:1-a≠0->HS p a/\HS (lE p a) ((b-a)/(1-a)))(g2:1-a=0->b≠0->HS p b/\HS (oI p b) (1/b)):an ai 77 [.list 3 (p.map ae),ae a,ae b] (.list 3 ((z6 p a b).map ae)):=by
 have fR:=eX 1 a;have mw:=eX b a;have hrr:rl 1=1:=rfl;refine aL Tryz.func77 ?_;refine bf (zV 1 aj aj) ?_;refine aN (ue 1 a J) ?_;refine bf (wF (1-a) J) ?_;refine bI ?_;refine aD rfl ?_ ?_<;>intro um rT
 ·have aZ:1-a≠0:=asv rT;obtain⟨gA,gB⟩:=g1 aZ;have hE:z6 p a b=oI (lE p a) ((b-a)/(1-a)):=by rw[z6,if_pos aZ]
  refine aN (ahH p a gA) ?_;refine aN (ue b a J) ?_;refine aN (arc (b-a) (1-a) J) ?_;refine cp aC (ahH (lE p a) ((b-a)/(1-a)) gB) ?_;refine iR ?_;rw[hE];exact ee
 have aZ:1-a=0:=anM J;refine bf (wF b J) ?_;refine bI ?_;refine aD rfl ?_ ?_<;>intro aLJ h44
 ·have hnb:b≠0:=asv h44;obtain⟨gA,gB⟩:=g2 aZ hnb;have hE:z6 p a b=lE (oI p b) (1/b):=by rw[z6,if_neg (by rw[aZ];simp),if_pos hnb]
  refine aN (ahH p b gA) ?_;refine aN (arc 1 b J) ?_;refine cp aC (ahH (oI p b) (1/b) gB) ?_;refine iR ?_;rw[hE];exact ee
 have hnb:b=0:=anM J;have hE:z6 p a b=p.reverse:=by rw[z6,if_neg (by rw[aZ];simp),if_neg (by rw[hnb];simp)]
 refine aW ?_;refine wU [] rfl rfl (.cons (.pure (eY ao _ _)) .nil) (arL p hl kI) (bm ao _) rfl ?_;refine a6 ?_;refine aaj 1000977 rfl rfl rfl (bm ao _) (.cons .ref .nil) (.ref jh) (aEr p p.length rfl jh hl) rfl (bm ao _) ?_;refine bM ?_;rw[hE];exact lZ [1000977] rfl rfl (da ao rfl rfl aE)
open H0 in
theorem auB(a b t:Rat)(h:rl a+rl b+rl t<=8589934592):an ai 252 [ae a,ae b,ae t] (ae ((1-t)*a+t*b)):=by
 have h1:=eX b a;have h2:=cF (b-a) t;have hE:(1-t)*a+t*b=a+(b-a)*t:=ba;refine aL Tryz.func252 ?_;refine aN (og b a J) ?_;refine aN (iY (b-a) t J) ?_;refine cp aC (n6 a ((b-a)*t) J) ?_;refine aK ?_;rw[hE];exact fO
namespace auC
theorem aJ{p q:Prop}(k:q)(e:p=q:=by simp only[bD,bo,bp,bh,acu,cg,eq0,eqm,esa,esb,ekm,ekn,adT,adD,yB,eme,mT,jt,dR,fX,fD,gy,gU,ey,dO ao,kT,LV.kill,bC];exact rfl):p:=e.mpr k
end auC
open auC in
theorem agP(p:List Rat)(t:Rat)(h:HS p t):an ai 201 [.list 3 (p.map ae),ae t] (.aY [.list 3 ((oI p t).map ae),.list 3 ((lE p t).map ae)]):=by
 have hlen:=h.len;obtain⟨cc,hC,wx,hs⟩:=h;have kI:∀x∈p,rl x<=1073741824:=fun x hx=>by have:=aa7 (hs x hx);omega
 refine aL Tryz.func201 ?_;have eq0:True:=trivial;have eqm:True:=trivial;have esa:True:=trivial;have esb:True:=trivial;have ekm:True:=trivial;have ekn:True:=trivial;have adT:True:=trivial;have adD:True:=trivial;have yB:True:=trivial;have eme:True:=trivial;have mT:True:=trivial;refine nh ?_;refine ahZ ?_;refine bn ?_;refine ahZ ?_;refine bH ?_;refine cj rfl (.app (news:=p.map ae) rfl rfl rfl rfl rfl (bW _) (.inr rfl) aj pF pF jg cS rfl jq (.inr (.inl rfl)) aQ aQ aj) ?_;refine b7 ?_;refine lp4 (fun(k:Nat) (q tl lo:List Rat) L=>(mS L [(3,⟨3,[ae t],true⟩),(15,⟨3,(lo++av q.length 0).map ae,true⟩),(17,⟨3,(av q.length 0++tl).map ae,true⟩),(20,⟨3,(q++tl).map ae,true⟩)] [(10,ah k),(9,.ref 20 3 0 p.length),(8,.ref 17 3 0 p.length),(7,.ref 15 3 0 p.length),(6,ah p.length),(3,.aB 3 3 0 0)])) (fun k q tl lo=>q.length+k=p.length/\tl.length=k/\lo.length=k/\lo++yy t q.length q=oI p t/\wb t q.length q tl=lE p t/\∀x∈q,(rl x+cc)*2^q.length<=1073741824) (fun k q tl lo=>q.length) 0 p ([]) ([]) ⟨rfl,rfl,rfl,rfl,rfl,hs⟩ ?_;rintro k q tl lo L1 ⟨hq,zh,cI,hL,hH,bU⟩;refine bH ?_;refine aD rfl ?_ ?_<;>intro qZ sb
 ·obtain⟨m,hm⟩:∃m,q.length=m+1:=⟨q.length-1,J⟩;rw[hm]at hL hH bU;have lr:(q++tl).length=p.length:=by rw[jx];omega
  have oK:(lo++av q.length (0:Rat)).length=p.length:=by rw[jx,oG];omega
  have oy:(av q.length (0:Rat)++tl).length=p.length:=by rw[jx,oG];omega
  have eq0:(q++tl).getD 0 0=q.getD 0 0:=afK _ _ _ J;have eqm:(q++tl).getD m 0=q.getD m 0:=afK _ _ _ J;have ekm:((p.length:Int)-1-(k:Int)).toNat=m:=J;have esa:=aEA (lo:=lo) (m:=m) (v:=q.getD 0 0) cI;have esb:=ayE (tl:=tl) (m:=m) (v:=q.getD m 0);rw[<-hm]at esa esb;refine aW ?_;refine gE 18 [2,3,4,5,6] aG ?_;refine b7 ?_;simp only[wP,cg,fZ,eq0];refine bK ?_;simp only[ekm,cg,fZ,eqm];refine bG ?_;refine dy (fun(i:Nat) L=>(mS L [(3,⟨3,[ae t],true⟩),(15,⟨3,(lo++[q.getD 0 0]++av m 0).map ae,true⟩),(17,⟨3,(av m 0++q.getD m 0::tl).map ae,true⟩),(20,⟨3,((lC t q).take i++(q.drop i++tl)).map ae,true⟩)] [(11,ah i),(10,ah k),(9,.ref 20 3 0 p.length),(8,.ref 17 3 0 p.length),(7,.ref 15 3 0 p.length),(6,ah p.length),(3,.aB 3 3 0 0)])) (fun i=>i<=m) (fun i=>m-i) 0 (bW _) ?_;rintro i L2 hi;refine bN ?_;refine aD rfl ?_ ?_<;>intro aGc h50
  ·have ud:i<m:=J;have mT:((i:Int)+1).toNat=i+1:=J;obtain⟨adT,adD⟩:=aw7 (t:=t) (q:=q) (tl:=tl) (i:=i) J;have yB:=aw8 (t:=t) (q:=q) (tl:=tl) (i:=i) J;have fR:=aa7 (bU _ (dJ (i:=i) J));have mw:=aa7 (bU _ (dJ (i:=i+1) J));have vR:=atd (t:=t) (q:=q) (tl:=tl) (i:=i) J;refine bN ?_;simp only[t1,cg,fZ,adT];refine aW ?_;simp only[mT,cg,fZ,adD];refine rC (auB (q.getD i 0) (q.getD (i+1) 0) t J) ?_;refine bN ?_;exact gM
  obtain rfl:m=i:=J;have eme:=ax0 (t:=t) (tl:=tl) hm;have ekn:(lC t q).length=m:=by rw[qq];omega
  refine bG ?_;exact uv (k+1) (lC t q) (q.getD m 0::tl) (lo++[q.getD 0 0]) ⟨by rw[qq];omega,by simp[zh],by simp[cI],by rw[pn,qq,hm];exact hL,by rw[qq,hm];exact hH,by rw[qq,hm];exact ajo hC bU⟩ (hm:=by rw[qq];omega)
 obtain rfl:q=[]:=pQ J;rw[fX,yy,ey]at hL;rw[fX,wb,fD]at hH;have hL2:lo++av 0 0=oI p t:=by rw[<-hL];simp
 have hH2:av 0 0++tl=lE p t:=by rw[<-hH];simp
 refine ff ?_;rw[<-hL2,<-hH2];exact adC [15,17] rfl rfl (da ao rfl rfl aQ) rfl (da ao rfl rfl aQ)
namespace auL
theorem aJ{p q:Prop}(k:q)(e:p=q:=by simp only[bD,bo,bp,bh,cg,hll];exact rfl):p:=e.mpr k
end auL
open auL in
theorem akj(p:List Rat)(t:Rat)(h:HS p t)(jh:0<p.length):an ai 214 [.list 3 (p.map ae),ae t] (ae (dq p t)):=by
 have hll:=aaB p t;have hlen:=h.len;refine aL Tryz.func214 ?_;refine aN (agP p t h) ?_;refine bG ?_;refine jc ?_;refine a6 ?_;exact fO
namespace axy
theorem aJ{p q:Prop}(k:q)(e:p=q:=by simp only[bD,bo,bp,bh,cg,eix,yB,lQ,dO ao,kT,qV,LV.kill,bC];exact rfl):p:=e.mpr k
theorem wD{p q:Prop}(k:q)(e:p=q:=by simp only[bD,bo,bp,bh,cg,eix,yB,lQ,dO ao,kT,qV,LV.kill,bC,Nat.sub_zero,List.take_zero,List.reverse_nil,ey];exact rfl):p:=e.mpr k
theorem cl1{p:Prop}(h:p:=by first|rfl|(refine wD ?_;first|exact trivial|rfl|(congr 3<;>omega)|(congr 2<;>omega))):p:=h
end axy
open axy in
theorem aDV(p:List Rat)(hl:p.length<=1048576):an ai 200 [.list 3 (p.map ae)] (.list 3 (p.reverse.map ae)):=by
 refine aL Tryz.func200 ?_;have eix:True:=trivial;have yB:True:=trivial;refine bM ?_;refine ahZ ?_;refine b7 ?_;refine dy (fun(i:Nat) L=>(mS L [(7,⟨3,(av (p.length-i) 0++(p.take i).reverse).map ae,true⟩)] [(4,ah i),(3,.ref 7 3 0 p.length),(0,.list 3 (p.map ae))])) (fun i=>i<=p.length) (fun i=>p.length-i) 0 (bW _) (h0:=⟨_,au.of_eq (aX (aX (aX (jB cl1) cl1) cl1) cl1)⟩) ?_;rintro i L1 hi;refine bM ?_;refine aD rfl ?_ ?_<;>intro adm z5
 ·have cM:i<p.length:=J;have eix:((p.length:Int)-1-(i:Int)).toNat=p.length-(i+1):=J;have yB:=aD3 cM;have vR:(av (p.length-i) (0:Rat)++(p.take i).reverse).length=p.length:=aQ;refine amI ?_;exact ji (i+1) J (he:=au.of_eq (aX (aX (aX (jB cl1) cl1) cl1) cl1))
 obtain rfl:i=p.length:=J;have hE:av (p.length-p.length) 0++(p.take p.length).reverse=p.reverse:=aE;refine bG ?_;rw[<-hE];exact lZ [7] rfl rfl (da ao rfl rfl aE)
open akE in
theorem aOp(p:List Rat)(a b:Rat)(cm:rl a+rl b<=1073741824)(ha:a≠1)(g:HS p a/\HS (lE p a) ((b-a)/(1-a))):an ai 103 [.list 3 (p.map ae),ae a,ae b] (.list 3 ((oI (lE p a) ((b-a)/(1-a))).map ae)):=by
 have fR:=eX 1 a;have mw:=eX b a;have hrr:rl 1=1:=rfl;refine aL aBN ?_;refine bf (nZ 1 aj aj) ?_;refine aN (aen a 1 J) ?_;refine bc ?_;refine aD rfl ?_ ?_<;>intro pU jI
 ·exact absurd jI ha
 refine aN (agP p a g.1) ?_;refine aN (og b a J) ?_;refine aN (og 1 a J) ?_;refine cp aC (y7 (b-a) (1-a) J) ?_;refine cp aC (agP (lE p a) ((b-a)/(1-a)) g.2) ?_;refine dj ?_;exact ee
open akE in
theorem aHc(p:List Rat)(a b:Rat)(hl:p.length<=1048576)(cm:rl a+rl b<=536870912)(g1:a≠1->HS p a/\HS (lE p a) ((b-a)/(1-a)))(g2:a=1->HS p.reverse 0/\HS (lE p.reverse 0) (((1-b)-0)/(1-0))):an ai 103 [.list 3 (p.map ae),ae a,ae b] (.list 3 ((df p a b).map ae)):=by
 have fR:=eX 1 a;have mw:=eX b a;have tL:=eX 1 b;have hrr:rl 1=1:=rfl;have tY:rl 0=1:=rfl;refine aL aBN ?_;refine bf (nZ 1 aj aj) ?_;refine aN (aen a 1 J) ?_;refine bc ?_;refine aD rfl ?_ ?_<;>intro pU jI
 ·have hE:df p a b=oI (lE p.reverse 0) ((1-b-0)/(1-0)):=by rw[df,if_pos jI]
  refine bf (aDV p hl) ?_;refine pg ?_;refine aN (og 1 b J) ?_;refine cp kN (aOp p.reverse 0 (1-b) J aj (g2 jI)) ?_;refine bN ?_;rw[hE];exact ee
 have hE:df p a b=oI (lE p a) ((b-a)/(1-a)):=by rw[df,if_neg jI]
 refine aN (agP p a (g1 jI).1) ?_;refine aN (og b a J) ?_;refine aN (og 1 a J) ?_;refine cp aC (y7 (b-a) (1-a) J) ?_;refine cp aC (agP (lE p a) ((b-a)/(1-a)) (g1 jI).2) ?_;refine dj ?_;rw[hE];exact ee
end Go.Proofs.YtbkmfcmgilhaaaaGreat
namespace Go.Lg
theorem aJp{P:Program}{L:St}{t u b sz len:Nat}{x y:LV}{blk:aV}(h:L.slot t=.ref b sz 0 len)(hb:L.heap b=some blk)(hp:aO blk.vals=true)(h2:L.slot u=x)(hi:dt L.heap x y):pB P [.tmp t,.tmp u] L (.aY [.ref 1 sz 0 len,y]) [blk] :=
 ⟨[.ref b sz 0 len,x],[.ref 1 sz 0 len,y],L.heap,[b],.cons h (.cons h2 .nil),cd.le_refl _,.cons (.ref (k:=0) rfl) (.cons (.dH hi) .nil),by simp,rfl,fun k c hk=>by
  cases k with
  |zero=>simp at hk;subst hk;exact⟨blk,hb,rfl,hp⟩
  |succ k=>simp at hk,rfl⟩
end Go.Lg
namespace Go.Proofs.YtbkmfcmgilhaaaaGreat
open Go.Lg
theorem akN:∀(n k:Nat),gk n (k+1)*(k+1)=gk n k*(n-k)
 |0,k=>by simp[gk]
 |n+1,0=>by
  have h:=akN n 0;simp only[gk,aiU]at *
  omega
 |n+1,k+1=>by
  have h1:=akN n k;have h2:=akN n (k+1);rcases g7 n (k+1)with h|h
  ·rw[aiI (show n+1<k+1+1 by omega),show n+1-(k+1)=0 by omega];simp
  have e:gk (n+1) (k+1)=gk n k+gk n (k+1):=rfl;have e2:gk (n+1) (k+1+1)=gk n (k+1)+gk n (k+1+1):=rfl;rw[e,e2,show n+1-(k+1)=n-k by omega,iV,iV,h2,<-h1,<-fp,<-fp];congr 1;omega
theorem aKc{n k:Nat}(h:k<n):(((gk n k:Nat):Int):Rat)*((((n:Int)-(k:Int):Int):Rat)/(((k:Int)+1:Int):Rat))=(((gk n (k+1):Nat):Int):Rat):=by
 have e:=akN n k;have e2:((gk n (k+1):Nat):Int)*((k:Int)+1)=((gk n k:Nat):Int)*((n:Int)-(k:Int)):=by
  rw[show (n:Int)-(k:Int)=((n-k:Nat):Int) by omega,show (k:Int)+1=((k+1:Nat):Int) by omega,<-axb,<-axb,e]
 have e3:(((gk n (k+1):Nat):Int):Rat)*(((k:Int)+1:Int):Rat)=(((gk n k:Nat):Int):Rat)*((((n:Int)-(k:Int)):Int):Rat):=by rw[<-tx,<-tx,e2]
 have h0:(((k:Int)+1:Int):Rat)≠0:=fun e=>by have:=aiy.1 e;omega
 have h1:=fV _ h0;rw[gQ,<-xi,<-e3,xi,h1,ahA]
theorem akz{n:Nat}(k:Nat)(hn:n<=40):rl (((gk n k:Nat):Int):Rat)<=2:=by
 rcases g7 n k with h|h
 ·rw[aiI h];decide
 have h1:=z7 hn _ (dJ (i:=k) (by rw[zA];omega));rw[ag3 h]at h1;exact h1
def rz(r:Rat)(p:List Rat):List Rat:=p.map (r*·)
theorem tE(r:Rat)(p:List Rat):(rz r p).length=p.length:=by simp[rz]
theorem atf{r:Rat}{p:List Rat}{i:Nat}(h:i<p.length):(rz r p).getD i 0=r*p.getD i 0:=by
 rw[bq,ck (by rw[tE];exact h),bq,ck h];simp[rz]
theorem aFs{r:Rat}{p:List Rat}{R S:Nat}(hr:rl r<=R)(h:∀x∈p,rl x<=S):∀x∈rz r p,rl x<=R+S:=fun x hx=>by
 obtain⟨y,hy,rfl⟩:=cZ.1 hx;have h1:=cF r y;have h2:=h y hy;show rl (r*y)<=_;omega
theorem av3(p:List Rat)(i:Nat)(h:p.length<=i):p.getD i 0=0:=aGD h
theorem al1(r:Rat)(p:List Rat)(i:Nat):(rz r p).getD i 0=r*p.getD i 0:=by
 rcases g7 i p.length with h|h
 ·exact atf h
 rw[av3 _ _ h,av3 _ _ (by rw[tE];exact h),abu]
theorem aIB(r:Rat)(p:List Rat):oq (rz r p)=rz r (oq p):=by
 refine ae4 (by rw[sV,tE,tE,sV]) fun k hk=>?_;rw[sV,tE]at hk;rw[acU (by rw[tE];exact hk),al1,acU hk];unfold abc;rw[tE,al1,al1];split<;>split<;>grind
theorem aBU(r:Rat):∀(k:Nat) (p:List Rat),v9 k (rz r p)=rz r (v9 k p)
 |0,p=>rfl
 |k+1,p=>by rw[v9,v9,aIB,aBU r k]
theorem aPC(r:Rat)(p:List Rat)(n:Nat):fU (rz r p) n=rz r (fU p n):=by rw[fU,fU,tE,aBU]
theorem aPu(p q:List Rat):pj (·+·) p (rz (-1) q)=pj (·-·) p q:=by
 refine ae4 (by rw[aaZ,aaZ]) fun k hk=>?_;rw[aaZ]at hk;rw[akS hk,akS hk,al1];grind
theorem aE7{p:List Rat}{i:Nat}(h0:0<i)(h1:i<p.length):(1-((i:Int):Rat)/((p.length:Int):Rat))*p.getD i 0+((i:Int):Rat)/((p.length:Int):Rat)*p.getD (i-1) 0=(oq p).getD i 0:=by
 rw[acU J,aCb h0 h1,Rat.intCast_sub];have hn:((p.length:Int):Rat)≠0:=fun e=>by have:=aiy.1 e;omega
 have e2:=fV _ hn;simp only[gQ];grind
theorem aDM{p:List Rat}(h:0<p.length):(oq p).getD 0 0=p.getD 0 0:=by
 rw[acU J,axw J h,show (p.length:Int)-((0:Nat):Int)=(p.length:Int) by omega];have hn:((p.length:Int):Rat)≠0:=fun e=>by have:=aiy.1 e;omega
 rw[gQ,fV _ hn,wm]
theorem aK2{p:List Rat}(h:0<p.length):(oq p).getD p.length 0=p.getD (p.length-1) 0:=by
 rw[acU J,aDj h J];have hn:((p.length:Int):Rat)≠0:=fun e=>by have:=aiy.1 e;omega
 rw[gQ,fV _ hn,wm]
theorem aMa{p w:List Rat}(h0:0<p.length)(hl:w.length=p.length+1)(ht:w.take p.length=(oq p).take p.length)(hn:w.getD p.length 0=p.getD (p.length-1) 0):w=oq p:=by
 refine ae4 (by rw[hl,sV]) fun k hk=>?_;rcases g7 k p.length with h|h
 ·have:=congrArg (fun l=>l.getD k 0) ht;simpa[bq,List.getElem?_take_of_lt h]using this
 obtain rfl:k=p.length:=J;rw[hn,aK2 h0]
theorem take_one{w q:List Rat}(h1:0<w.length)(h2:0<q.length)(h:w.getD 0 0=q.getD 0 0):w.take 1=q.take 1:=by
 match w,q,h1,h2 with
 |a::w,b::q,_,_=>simp at h;simp[h]
theorem aMy(a b p q:Rat):a*b*(p*q)=a*p*(b*q):=ba
namespace aAJ
theorem aJ{p q:Prop}(k:q)(e:p=q:=by simp only[bD,bo,bp,bh,ech,cg,dO ao,kT,qV,LV.kill,bC];exact rfl):p:=e.mpr k
end aAJ
open aAJ in
theorem aoU(n k:Nat)(hn:n<=40)(hk:k<=n):an ai 276 [ah n,ah k] (ae (((gk n k:Nat):Int):Rat)):=by
 refine aL Tryz.func276 ?_;have ech:True:=trivial;refine bf (nZ 1 aj aj) ?_;refine bN ?_;refine dy (fun(i:Nat) L=>(mS L [(4,⟨3,[.agg [.v (.bool false),.list 1 [],.list 1 []]],true⟩),(5,⟨3,[ae (((gk n i:Nat):Int):Rat)],true⟩)] [(6,ah i),(5,.aB 5 3 0 0),(4,.aB 4 3 0 0),(1,ah k),(0,ah n)])) (fun i=>i<=k) (fun i=>k-i) 0 (bW _) (h0:=⟨_,au.of_eq (aX (aX (aX (aX (aX (jB (by rw[aiU];exact cl)) cl) cl) cl) cl) cl)⟩) ?_;rintro i L1 hi;refine bH ?_;refine aD rfl ?_ ?_<;>intro nj pC
 ·have cM:i<n:=J;have ech:=aKc cM;have hcr:=akz (n:=n) i hn;have eM:=acO (n:=(n:Int)-(i:Int)) (d:=(i:Int)+1) J J;refine aN (aey ((n:Int)-(i:Int)) ((i:Int)+1) J J J J J) ?_;refine cp aC (iY (((gk n i:Nat):Int):Rat) ((((n:Int)-(i:Int):Int):Rat)/(((i:Int)+1:Int):Rat)) J) ?_;refine b7 ?_;exact gM
 obtain rfl:i=k:=J;refine bG ?_;exact fO
open aq2 in
theorem aNr(r:Rat)(p:List Rat)(hl:p.length<=1048576)(h:∀x∈p,rl r+rl x<=34359738368):an ai 278 [ae r,.list 3 (p.map ae)] (.list 3 ((rz r p).map ae)):=by
 refine aL Tryz.func278 ?_;refine b7 ?_;refine ahZ ?_;refine b7 ?_;refine kR (fun(i:Nat) (w:List Rat) L=>(mS L [(2,⟨3,[ae r],true⟩),(9,⟨3,w.map ae,true⟩)] [(6,ah i),(5,.ref 9 3 0 p.length),(2,.aB 2 3 0 0),(1,.list 3 (p.map ae))])) (fun i w=>i<=p.length/\w.length=p.length/\w.take i=(rz r p).take i) (fun i w=>p.length-i) 0 (av p.length 0) ⟨bW _,by simp,rfl⟩ ?_;rintro i w L1 ⟨hi,gL,ij⟩;refine bM ?_;refine aD rfl ?_ ?_<;>intro zu h13
 ·have cM:i<p.length:=J;have uF:=h _ (dJ cM);refine aN (iY r (p.getD i 0) J) ?_
  try simp only[t1,cg]
  refine bN ?_;exact ja (i+1) (w.set i (r*p.getD i 0)) ⟨J,by simp[gL],zb (by rw[tE];omega) (by rw[tE];omega) ij (by rw[atf J])⟩
 obtain rfl:i=p.length:=J;have hE:w=(rz r p):=by
  rw[cy J,cy (by rw[tE];omega)]at ij;exact ij
 subst hE;refine bG ?_;exact lZ [9] rfl rfl (da ao rfl rfl (tE r p).symm)
namespace ayd
theorem aJ{p q:Prop}(k:q)(e:p=q:=by simp only[bD,bo,bp,bh,cg,wP,hkn,eim,lQ,dO ao,kT,qV,LV.kill,bC];exact rfl):p:=e.mpr k
end ayd
open ayd in
theorem aD6(p:List Rat)(jh:0<p.length)(hl:p.length<=1000)(kI:∀x∈p,rl x<=1073741824):an ai 286 [.list 3 (p.map ae)] (.list 3 ((oq p).map ae)):=by
 have hkn:((p.length:Int)-1).toNat=p.length-1:=J;have n8:(av (p.length+1) (0:Rat)).length=p.length+1:=oG;refine aL Tryz.func286 ?_;have eim:True:=trivial;refine iR ?_;refine lG ?_;refine gv rfl rfl (.nr (n:=(p.length+1)) (m:=(p.length+1)) ml ml om om om) ?_;refine aK ?_;refine gE 12 [1,2] aG ?_;refine abi ?_;refine kR (fun(i:Nat) (w:List Rat) L=>(mS L [(10,⟨3,w.map ae,true⟩)] [(5,ah i),(4,.ref 10 3 0 (p.length+1)),(3,ah p.length),(0,.list 3 (p.map ae))])) (fun i w=>1<=i/\i<=p.length/\w.length=p.length+1/\w.take i=(oq p).take i/\w.getD p.length 0=p.getD (p.length-1) 0) (fun i w=>p.length-i) 1 (((av (p.length+1) 0).set 0 (p.getD 0 0)).set p.length (p.getD (p.length-1) 0)) ⟨bF _,jh,by simp,take_one aE xT (by rw[vz _ _ _ _ aE,if_neg J,vz _ _ _ _ aE,if_pos rfl,aDM jh]),by rw[vz _ _ _ _ aE,if_pos rfl]⟩ ?_;rintro i w L1 ⟨sC,hi,gL,ij,hwe⟩;refine bH ?_;refine aD rfl ?_ ?_<;>intro aRc h26
 ·have cM:i<p.length:=J;have eim:((i:Int)-1).toNat=i-1:=J;have eM:=acO (n:=(i:Int)) (d:=(p.length:Int)) J J;have fR:=kI _ (dJ cM);have mw:=kI _ (dJ (i:=i-1) J);have hB:=auB (p.getD i 0) (p.getD (i-1) 0) (((i:Int):Rat)/((p.length:Int):Rat)) J;rw[aE7 J cM]at hB;refine aN (aey (i:Int) (p.length:Int) J J J J J) ?_
  try simp only[t1,cg,eim]
  refine cp kN (hB) ?_;refine bK ?_;refine eP ?_;exact ja (i+1) (w.set i ((oq p).getD i 0)) ⟨J,J,by simp[gL],zb xT xT ij rfl,by rw[vz _ _ _ _ J,if_neg J];exact hwe⟩
 obtain rfl:i=p.length:=J;have hE:=aMa jh gL ij hwe;subst hE;refine bG ?_;exact lZ [10] rfl rfl (da ao rfl rfl (sV p).symm)
namespace aC3
theorem aJ{p q:Prop}(k:q)(e:p=q:=by simp only[bD,bo,bp,bh,cg,avu,jt,dR,fX,fD,gy,gU,ey,dO ao,kT,qV,LV.kill,bC];exact rfl):p:=e.mpr k
end aC3
open aC3 in
theorem aCw(p:List Rat)(n:Nat)(jh:0<p.length)(hn:n<=40)(sE:p.length<=n+1)(wg:qh p n):mW ai 283 [.list 3 (p.map ae),ah n] (.aY [.ref 1 3 0 (n+1),iL 0]) [⟨3,(fU p n).map ae,true⟩]:=by
 refine zi Tryz.func283 ?_;have avu:True:=trivial;refine bG ?_;refine al rfl vX ?_;refine bc ?_;refine dU 11 rfl ?_ ?_<;>intro adm z5
 ·refine ff ?_;exfalso;omega
 refine aW ?_;refine aD rfl ?_ ?_<;>intro pU jI
 ·omega
 refine aK ?_;refine dy (fun(o:List Rat) L=>(mS L [] [(1,ah n),(0,.list 3 (o.map ae))])) (fun o=>0<o.length/\o.length<=n+1/\qh o n/\v9 (n+1-o.length) o=(fU p n)) (fun o=>n+1-o.length) p ⟨jh,sE,wg,rfl⟩ ?_;rintro o L1 ⟨ho0,dK,hos,hit⟩;refine bM ?_;refine aD rfl ?_ ?_<;>intro re pR
 ·have yc:o.length<=n:=J;refine bf (aD6 o ho0 J hos.1) ?_;refine aK ?_;exact ji (oq o) ⟨by rw[sV];omega,by rw[sV];omega,aqG J hos,by rw[aAP J];exact hit⟩ (hm:=by rw[sV];omega)
 have yc:o.length=n+1:=J;have hE:(fU p n)=o:=by rw[<-hit,show n+1-o.length=0 by omega];rfl
 have avu:=yc;refine bM ?_;refine cj rfl (.app (news:=o.map ae) rfl rfl rfl rfl rfl (bW _) (.inr rfl) aj pF pF jg cS rfl jq (.inr (.inl rfl)) aQ aQ aj) ?_;refine aW ?_;rw[hE];exact aJp rfl rfl (bm ao _) rfl (.pure rfl)
theorem rm1:((-1:Int):Rat)=-1:=aG
theorem aMT{a w B:List Rat}{g:Rat->Rat->Rat}{i:Nat}(hi:i<a.length)(gL:w.length=a.length)(ij:w.take i=(pj g a B).take i):(w.set i (g (a.getD i 0) (B.getD i 0))).take (i+1)=(pj g a B).take (i+1) :=
 zb (by rw[aaZ];exact hi) (by rw[aaZ];exact gL) ij (by rw[akS hi])
theorem asO{i j l R:Nat}(hi:i<=41)(hl:l<=41)(hj:j<=l)(hR:R<=1048576):1+i*(l*(2*R+5))+j*(2*R+5)<=4000000000:=by
 have h1:=nP hi (nP hl (show 2*R+5<=2097157 by omega));have h2:=nP (show j<=41 by omega) (show 2*R+5<=2097157 by omega);omega
namespace awm
theorem aJ{p q:Prop}(k:q)(e:p=q:=by simp only[bD,bo,bp,bh,acu,cg,aDY,vA,mc,egw,lQ,jt,dR,fX,fD,gy,gU,ey,dO ao,kT,qV,LV.kill,bC];exact rfl):p:=e.mpr k
end awm
open awm in
theorem aLG(p q:List Rat)(n:Nat)(jh:0<p.length)(mK:0<q.length)(hn:n<=40)(sE:p.length<=n+1)(tB:q.length<=n+1)(uw:p.length=n+1\/q.length=n+1)(wg:qh p n)(vL:qh q n):an ai 277 [.list 3 (p.map ae),.list 3 (q.map ae)] (.list 3 ((pj (·+·) (fU p n) (fU q n)).map ae)):=by
 have aDY:=emx jh sE tB uw;have vA:=ajL sE;have mc:=ajL tB;have p9:(pj (·+·) (fU p n) (fU q n)).length=n+1:=by rw[aaZ,vA]
 refine aL Tryz.func277 ?_;have egw:True:=trivial;refine bG ?_;refine al rfl (.bin rfl rfl (aye jh sE tB uw J)) ?_;refine bK ?_;refine wU [] rfl rfl (.cons eu (.cons eu .nil)) (aCw p n jh hn sE wg) (bm ao _) rfl ?_;refine bn ?_;refine al rfl (.extract (r:=.ref 1000321 3 0 (n+1)) rfl rfl (fun m h=>by cases h)) ?_;refine al rfl (.extract (r:=iL 0) rfl rfl (fun m h=>by cases h)) ?_;refine bH ?_;refine wU [] rfl rfl (.cons eu (.cons eu .nil)) (aCw q n mK hn tB vL) (bm ao _) rfl ?_;refine bn ?_;refine al rfl (.extract (r:=.ref 1000417 3 0 (n+1)) rfl rfl (fun m h=>by cases h)) ?_;refine al rfl (.extract (r:=iL 0) rfl rfl (fun m h=>by cases h)) ?_;refine bN ?_;refine kR (fun(i:Nat) (w:List Rat) L=>(mS L [(1000321,⟨3,w.map ae,true⟩),(1000417,⟨3,(fU q n).map ae,true⟩)] [(10,ah i),(8,.ref 1000417 3 0 (n+1)),(6,.ref 1000321 3 0 (n+1))])) (fun i w=>i<=n+1/\w.length=n+1/\w.take i=(pj (·+·) (fU p n) (fU q n)).take i/\∀x,i<=x->w.getD x 0=(fU p n).getD x 0) (fun i w=>n+1-i) 0 (fU p n) ⟨bW _,vA,rfl,fun _ _=>rfl⟩ ?_;rintro i w L1 ⟨hi,gL,ij,hz⟩;refine bM ?_;refine aD rfl ?_ ?_<;>intro ab5 h32
 ·have cM:i<n+1:=J;have egw:=hz i (bF _);have fR:=akO (show n<=1000 by omega) jh sE wg i;have mw:=akO (show n<=1000 by omega) mK tB vL i;refine iR ?_;simp only[t1,cg,fZ,egw];refine cp aC (n6 ((fU p n).getD i 0) ((fU q n).getD i 0) J) ?_;refine bK ?_;refine eP ?_;exact ja (i+1) (w.set i ((fU p n).getD i 0+(fU q n).getD i 0)) ⟨J,by simp[gL],aMT J J ij,fun x hx=>by rw[vz _ _ _ _ J,if_neg J];exact hz x J⟩
 obtain rfl:i=n+1:=J;have hE:w=(pj (·+·) (fU p n) (fU q n)):=by
  rw[cy J,cy J]at ij;exact ij
 subst hE;refine bG ?_;exact lZ [1000321] rfl rfl (da ao rfl rfl p9.symm)
namespace arS
theorem aJ{p q:Prop}(k:q)(e:p=q:=by simp only[bD,bo,bp,bh,rm1,dO ao,kT,qV,LV.kill,bC];exact rfl):p:=e.mpr k
end arS
open arS in
theorem aNK(p q:List Rat)(n:Nat)(jh:0<p.length)(mK:0<q.length)(hn:n<=40)(sE:p.length<=n+1)(tB:q.length<=n+1)(uw:p.length=n+1\/q.length=n+1)(wg:qh p n)(vL:qh q n)(aMC:qh (rz (-1) q) n):an ai 255 [.list 3 (p.map ae),.list 3 (q.map ae)] (.list 3 ((pj (·-·) (fU p n) (fU q n)).map ae)):=by
 have hA:=aLG p (rz (-1) q) n jh (by rw[tE];exact mK) hn sE (by rw[tE];exact tB) (by rw[tE];exact uw) wg aMC;rw[aPC,aPu]at hA;have hrm:rl (-1)<=1:=aG;have hS:=aNr (-1) q J (fun x hx=>by have:=vL.1 x hx;omega);have hI:=nZ (-1) aj aj;rw[rm1]at hI;refine aL Tryz.func255 ?_;refine bf (hI) ?_;refine aN (hS) ?_;refine cp aC (hA) ?_;refine aK ?_;exact ee
namespace ay4
theorem aJ{p q:Prop}(k:q)(e:p=q:=by simp only[bD,bo,bp,bh,cg,fw,fg,jt,dR,fX,fD,gy,gU,ey,dO ao,kT,qV,LV.kill,bC];exact rfl):p:=e.mpr k
end ay4
open ay4 in
theorem afb(p:List Rat)(jh:0<p.length)(hl:p.length<=1000)(kI:∀x∈p,rl x<=1073741824):an ai 254 [.list 3 (p.map ae)] (.list 3 ((fG p).map ae)):=by
 refine aL Tryz.func254 ?_;have fw:True:=trivial;have fg:True:=trivial;refine dj ?_;refine aD rfl ?_ ?_<;>intro nX h8
 ·have hE:fG p=[0]:=by unfold fG;rw[if_pos J]
  refine bc ?_;refine pg ?_;refine a6 ?_;rw[hE];exact lZ [10] rfl rfl (da ao rfl rfl rfl)
 have mi:(fG p).length=p.length-1:=by rw[adL,if_neg J]
 refine a6 ?_;refine jc ?_;refine cp cr (nZ ((p.length-1:Nat):Int) J J) ?_;refine lN ?_;refine iS (au.own (t:=4) 36 3 rfl rfl) ?_;refine dy (fun(i:Nat) L=>(mS L [(3,⟨3,[ae (((p.length-1:Nat):Int):Rat)],true⟩),(36,⟨3,((fG p).take i).map ae,true⟩)] [(5,ah i),(4,.ref 36 3 0 i),(3,.aB 3 3 0 0),(0,.list 3 (p.map ae))])) (fun i=>i<=p.length-1) (fun i=>p.length-1-i) 0 (bW _) ?_;rintro i L1 hi;refine aK ?_;refine lG ?_;refine aW ?_;refine aD rfl ?_ ?_<;>intro ab0 yI
 ·have cM:i<p.length-1:=J;have fR:=kI _ (dJ (i:=i) J);have mw:=kI _ (dJ (i:=i+1) J);have tL:=eX (p.getD (i+1) 0) (p.getD i 0);have hr4:=aeu (n:=((p.length-1:Nat):Int)) J;have kX:((fG p).take i).length=i:=aab;have fw:(((fG p).take i).map ae).take i=((fG p).take i).map ae:=cy fW;have fg:(fG p).take i++[((((p.length-1:Nat):Int):Rat)*(p.getD (i+1) 0-p.getD i 0))]=(fG p).take (i+1):=by rw[<-are J,te,bq,ck J];rfl
  refine bM ?_;refine lG ?_;refine aN (og (p.getD (i+1) 0) (p.getD i 0) J) ?_;refine cp aC (iY (((p.length-1:Nat):Int):Rat) (p.getD (i+1) 0-p.getD i 0) J) ?_;refine bn ?_;refine cj rfl (.app (news:=[ae ((((p.length-1:Nat):Int):Rat)*(p.getD (i+1) 0-p.getD i 0))]) rfl rfl rfl rfl rfl fW (.inl rfl) aj pF pF jg cS rfl jq (.inl ⟨35,0,_,rfl,by decide,rfl,rfl,by simp,rfl,by simp[aO,ao.pure]⟩) aQ aQ aj) ?_;refine aK ?_;refine cO (au.kill _ 35) ?_;refine nL ?_;exact gM
 obtain rfl:i=p.length-1:=J;have hE:(fG p).take (p.length-1)=fG p:=cy J;refine bG ?_;simp only[hE];exact lZ [36] rfl rfl (da ao rfl rfl J)
namespace atw
theorem aJ{p q:Prop}(k:q)(e:p=q:=by simp only[bD,bo,bp,bh,cg,lQ,ae9,ady,jV,esm,dO ao,kT,qV,LV.kill,bC];exact rfl):p:=e.mpr k
end atw
open atw in
theorem aft(p q:List Rat)(R:Nat)(jh:0<p.length)(mK:0<q.length)(h:p.length-1+(q.length-1)<=40)(fL:1<=R)(hR:R<=1048576)(px:∀x∈p,rl x<=R)(o6:∀x∈q,rl x<=R):an ai 253 [.list 3 (p.map ae),.list 3 (q.map ae)] (.aY [.list 3 ((oB p q).map ae),iL 0]):=by
 have gf:p.length<=41:=J;have jG:q.length<=41:=J;refine aL Tryz.func253 ?_;have jV:True:=trivial;have esm:True:=trivial;refine b7 ?_;refine jc ?_;refine bc ?_;refine jc ?_;refine bM ?_;refine al rfl sZ ?_;refine bI ?_;refine aD rfl ?_ ?_<;>intro ae1 h22
 ·omega
 refine a6 ?_;refine al rfl sZ ?_;refine lG ?_;refine gv rfl rfl (.nr (n:=(p.length-1+(q.length-1)+1)) (m:=(p.length-1+(q.length-1)+1)) ml ml om om om) ?_;refine b7 ?_;refine dy (fun(i:Nat) L=>(mS L [(27,⟨3,(allM p q i).map ae,true⟩)] [(9,ah i),(8,.ref 27 3 0 (p.length-1+(q.length-1)+1)),(7,ah (q.length-1)),(6,ah (p.length-1)),(1,.list 3 (q.map ae)),(0,.list 3 (p.map ae))])) (fun i=>i<=p.length) (fun i=>p.length-i) 0 (bW _) ?_;rintro i L1 hi;refine bH ?_;refine aD rfl ?_ ?_<;>intro abK yq
 ·have hip:i<p.length:=J;have iT:=z7 (n:=p.length-1) J _ (dJ (i:=i) (by rw[zA];omega));have uJ:=px _ (dJ (i:=i) hip);have hx3:=cF ((iP (p.length-1)).getD i 0) (p.getD i 0);refine b7 ?_;refine dy (fun(j:Nat) L=>(mS L [(27,⟨3,(zM ((iP (p.length-1)).getD i 0*p.getD i 0) i (iP (q.length-1)) q (allM p q i) j).map ae,true⟩)] [(10,ah j),(9,ah i),(8,.ref 27 3 0 (p.length-1+(q.length-1)+1)),(7,ah (q.length-1)),(6,ah (p.length-1)),(1,.list 3 (q.map ae)),(0,.list 3 (p.map ae))])) (fun j=>j<=q.length) (fun j=>q.length-j) 0 (bW _) ?_;rintro j L2 hj;refine bH ?_;refine aD rfl ?_ ?_<;>intro aay h35
  ·have hjq:j<q.length:=J;have jV:((i:Int)+(j:Int)).toNat=i+j:=J;have hlr:(zM ((iP (p.length-1)).getD i 0*p.getD i 0) i (iP (q.length-1)) q (allM p q i) j).length=(p.length-1+(q.length-1)+1):=by rw[ae9,ady]
   have hS:=adW gf jG fL px o6 i;have ho:=alk (i:=i) J hS (show rl ((iP (p.length-1)).getD i 0*p.getD i 0)<=R+2 by omega) (z7 (n:=q.length-1) J) o6 fL j;have gY:=asO (i:=i) (j:=j) J jG hj hR;have nx:=ix J ho (i+j);have uk:=akz (n:=p.length-1) i J;have uU:=akz (n:=q.length-1) j J;have hc3:=cF (((gk (p.length-1) i:Nat):Int):Rat) (((gk (q.length-1) j:Nat):Int):Rat);have hg3:=o6 _ (dJ (i:=j) hjq);have hg4:=cF (p.getD i 0) (q.getD j 0);have hg5:=cF ((((gk (p.length-1) i:Nat):Int):Rat)*(((gk (q.length-1) j:Nat):Int):Rat)) (p.getD i 0*q.getD j 0);have esm:(((gk (p.length-1) i:Nat):Int):Rat)*(((gk (q.length-1) j:Nat):Int):Rat)*(p.getD i 0*q.getD j 0)=((iP (p.length-1)).getD i 0*p.getD i 0)*((iP (q.length-1)).getD j 0*q.getD j 0):=by rw[ag3 J,ag3 J];exact aMy _ _ _ _
   refine aN (aoU (p.length-1) i J J) ?_;refine aN (aoU (q.length-1) j J J) ?_;refine cp aC (iY (((gk (p.length-1) i:Nat):Int):Rat) (((gk (q.length-1) j:Nat):Int):Rat) J) ?_;refine bH ?_;refine al rfl sZ ?_;refine bI ?_;refine al rfl sZ ?_;refine bN ?_
   try simp only[t1,cg,fZ]
   refine cp aC (iY _ _ J) ?_
   try simp only[t1,cg,fZ]
   refine cp aC (iY _ _ J) ?_
   try simp only[t1,cg,fZ]
   refine cp aC (n6 _ _ J) ?_;refine aW ?_;refine cO (au.kill _ 11) ?_;refine nL ?_;exact yd
  obtain rfl:j=q.length:=J;refine bH ?_;refine eP ?_;exact gM
 obtain rfl:i=p.length:=J;refine bG ?_;refine kR (fun(k:Nat) (w:List Rat) L=>(mS L [(27,⟨3,w.map ae,true⟩)] [(12,ah k),(8,.ref 27 3 0 (p.length-1+(q.length-1)+1)),(7,ah (q.length-1)),(6,ah (p.length-1))])) (fun k w=>k<=(p.length-1+(q.length-1)+1)/\w.length=(p.length-1+(q.length-1)+1)/\w.take k=(oB p q).take k/\∀x,k<=x->w.getD x 0=(allM p q p.length).getD x 0) (fun k w=>(p.length-1+(q.length-1)+1)-k) 0 (allM p q p.length) ⟨bW _,ady _ _ _,rfl,fun x _=>rfl⟩ ?_;rintro k w L3 ⟨hk,gL,ij,hz⟩;refine a6 ?_;refine al rfl sZ ?_;refine bI ?_;refine aD rfl ?_ ?_<;>intro aK9 h72
 ·have mO:k<(p.length-1+(q.length-1)+1):=J;have hS:=adW gf jG fL px o6 p.length;have gY:=asO (i:=p.length) (j:=0) gf jG J hR;have nx:=ix J hS k;have hg2:=akz (n:=p.length-1+(q.length-1)) k h;have hzk:=hz k (bF _);rw[<-hzk]at nx;refine dj ?_;refine al rfl sZ ?_;refine aN (aoU (p.length-1+(q.length-1)) k J J) ?_
  try simp only[t1,cg,fZ]
  refine cp aC (y7 _ _ J) ?_;refine bK ?_;refine eP ?_;exact ja (k+1) (w.set k (w.getD k 0/(((gk (p.length-1+(q.length-1)) k:Nat):Int):Rat))) ⟨J,by simp[gL],zb (by rw[zN];omega) (by rw[zN,gL]) ij (by rw[aty J,hz k (bF _),ag3 J]),fun x hx=>by rw[vz _ _ _ _ J,if_neg J];exact hz x J⟩
 obtain rfl:k=(p.length-1+(q.length-1)+1):=J;have hE:w=oB p q:=by
  rw[cy J,cy (by rw[zN];omega)]at ij;exact ij
 refine dj ?_;rw[<-hE];exact adC [27] rfl rfl (da ao rfl rfl J) rfl (.pure rfl)
theorem afN{a b:Rat}:fY a b<0↔a<b:=by
 unfold fY;split
 ·simp[*]
 split<;>simp[*]
theorem aN2{p:List Rat}:jm p 1=(p.getD 0 0,p.getD 0 0):=by
 show mz (p.getD 0 0,p.getD 0 0) (p.getD 0 0,p.getD 0 0)=_;rw[mz,arI,amD]
theorem aFS{p:List Rat}{k:Nat}(h:0<k):jm p (k+1)=mz (jm p k) (p.getD k 0,p.getD k 0):=by
 show mz (if k=0 then _ else _) _=_;rw[if_neg J]
namespace axP
theorem aJ{p q:Prop}(k:q)(e:p=q:=by simp only[bD,bo,bp,bh,cg,wP,tc,dO ao,kT,qV,LV.kill,bC];exact rfl):p:=e.mpr k
end axP
open axP in
theorem ajI(p:List Rat)(jh:0<p.length)(hl:p.length<=1048576)(kI:∀x∈p,rl x<=8589934592):an ai 210 [.list 3 (p.map ae)] (ar (fj p)):=by
 refine aL Tryz.func210 ?_;have tc:True:=trivial;refine bf (uB _) ?_;refine bN ?_;refine dy (fun(i:Nat) L=>(mS L [(2,⟨6,[ar (0,0)],true⟩),(3,⟨6,[ar (jm p i)],true⟩)] [(4,ah i),(3,.aB 3 6 0 0),(2,.aB 2 6 0 0),(0,.list 3 (p.map ae))])) (fun i=>1<=i/\i<=p.length) (fun i=>p.length-i) 1 ⟨bF _,jh⟩ (h0:=⟨_,au.of_eq (aX (aX (aX (aX (jB (by rw[aN2];exact cl)) cl) cl) cl) cl)⟩) ?_;rintro i L1 ⟨sC,hi⟩;refine bM ?_;refine aD rfl ?_ ?_<;>intro acI h12
 ·have cM:i<p.length:=J;have tc:=aFS (p:=p) sC;have fR:=ix (S:=8589934592) aj kI;have mw:=fR i;have tL:=agn aj fR i;have hr4:rl ((p.getD i 0,p.getD i 0):Rat×Rat).1<=8589934592:=mw;have hr5:rl ((p.getD i 0,p.getD i 0):Rat×Rat).2<=8589934592:=mw;refine bf (uB _) ?_;refine cp aC (acF (jm p i) (p.getD i 0,p.getD i 0) J J) ?_;refine a6 ?_;refine eP ?_;exact ji (i+1) ⟨J,J⟩
 obtain rfl:i=p.length:=J;refine bG ?_;exact mL
theorem aes{P:Program}{L:St}{a u:Nat}{T U:TypeId}{b c sz sy:Nat}{x y x' y':LV}{m m':Bool}{n n':Nat}{ag ag':Bool}(bs:List Nat)(h0:bs.contains 0=false)(h:L.slot a=.aB b sz 0 0)(hb:L.heap b=some ⟨sz,[x],m⟩)
  (hx:x.aq=sz) (cJ:x.at 0 n ag=some x) (hT:bS P T n ag) (hi:dt (L.b9 bs).heap x y) (h':L.slot u=.aB c sy 0 0) (hc:L.heap c=some ⟨sy,[x'],m'⟩)
  (hx':x'.aq=sy) (anF:x'.at 0 n' ag'=some x') (hT':bS P U n' ag') (qW:dt (L.b9 bs).heap x' y'):pB P [.cell a T,.cell u U] L (.aY [y,y']) [] :=
 ⟨[x,x'],[y,y'],(L.b9 bs).heap,[],.cons ⟨b,sz,0,0,_,x,n,ag,h,hb,rfl,rfl,hx,cJ,hT⟩ (.cons ⟨c,sy,0,0,_,x',n',ag',h',hc,rfl,rfl,hx',anF,hT'⟩ .nil),vW bs h0,.cons (.dH hi) (.cons (.dH qW) .nil),abp,rfl,fun k b h=>by simp at h,rfl⟩
section
variable {P:Program} {H:cd} {ρ:Operand->LV} {T E:TypeId}
theorem aM.aOb{o0 o1 o2 o3:Operand}{s0 s1 s2 s3:Nat}{l0 l1 l2 l3:List LV}[u:UN P T (.array 4 E)][t:TI P E 1 false][z:ZI P T (.agg [.v (.slice none 0 0),.v (.slice none 0 0),.v (.slice none 0 0),.v (.slice none 0 0)])]
  (h0:ρ o0=.list s0 l0) (h1:ρ o1=.list s1 l1) (h2:ρ o2=.list s2 l2) (h3:ρ o3=.list s3 l3) :
  aM P H ρ (.build T #[(0,o0),(1,o1),(2,o2),(3,o3)]) (.agg [.list s0 l0,.list s1 l1,.list s2 l2,.list s3 l3]):=by
 have:=aM.yX (H:=H) (ρ:=ρ) (ps:=#[(0,o0),(1,o1),(2,o2),(3,o3)]) (u:=u) (t:=t) (z:=z) (by simp[lay,LV.aq,LV.isAgg]) (by
  intro p hp;simp only[dS,jR,or_false]at hp;rcases hp with rfl|rfl|rfl|rfl
  ·exact⟨_,rfl,by rw[h0];simp[lay,LV.aq,LV.isAgg],by rw[h0];simp,by rw[h0];simp⟩
  ·exact⟨_,rfl,by rw[h1];simp[lay,LV.aq,LV.isAgg],by rw[h1];simp,by rw[h1];simp⟩
  ·exact⟨_,rfl,by rw[h2];simp[lay,LV.aq,LV.isAgg],by rw[h2];simp,by rw[h2];simp⟩
  exact⟨_,rfl,by rw[h3];simp[lay,LV.aq,LV.isAgg],by rw[h3];simp,by rw[h3];simp⟩)
 simpa only[kP,oC,tF,vg,h0,h1,h2,h3]using this
end
theorem amA(po:List aF)(i:Nat):(po.map (·.p)).getD i default=(po.getD i default).p:=by
 rw[bq,bq,jY]
 cases po[i]?<;>rfl
theorem anf(p q:List Rat)(n:Nat)(hn:n<=40)(hp:p.length=n+1)(hq:q.length=n+1)(px:∀x∈p,rl x<=1073741824)(o6:∀x∈q,rl x<=1000000000):an ai 255 [.list 3 (p.map ae),.list 3 (q.map ae)] (.list 3 ((pj (·-·) p q).map ae)):=by
 have hs:∀x∈rz (-1) q,rl x<=1073741824:=fun x hx=>aP (aFs (r:=-1) (R:=1) aG o6 x hx) aj;have:=aNK p q n J J J J J (.inl hp) (aiW hp px) (aiW hq (fun x hx=>aP (o6 x hx) aj)) (aiW (by rw[tE];exact hq) hs);rwa[al4 J,al4 J]at this
def ae6{α:Type}(pr:α->Bool)(l:List α):Int:=if l.any pr then(l.findIdx pr:Nat)else -1
theorem aiE{α:Type}[Inhabited α]{pr:α->Bool}{l:List α}{i:Nat}(hi:i<l.length)(h0:∀j,j<i->pr (l.getD j default)=false)(h:pr (l.getD i default)=true):ae6 pr l=(i:Int):=by
 have hg:∀j (hj:j<l.length),l.getD j default=l[j]:=fun j hj=>by rw[bq,ck hj];rfl
 have e:l.findIdx pr=i:=by
  rw[List.findIdx_eq hi];refine⟨by rw[<-hg i hi];exact h,fun j hj=>?_⟩;rw[<-hg j J];exact h0 j hj
 have ha:l.any pr=true:=List.any_eq_true.2 ⟨l[i],qX hi,by rw[<-hg i hi];exact h⟩;unfold ae6;rw[if_pos ha,e]
theorem aOq{α:Type}[Inhabited α]{pr:α->Bool}{l:List α}(h0:∀j,j<l.length->pr (l.getD j default)=false):ae6 pr l=-1:=by
 have ha:l.any pr=false:=by
  rw[List.any_eq_false];intro x hx;obtain⟨i,hi,rfl⟩:=List.mem_iff_getElem.1 hx;have:=h0 i hi;rw[bq,ck hi]at this;simpa using this
 unfold ae6;rw[if_neg (by rw[ha];decide)]
theorem ak2{α:Type}[Inhabited α]{l:List α}{i:Nat}(h:i<l.length):l.getD i default∈l:=by
 rw[bq,ck h];exact qX h
theorem aBi{a b:Nat}(h:ak a=ak b):a=b:=by rw[<-cL a,h,cL]
section
variable {a b:Rat}
theorem aJ6(h2:decide (ak a.num.natAbs=ak b.num.natAbs)=false):false=decide (a=b):=by
 symm;rw[decide_eq_false_iff_not];rintro rfl;simp at h2
theorem aNQ(h:(decide (a<0)==decide (b<0))=true)(h2:decide (ak a.num.natAbs=ak b.num.natAbs)=true):decide (ak (jX a)=ak (jX b))=decide (a=b):=by
 rw[decide_eq_decide,ali];exact⟨fun h3=>⟨eq_of_beq h,aBi (of_decide_eq_true h2),aBi h3⟩,fun h3=>by rw[h3.2.2]⟩
end
def fP(k:List Rat)(t:Rat):Nat->Nat
 |0=>0
 |i+1=>fP k t i+(if k.getD i 0=t then 1 else 0)
theorem af5(k:List Rat)(t:Rat):∀i,fP k t i<=i
 |0=>bF _
 |i+1=>by have:=af5 k t i;rw[fP];split<;>omega
def cT(k:List Rat):Nat->List Rat
 |0=>[]
 |i+1=>if i=0\/k.getD i 0≠k.getD (i-1) 0 then cT k i++[k.getD i 0]else cT k i
theorem aqO(k:List Rat):∀i,(cT k i).length<=i
 |0=>bF _
 |i+1=>by
  have:=aqO k i;rw[cT];split
  ·simp;omega
  omega
theorem anx(k:List Rat):∀i,i<=k.length->∀x∈cT k i,x∈k
 |0,_,x,h=>by cases h
 |i+1,hi,x,h=>by
  rw[cT]at h;split at h
  ·rcases nC.1 h with h|h
   ·exact anx k i J x h
   rw[List.mem_singleton.1 h];exact dJ J
  exact anx k i J x h
structure kOK (k:List Rat) (d:Nat):Prop where
 d1:1<=d
 d6:d<=6
 len:2*d+2<=k.length
 max:k.length<=d+41
 srt:∀i,i+1<k.length->k.getD i 0<=k.getD (i+1) 0
 ne:k.getD 0 0≠k.getD (k.length-1) 0
 aL5:∀t∈k,(t=k.getD 0 0\/t=k.getD (k.length-1) 0)->fP k t k.length=d+1
 ink:∀t∈k,t≠k.getD 0 0->t≠k.getD (k.length-1) 0->fP k t k.length<=d
 sz:∀x∈k,rl x<=64
theorem alj{k:List Rat}:∀i,i<=k.length->(∀j,1<=j->j<i->k.getD j 0≠k.getD (j-1) 0)->cT k i=k.take i
 |0,_,_=>rfl
 |i+1,hi,h=>by
  rw[cT,alj i J (fun j h1 h2=>h j h1 J),if_pos (by
   by_cases e:i=0
   ·exact .inl e
   exact .inr (h i J J)),te,bq,ck J];rfl
theorem amj{k:List Rat}{i:Nat}(h0:0<i)(h:k.getD i 0≠k.getD (i-1) 0):cT k (i+1)=cT k i++[k.getD i 0]:=by rw[cT,if_pos (.inr h)]
theorem afC{k:List Rat}{i:Nat}(h0:0<i)(h:k.getD i 0=k.getD (i-1) 0):cT k (i+1)=cT k i:=by rw[cT,if_neg (fun e=>e.elim (fun e=>by omega) (fun e=>e h))]
theorem aDu{w:List Rat}{m n:Nat}(hm:m<=n)(hw:w.length=n):(w.map ae).take m++av (n-m) (ae 0)++(w.map ae).drop (m+(n-m))=(w.take m++av (n-m) 0).map ae:=by
 rw[List.drop_of_length_le aQ];simp[va]
theorem adR{l:List Rat}{k:Nat}(h:k<l.length):l.take k++[l.getD k 0]=l.take (k+1):=by
 rw[te,ck h,bq,ck h];rfl
theorem aNP{α:Type}{e:α->LV}{ag:Bool}{bs:List Nat}{L:St}{b sz len:Nat}{l m:List α}{t:Bool}(he:jF e sz ag)(hb:L.heap b=some ⟨sz,(l++m).map e,t⟩)(uj:bs.contains b=true)(hl:len=l.length):dt (L.b9 bs).heap (.ref b sz 0 len) (.list sz (l.map e)):=by
 have:=abG (off:=0) (len:=len) hb uj (bm he _) aQ;subst hl;rwa[jv,<-va,List.take_left]at this
open H0 in
theorem aby(a b:Rat)(h:rl a+rl b<=1099511627776):an ai 146 [ae a,ae b] (bL (decide (a=b))):=by
 have a1:=nH a;have a3:=oJ a;have c1:=nH b;have c3:=oJ b;refine aL Tryz.func146 ?_;refine iR ?_;refine dU 10 rfl ?_ ?_<;>intro nj pC
 ·refine aK ?_;refine cp aC (ajK _ _ J J) ?_;refine bc ?_;refine dU 17 rfl ?_ ?_<;>intro adz zR
  ·refine aK ?_;refine cp aC (ajK _ _ J J) ?_;refine aW ?_;rw[<-aNQ nj adz];exact ee
  refine b7 ?_;rw[<-aJ6 adz];exact ee
 refine nh ?_;rw[<-aBo nj];exact ee
namespace aC0
theorem aJ{p q:Prop}(k:q)(e:p=q:=by simp only[bD,bo,bp,bh,cg,jV,yg,dD,du,dC,reduceIte,if_true,if_false,dW,LV.kill,bC];exact rfl):p:=e.mpr k
end aC0
open aC0 in
theorem aIr(f:Nat)(k:List Rat)(h0:0<k.length)(hl:k.length<=1048576)(hs:∀i,i+1<k.length->k.getD i 0<=k.getD (i+1) 0)(hf:∀x∈k,∀y∈k,an ai f [ae x,ae y] (iL (fY x y))):an ai 230 [.list 3 (k.map ae),.dT f []] (bL true):=by
 refine aL Tryz.func230 ?_;have jV:True:=trivial;have yg:True:=trivial;refine b7 ?_;refine jc ?_;refine aK ?_;refine dy (fun(i:Nat) L=>(mS L [] [(5,ah i),(1,.dT f []),(0,.list 3 (k.map ae))])) (fun i=>i<k.length) (fun i=>i) (k.length-1) J ?_;rintro i L1 hi;refine bK ?_;refine aD rfl ?_ ?_<;>intro nj pC
 ·have cM:0<i:=J;have jV:((i:Int)-1).toNat=i-1:=J;have yg:((i:Int)).toNat=i:=J;have hc:=hf _ (dJ (p:=k) (i:=i) hi) _ (dJ (p:=k) (i:=i-1) J);have mr:=hs (i-1) J;rw[Nat.sub_add_cancel J]at mr;have hcg:0<=fY (k.getD i 0) (k.getD (i-1) 0):=xx.2 mr;refine dj ?_;refine jc ?_;refine bc ?_;refine qk [] rfl rfl (.dT (f:=f) (cap:=[]) (args:=[ae (k.getD i 0),ae (k.getD (i-1) 0)]) rfl (.cons eu (.cons eu .nil)) ⟨rfl,fun _ h=>by cases h⟩ hc.1 aj (fun _ h=>by cases h)) (hc.2 _) ?_;refine bI ?_;refine aD rfl ?_ ?_<;>intro um rT
  ·omega
  refine aW ?_;refine jc ?_;refine bI ?_;exact ji (i-1) J
 refine bN ?_;exact iB
namespace aqF
theorem aJ{p q:Prop}(k:q)(e:p=q:=by simp only[bD,bo,bp,bh,cg,dD,du,dC,reduceIte,if_true,if_false,dW,LV.kill,bC];exact rfl):p:=e.mpr k
end aqF
open aqF in
theorem akR(k:List Rat)(hl:k.length<=1048576)(hr:∀x∈k,rl x<=549755813888)(t:Rat)(ht:rl t<=549755813888):an ai 148 [.list 3 (k.map ae),ae t] (ah (fP k t k.length)):=by
 refine aL Tryz.func148 ?_;refine nn ?_;refine dy (fun(i:Nat) L=>(mS L [(3,⟨3,[ae t],true⟩)] [(10,ah i),(9,ah k.length),(8,.list 3 (k.map ae)),(5,ah (fP k t i)),(3,.aB 3 3 0 0)])) (fun i=>i<=k.length) (fun i=>k.length-i) 0 (bW _) ?_;rintro i L1 hi;refine a6 ?_;refine aD rfl ?_ ?_<;>intro adm z5
 ·have cM:i<k.length:=J;have hx:=hr _ (dJ (i:=i) J);have zh:=af5 k t i;refine aN (aby (k.getD i 0) t J) ?_;refine bc ?_;refine aD rfl ?_ ?_<;>intro yY yW
  ·have hT:fP k t (i+1)=fP k t i+1:=by rw[fP,if_pos yW]
   refine bc ?_;refine lG ?_;refine aK ?_;refine vD ?_;refine eP ?_;exact gM
  have hT:fP k t (i+1)=fP k t i:=by rw[fP,if_neg yW];rfl
  refine bI ?_;refine vD ?_;refine eP ?_;exact gM
 obtain rfl:i=k.length:=J;refine bG ?_;exact iB
namespace avK
theorem aJ{p q:Prop}(k:q)(e:p=q:=by simp only[bD,bo,bp,bh,cg,jV,yg,eik,eia,zZ,eyl,ewa,ewb,Nat.zero_add,Nat.add_zero,lQ,cC,dD,du,dC,reduceIte,if_true,if_false,dW,LV.kill,bC];exact rfl):p:=e.mpr k
end avK
open avK in
theorem aKJ(f:Nat)(l:List Rat)(h0:0<l.length)(hl:l.length<=1048576)(hf:∀x∈l,∀y∈l,an ai f [ae x,ae y] (bL (decide (x=y)))):pe ai 144 ⟨3,l.map ae,true⟩ [.ref 0 3 0 l.length,.dT f []] (.ref 0 3 0 (cT l l.length).length) ⟨3,((cT l l.length)++av (l.length-(cT l l.length).length) 0).map ae,true⟩:=by
 refine fnM Tryz.func144 ?_;have jV:True:=trivial;have yg:True:=trivial;have eik:True:=trivial;have eia:True:=trivial;have zZ:True:=trivial;have eyl:True:=trivial;have ewa:True:=trivial;have ewb:True:=trivial;refine dj ?_;refine aD rfl ?_ ?_<;>intro nj pC
 ·obtain aP4:l.length=1:=J;have hE:(cT l l.length)=l:=by rw[alj _ (bF _) (fun j h1 h2=>by omega),py]
  refine bH ?_
  first|(rw[hE,uz,aeI,ey];exact yD rfl .ref rfl rfl (bm ao _))|(exact yD rfl .ref (by first|rfl|(simp;done)) rfl (bm ao _))
 refine bM ?_;refine dy (fun(i:Nat) L=>(mS L [(0,⟨3,l.map ae,true⟩)] [(5,ah i),(1,.dT f []),(0,.ref 0 3 0 l.length)])) (fun i=>1<=i/\i<=l.length/\∀j,1<=j->j<i->l.getD j 0≠l.getD (j-1) 0) (fun i=>l.length-i) 1 ⟨bF _,J,fun j h1 h2=>by omega⟩ ?_;rintro i L1 ⟨sC,hil,aZ⟩;refine bM ?_;refine aD rfl ?_ ?_<;>intro rB n9
 ·have cM:i<l.length:=J;have jV:((i:Int)-1).toNat=i-1:=J;have yg:((i:Int)).toNat=i:=J;have hc:=hf _ (dJ (p:=l) (i:=i) cM) _ (dJ (p:=l) (i:=i-1) J);refine dj ?_;refine jc ?_;refine bc ?_
  try simp only[t1,cg,jV,yg,fZ]
  refine qk [] rfl rfl (.dT (f:=f) (cap:=[]) (args:=[ae (l.getD i 0),ae (l.getD (i-1) 0)]) rfl (.cons eu (.cons eu .nil)) ⟨rfl,fun _ h=>by cases h⟩ hc.1 aj (fun _ h=>by cases h)) (hc.2 _) ?_;refine bc ?_;refine aD rfl ?_ ?_<;>intro aa1 tX
  ·have hdi:cT l (i+1)=cT l i:=afC J tX;have kX:cT l i=l.take i:=alj i hil aZ;have hln:(l.take i).length=i:=aab;have ef:1<=1/\i+1<=l.length/\l.length=l.length/\(cT l (i+1)).length+1<=i+1/\l.take (cT l (i+1)).length=cT l (i+1)/\∀x,i+1-1<=x->l.getD x 0=l.getD x 0:=⟨bF _,J,rfl,by rw[hdi,kX,hln];omega,by rw[hdi,kX,hln],fun _ _=>rfl⟩;have eia:(cT l (i+1)).length=i:=by rw[hdi,kX,hln]
   refine aK ?_;refine al rfl (.zg (a:=i) (h:=l.length) rfl dp cS (fun y hy=>by cases hy;exact⟨_,rfl⟩) (fun h=>by cases h) (fun y hy=>by cases hy) (fun _=>rfl) om om om) ?_;refine b7 ?_;refine kR (fun(j:Nat) (w:List Rat) L=>(mS L [(0,⟨3,w.map ae,true⟩)] [(7,ah j),(6,.ref 0 3 i (l.length-i)),(5,ah (cT l (i+j)).length),(1,.dT f []),(0,.ref 0 3 0 l.length)])) (fun j w=>1<=j/\i+j<=l.length/\w.length=l.length/\(cT l (i+j)).length+1<=i+j/\w.take (cT l (i+j)).length=(cT l (i+j))/\∀x,i+j-1<=x->w.getD x 0=l.getD x 0) (fun j w=>l.length-(i+j)) 1 l ef ?_;rintro j w L2 ⟨hj1,ud,gL,mi,ij,hwx⟩;refine bM ?_;refine aD rfl ?_ ?_<;>intro aay h35
   ·have hi3:i+j<l.length:=J;have ewa:w.getD (i+j) 0=l.getD (i+j) 0:=hwx _ J;have ewb:w.getD (i+(j-1)) 0=l.getD (i+j-1) 0:=by rw[show i+(j-1)=i+j-1 by omega];exact hwx _ J
    have eik:((j:Int)-1).toNat=j-1:=J;have hc:=hf _ (dJ (p:=l) (i:=i+j) hi3) _ (dJ (p:=l) (i:=i+j-1) J);have hd2:(cT l (i+j)).length<l.length:=J;refine dj ?_;refine jc ?_;refine bc ?_
    try simp only[t1,cg,eik,ewa,ewb]
    refine qk [] rfl rfl (.dT (f:=f) (cap:=[]) (args:=[ae (l.getD (i+j) 0),ae (l.getD (i+j-1) 0)]) rfl (.cons eu (.cons eu .nil)) ⟨rfl,fun _ h=>by cases h⟩ hc.1 aj (fun _ h=>by cases h)) (hc.2 _) ?_;refine bI ?_;refine aD rfl ?_ ?_<;>intro aeA h49
    ·have hy:=amj (k:=l) (i:=i+j) J h49;have eyl:(cT l (i+(j+1))).length=(cT l (i+j)).length+1:=by rw[<-vp,hy];simp
     have hyl:(cT l (i+j+1)).length=(cT l (i+j)).length+1:=by rw[hy];simp
     have hnA:1<=j+1/\i+(j+1)<=l.length/\(w.set (cT l (i+j)).length (l.getD (i+j) 0)).length=l.length/\(cT l (i+(j+1))).length+1<=i+(j+1)/\(w.set (cT l (i+j)).length (l.getD (i+j) 0)).take (cT l (i+(j+1))).length=cT l (i+(j+1))/\∀x,i+(j+1)-1<=x->(w.set (cT l (i+j)).length (l.getD (i+j) 0)).getD x 0=l.getD x 0:=⟨J,J,by simp[gL],by rw[<-vp,hyl];omega,by rw[<-vp,hyl,hy,te,List.take_set_of_le (bF _),ij,List.getElem?_set_self J];rfl,fun x hx=>by rw[vz _ _ _ _ J,if_neg J];exact hwx x J⟩;refine bM ?_
     try simp only[t1,cg,ewa,fZ]
     refine aW ?_;refine lG ?_;refine a6 ?_;refine eP ?_;exact ja (j+1) (w.set (cT l (i+j)).length (l.getD (i+j) 0)) hnA
    have hy:=afC (k:=l) (i:=i+j) J h49;have eyl:(cT l (i+(j+1))).length=(cT l (i+j)).length:=by rw[<-vp,hy]
    have hnB:1<=j+1/\i+(j+1)<=l.length/\w.length=l.length/\(cT l (i+(j+1))).length+1<=i+(j+1)/\w.take (cT l (i+(j+1))).length=cT l (i+(j+1))/\∀x,i+(j+1)-1<=x->w.getD x 0=l.getD x 0:=⟨J,J,gL,by rw[<-vp,hy];omega,by rw[<-vp,hy];exact ij,fun x hx=>hwx x J⟩;refine aW ?_;refine eP ?_;exact ja (j+1) w hnB
   obtain rfl:j=l.length-i:=J;have eia:i+(l.length-i)=l.length:=J;have ir:=mi;rw[eia]at mi ij;have zZ:=aDu (w:=w) (m:=(cT l l.length).length) (n:=l.length) J gL;rw[ij]at zZ;refine bM ?_;refine al rfl (.zg (a:=(cT l (i+(l.length-i))).length) (h:=l.length) rfl dp cS (fun y hy=>by cases hy;exact⟨_,rfl⟩) (fun h=>by cases h) (fun y hy=>by cases hy) (fun _=>rfl) om om om) ?_;refine cj rfl (.clr (n:=l.length-(cT l (i+(l.length-i))).length) (off:=0+(cT l (i+(l.length-i))).length) (z:=ae 0) (blk:=⟨3,w.map ae,true⟩) rfl rfl rfl rfl fW dp (kZ▸jg) (ao.aq 0)) ?_;refine a6 ?_;refine al rfl (.ahJ rfl dp cS rfl om om) ?_;refine bM ?_
   first|(rw[hE,uz,aeI,ey];exact yD rfl .ref rfl rfl (bm ao _))|(exact yD rfl .ref (by first|rfl|(simp;done)) rfl (bm ao _))
  have hnx:∀j,1<=j->j<i+1->l.getD j 0≠l.getD (j-1) 0:=fun j h1 h2=>by
   rcases Nat.lt_succ_iff_lt_or_eq.1 h2 with e|rfl
   ·exact aZ j h1 e
   exact tX
  refine aW ?_;refine eP ?_;exact ji (i+1) ⟨J,J,hnx⟩
 obtain rfl:i=l.length:=J;have hE:(cT l l.length)=l:=by rw[alj _ (bF _) aZ,py]
 refine bG ?_
 first|(rw[hE,uz,aeI,ey];exact yD rfl .ref rfl rfl (bm ao _))|(exact yD rfl .ref (by first|rfl|(simp;done)) rfl (bm ao _))
namespace aqy
theorem aJ{p q:Prop}(k:q)(e:p=q:=by simp only[bD,bo,bp,bh,cg,Rat.add_zero,fg,fw,Nat.zero_add,jt,dR,fX,fD,gy,gU,ey,dD,du,dC,reduceIte,if_true,if_false,dW,LV.kill,bC];exact rfl):p:=e.mpr k
end aqy
open aqy in
theorem atJ(p:List Rat)(hl:p.length<=1048576)(kI:∀x∈p,rl x<=274877906944):mW ai 145 [.list 3 (p.map ae)] (.ref 1 3 0 p.length) [⟨3,p.map ae,true⟩]:=by
 refine zi Tryz.func145 ?_;have fg:True:=trivial;have fw:True:=trivial;refine asb ?_;rintro k L1 hk;refine a6 ?_;refine aD rfl ?_ ?_<;>intro acI h12
 ·have kK:k<p.length:=J;have hrk:=kI _ (dJ kK);have hA:=lf (p.getD k 0) 0 (by rw[show rl 0=1 from rfl];omega);rw[oc]at hA;have fg:=adR (l:=p) kK;have fw:((p.take k).map ae).take k=(p.take k).map ae:=cy wB;refine iR ?_;refine pg ?_;refine cp aC (hA) ?_;refine bn ?_;refine cj rfl awf ?_;refine aK ?_;refine cO ((au.kill _ 5).trans (au.kill _ 19)) ?_;refine eP ?_;exact ji (k+1) J
 obtain rfl:k=p.length:=J;have hE:p.take p.length=p:=py;refine bG ?_;rw[hE];exact age rfl rfl (bm ao _)
namespace fc
theorem aJ{p q:Prop}(k:q)(e:p=q:=by simp only[bD,bo,bp,bh,dD,du,dC,reduceIte,if_true,if_false,dW,LV.kill,bC];exact rfl):p:=e.mpr k
end fc
open fc in
theorem ayD(k:List Rat)(h0:0<k.length)(hl:k.length<=1048576)(hr:∀x∈k,rl x<=274877906944):an ai 67 [.list 3 (k.map ae)] (.list 3 ((cT k k.length).map ae)):=by
 refine aL Tryz.func67 ?_;refine bH ?_;refine wU [] rfl rfl (.cons (.pure (eY ao _ _)) .nil) (atJ k hl hr) (bm ao _) rfl ?_;refine aaj 1000065 rfl rfl rfl (bm ao _) (.cons .ref (.cons (.dH (.pure rfl)) .nil)) (.ref h0) (aKJ 146 k h0 hl (fun x hx y hy=>aby x y (by have:=hr x hx;have:=hr y hy;omega))) rfl (bm ao _) ?_;refine aK ?_;exact lZ [1000065] rfl rfl (aNP ao rfl rfl rfl)
open H0 in
theorem amN(k:List Rat)(d:Nat)(h:d+1<=k.length)(hl:k.length<=1048576):an ai 142 [.list 3 (k.map ae),ah d] (ah (k.length-d-1)):=by
 refine aL Tryz.func142 ?_;refine b7 ?_;refine al rfl vX ?_;refine al rfl vX ?_;refine aK ?_;refine eG ?_ (.pure rfl);simp only[e1,e2,e3,e4,p1,p2,p3,q1,q2,q3,bh];congr 2;omega
namespace ava
theorem aJ{p q:Prop}(k:q)(e:p=q:=by simp only[bD,bo,bp,bh,cg,rL,dD,du,dC,reduceIte,if_true,if_false,dW,LV.kill,bC];exact rfl):p:=e.mpr k
end ava
open ava in
theorem aJe(k:List Rat)(d:Nat)(h:kOK k d):an ai 141 [.list 3 (k.map ae),ah d] (iL 0):=by
 have iG:=h.d1;have hd6:=h.d6;have hlen:=h.len;have aQD:=h.max;have hr:∀x∈k,rl x<=274877906944:=fun x hx=>aP (h.sz x hx) aj;have rL:((k.length:Int)-1).toNat=k.length-1:=J;have tY:=h.sz _ (dJ (p:=k) (i:=0) J);have fR:=h.sz _ (dJ (p:=k) (i:=k.length-1) J);have hS:an ai 230 [.list 3 (k.map ae),.dT 75 []] (bL true):=aIr 75 k J J h.srt (fun x hx y hy=>pS x y (by have:=h.sz x hx;have:=h.sz y hy;omega));refine aL Tryz.func141 ?_;refine bN ?_;refine al rfl vX ?_;refine al rfl vX ?_;refine bM ?_;refine dU 18 rfl ?_ ?_<;>intro re pR
 ·omega
 refine a6 ?_;refine aD rfl ?_ ?_<;>intro rB n9
 ·omega
 refine aW ?_;refine al rfl (.bin rfl rfl (ahM J J)) ?_;refine al rfl acz ?_;refine aK ?_;refine aD rfl ?_ ?_<;>intro ae1 h22
 ·omega
 refine bK ?_;refine aD rfl ?_ ?_<;>intro adu h29
 ·omega
 refine aN (hS) ?_;refine bH ?_;refine al (ib (v:=false) rfl rfl (rfl) rfl) (.bin rfl rfl (ab1 J J)) ?_;refine bc ?_
 try simp only[t1,cg,rL]
 refine cp aC (aby (k.getD 0 0) (k.getD (k.length-1) 0) J) ?_;refine bI ?_;refine rA (b:=_) rfl (decide_eq_false h.ne) ?_;refine bf (ayD k J J hr) ?_;refine aW ?_;refine dy (fun(i:Nat) L=>(mS L [] [(50,ah i),(49,ah (cT k k.length).length),(48,.list 3 ((cT k k.length).map ae)),(1,ah d),(0,.list 3 (k.map ae))])) (fun i=>i<=(cT k k.length).length) (fun i=>(cT k k.length).length-i) 0 (bW _) ?_;rintro i L1 hi;refine a6 ?_;refine aD rfl ?_ ?_<;>intro aMg h51
 ·have mi:=aqO k k.length;have cM:i<(cT k k.length).length:=J;have hm:=anx k k.length (bF _) _ (dJ cM);have hrt:=h.sz _ hm;have he1:=h.aL5 _ hm;have he2:=h.ink _ hm;refine aN (akR k J (fun x hx=>aP (hr x hx) aj) ((cT k k.length).getD i 0) J) ?_;refine aN (aby ((cT k k.length).getD i 0) (k.getD 0 0) J) ?_;refine bn ?_;refine dU 62 rfl ?_ ?_<;>intro atc h62
  ·refine bK ?_
   try simp only[t1,cg,rL]
   refine bN ?_;refine al aqk (.bin rfl rfl (w6 J J)) ?_;refine bI ?_;refine dU 79 rfl ?_ ?_<;>intro arC h79
   ·have:=he1 (by first|exact .inl h62|exact .inr h73);omega
   refine bI ?_;refine xn aga ?_;refine xn aga ?_;refine xn aga ?_;refine al (ib (v:=false) rfl rfl (arC) rfl) (.r7 rfl (ahn)) ?_;refine bK ?_;refine vD ?_;refine eP ?_;exact gM
  refine aK ?_;refine al (ib (v:=false) rfl rfl (atc) rfl) (.bin rfl rfl (ab1 J J)) ?_;refine bc ?_
  try simp only[t1,cg,rL]
  refine cp aC (aby ((cT k k.length).getD i 0) (k.getD (k.length-1) 0) J) ?_;refine bH ?_;refine dU 73 rfl ?_ ?_<;>intro azm h73
  ·refine bc ?_;refine al (ib (v:=true) rfl rfl (azm) rfl) (.bin rfl rfl (w6 J J)) ?_;refine bI ?_;refine dU 79 rfl ?_ ?_<;>intro arC h79
   ·have:=he1 (by first|exact .inl h62|exact .inr h73);omega
   refine bI ?_;refine xn aga ?_;refine xn aga ?_;refine xn aga ?_;refine al (ib (v:=false) rfl rfl (arC) rfl) (.r7 rfl (ahn)) ?_;refine bK ?_;refine vD ?_;refine eP ?_;exact gM
  refine bM ?_;refine al ao6 (.move _) ?_;refine al ao6 (.move _) ?_;refine al ao6 (.bin rfl rfl rfl) ?_;refine al (ib (v:=false) rfl rfl (rfl) rfl) (.sR rfl (ahn)) ?_;refine bI ?_;refine aD rfl ?_ ?_<;>intro aQx h87
  ·have:=he2 h62 h73;omega
  refine bI ?_;refine vD ?_;refine eP ?_;exact gM
 refine bN ?_;exact iB
def jZ(s:Rat×Rat):Rat×Rat:=if ks s 0=true then(0,fN (s.1*s.1) (s.2*s.2))else(gg (s.1*s.1) (s.2*s.2),fN (s.1*s.1) (s.2*s.2))
def yU(a b:Rat×Rat):Rat×Rat:=mz (mz (mz (a.1*b.1,a.1*b.1) (a.1*b.2,a.1*b.2)) (a.2*b.1,a.2*b.1)) (a.2*b.2,a.2*b.2)
def rcS(b:Rat×Rat):Rat×Rat:=(gg (1/b.1) (1/b.2),fN (1/b.1) (1/b.2))
def p6(a b:Rat×Rat):Rat×Rat:=yU a (rcS b)
def cW(R:Nat)(s:Rat×Rat):Prop:=rl s.1<=R/\rl s.2<=R
theorem cW.le{R S:Nat}{s:Rat×Rat}(h:cW R s)(k:R<=S):cW S s:=⟨aP h.1 k,aP h.2 k⟩
theorem aqV{a b:Rat}{R:Nat}(ha:rl a<=R)(hb:rl b<=R):rl (gg a b)<=R:=by unfold gg;split<;>assumption
theorem amo{a b:Rat}{R:Nat}(ha:rl a<=R)(hb:rl b<=R):rl (fN a b)<=R:=by unfold fN;split<;>assumption
theorem adl{R:Nat}{s t:Rat×Rat}(hs:cW R s)(ht:cW R t):cW R (mz s t):=⟨aqV hs.1 ht.1,amo hs.2 ht.2⟩
theorem adY{R S:Nat}{a b:Rat×Rat}(ha:cW R a)(hb:cW S b):cW (R+S) (yU a b):=by
 obtain⟨a1,a2⟩:=ha;obtain⟨b1,b2⟩:=hb;have h:∀x y:Rat,rl x<=R->rl y<=S->cW (R+S) (x*y,x*y):=fun x y hx hy=>by
  have:=cF x y;exact⟨by show rl (x*y)<=_;omega,by show rl (x*y)<=_;omega⟩
 exact adl (adl (adl (h _ _ a1 b1) (h _ _ a1 b2)) (h _ _ a2 b1)) (h _ _ a2 b2)
theorem aqj{R:Nat}{b:Rat×Rat}(hb:cW R b):cW (R+1) (rcS b):=by
 have h:∀x:Rat,rl x<=R->rl (1/x)<=R+1:=fun x hx=>by
  have:=pv 1 x;have:rl 1=1:=rfl;omega
 exact⟨aqV (h _ hb.1) (h _ hb.2),amo (h _ hb.1) (h _ hb.2)⟩
theorem axu{R S:Nat}{a b:Rat×Rat}(ha:cW R a)(hb:cW S b):cW (R+(S+1)) (p6 a b):=adY ha (aqj hb)
theorem aJF{R:Nat}{s:Rat×Rat}(hs:cW R s)(hR:1<=R):cW (2*R) (jZ s):=by
 have h1:=cF s.1 s.1;have h2:=cF s.2 s.2;have h3:=hs.1;have h4:=hs.2;have h0:rl 0=1:=rfl;unfold jZ;split
 ·exact⟨by show rl 0<=_;omega,amo J J⟩
 exact⟨aqV J J,amo J J⟩
structure _root_.Go.Lg.ny where
 x:Rat×Rat
 y:Rat×Rat
 z:Rat×Rat
abbrev iq(b:ny):LV:=.agg [ar b.x,ar b.y,ar b.z]
theorem ui:jF iq 18 true:=by
 refine⟨fun b=>?_,fun b=>rfl,fun b=>?_⟩
 ·simp[iq,LV.aq,dg,bj.aq]
 simp[iq,LV.pure,aO,bj.pure]
def lL(R:Nat)(b:ny):Prop:=cW R b.x/\cW R b.y/\cW R b.z
open fc in
theorem arq(a b:Rat×Rat)(R:Nat)(hR:R<=1000000000)(ha:cW R a)(hb:cW R b):an ai 178 [ar a,ar b] (ar (yU a b)):=by
 obtain⟨a1,a2⟩:=ha;obtain⟨y1,y2⟩:=hb;have m11:=cF a.1 b.1;have m12:=cF a.1 b.2;have m21:=cF a.2 b.1;have m22:=cF a.2 b.2;have hP:∀x:Rat,rl x<=2*R->cW (2*R) (x,x):=fun x hx=>⟨hx,hx⟩;have c0:=hP (a.1*b.1) J;have c1:=adl c0 (hP (a.1*b.2) J);have c2:=adl c1 (hP (a.2*b.1) J);obtain⟨d1,d2⟩:=c1;obtain⟨f1,f2⟩:=c2;refine aL Tryz.func178 ?_;refine aN (jE a.1 b.1 J) ?_;refine cp cr (vn (a.1*b.1) J) ?_;refine avd ?_;refine gH ?_;refine aN (jE a.1 b.2 J) ?_;refine cp cr (vn (a.1*b.2) J) ?_;refine cp aC (yT ((a.1*b.1),(a.1*b.1)) ((a.1*b.2),(a.1*b.2)) (by show rl (a.1*b.1)+rl (a.1*b.2)<=_;omega) (by show rl (a.1*b.1)+rl (a.1*b.2)<=_;omega)) ?_;refine aK ?_;refine vD ?_;refine nR ?_;refine aN (jE a.2 b.1 J) ?_;refine cp cr (vn (a.2*b.1) J) ?_;refine cp aC (yT (mz ((a.1*b.1),(a.1*b.1)) ((a.1*b.2),(a.1*b.2))) ((a.2*b.1),(a.2*b.1)) (by show _+rl (a.2*b.1)<=_;omega) (by show _+rl (a.2*b.1)<=_;omega)) ?_;refine aK ?_;refine vD ?_;refine nR ?_;refine aN (jE a.2 b.2 J) ?_;refine cp cr (vn (a.2*b.2) J) ?_
 refine cp aC (yT (mz (mz ((a.1*b.1),(a.1*b.1)) ((a.1*b.2),(a.1*b.2))) ((a.2*b.1),(a.2*b.1))) ((a.2*b.2),(a.2*b.2)) (by show _+rl (a.2*b.2)<=_;omega) (by show _+rl (a.2*b.2)<=_;omega)) ?_;refine aK ?_;refine vD ?_;refine aK ?_;refine pa ?_;refine bG ?_;exact mL
open fc in
theorem af4(a b:Rat×Rat)(R:Nat)(hR:R<=1000000000)(ha:cW R a)(hb:cW R b):an ai 212 [ar a,ar b] (ar (yU a b)):=by
 obtain⟨a1,a2⟩:=ha;obtain⟨y1,y2⟩:=hb;have m11:=cF a.1 b.1;have m12:=cF a.1 b.2;have m21:=cF a.2 b.1;have m22:=cF a.2 b.2;have hP:∀x:Rat,rl x<=2*R->cW (2*R) (x,x):=fun x hx=>⟨hx,hx⟩;have c0:=hP (a.1*b.1) J;have c1:=adl c0 (hP (a.1*b.2) J);have c2:=adl c1 (hP (a.2*b.1) J);obtain⟨d1,d2⟩:=c1;obtain⟨f1,f2⟩:=c2;refine aL Tryz.func212 ?_;refine aN (iY a.1 b.1 J) ?_;refine cp cr (uB (a.1*b.1)) ?_;refine aN (iY a.1 b.2 J) ?_;refine cp cr (uB (a.1*b.2)) ?_;refine cp aC (acF ((a.1*b.1),(a.1*b.1)) ((a.1*b.2),(a.1*b.2)) (by show rl (a.1*b.1)+rl (a.1*b.2)<=_;omega) (by show rl (a.1*b.1)+rl (a.1*b.2)<=_;omega)) ?_;refine aN (iY a.2 b.1 J) ?_;refine cp cr (uB (a.2*b.1)) ?_;refine cp aC (acF (mz ((a.1*b.1),(a.1*b.1)) ((a.1*b.2),(a.1*b.2))) ((a.2*b.1),(a.2*b.1)) (by show _+rl (a.2*b.1)<=_;omega) (by show _+rl (a.2*b.1)<=_;omega)) ?_;refine aN (iY a.2 b.2 J) ?_;refine cp cr (uB (a.2*b.2)) ?_;refine cp aC (acF (mz (mz ((a.1*b.1),(a.1*b.1)) ((a.1*b.2),(a.1*b.2))) ((a.2*b.1),(a.2*b.1))) ((a.2*b.2),(a.2*b.2)) (by show _+rl (a.2*b.2)<=_;omega) (by show _+rl (a.2*b.2)<=_;omega)) ?_;refine aK ?_;exact mL
open H0 in
theorem asq(a b:Rat)(h:rl a+rl b<=34359738368):an ai 256 [ae a,ae b] (ar (gg a b,fN a b)):=by
 refine aL Tryz.func256 ?_;refine aN (alI a b J) ?_;refine aN (alp a b J) ?_;refine aW ?_;exact mL
open H0 in
theorem alZ(s:Rat×Rat)(x:Rat)(h1:rl s.1+rl x<=549755813888)(h2:rl x+rl s.2<=549755813888):an ai 86 [ar s,ae x] (bL (ks s x)):=by
 refine aL Tryz.func86 ?_;refine bG ?_;refine cp aC (pS _ _ J) ?_;refine bc ?_;refine dU 10 rfl ?_ ?_<;>intro nj pC
 ·refine bI ?_;refine cp aC (pS _ _ J) ?_;refine a6 ?_;rw[<-auy nj];exact ee
 refine b7 ?_;rw[<-aB7 nj];exact ee
open fc in
theorem aPA(s:Rat×Rat)(R:Nat)(hR:R<=1000000000)(ha:cW R s):an ai 173 [ar s] (ar (jZ s)):=by
 obtain⟨a1,a2⟩:=ha;have m1:=cF s.1 s.1;have m2:=cF s.2 s.2;have h0:rl 0=1:=rfl;refine aL Tryz.func173 ?_;refine aN (jE s.1 s.1 J) ?_;refine aN (jE s.2 s.2 J) ?_;refine cp aC (ad4 (s.1*s.1) (s.2*s.2) J) ?_;refine bH ?_;refine pg ?_;refine cp aC (alZ s 0 J J) ?_;refine bc ?_;refine aD rfl ?_ ?_<;>intro adz zR
 ·have hS:jZ s=(0,fN (s.1*s.1) (s.2*s.2)):=if_pos zR;refine bn ?_;refine pg ?_;refine bN ?_;rw[hS];exact mL
 have hS:jZ s=(gg (s.1*s.1) (s.2*s.2),fN (s.1*s.1) (s.2*s.2)):=if_neg (by rw[zR];decide);refine bM ?_;rw[hS];exact mL
open fc in
theorem aNz(s:Rat×Rat)(R:Nat)(hR:R<=1000000000)(ha:cW R s):an ai 209 [ar s] (ar (jZ s)):=by
 obtain⟨a1,a2⟩:=ha;have m1:=cF s.1 s.1;have m2:=cF s.2 s.2;have h0:rl 0=1:=rfl;refine aL Tryz.func209 ?_;refine aN (iY s.1 s.1 J) ?_;refine aN (iY s.2 s.2 J) ?_;refine cp aC (asq (s.1*s.1) (s.2*s.2) J) ?_;refine bH ?_;refine pg ?_;refine cp aC (afk s 0 J J) ?_;refine bc ?_;refine aD rfl ?_ ?_<;>intro adz zR
 ·have hS:jZ s=(0,fN (s.1*s.1) (s.2*s.2)):=if_pos zR;refine bn ?_;refine pg ?_;refine bN ?_;rw[hS];exact mL
 have hS:jZ s=(gg (s.1*s.1) (s.2*s.2),fN (s.1*s.1) (s.2*s.2)):=if_neg (by rw[zR];decide);refine bM ?_;rw[hS];exact mL
open fc in
theorem afj(a b:Rat×Rat)(R:Nat)(hR:R<=100000000)(ha:cW R a)(hb:cW R b)(hz:ks b 0=false):an ai 176 [ar a,ar b] (.aY [ar (p6 a b),iL 0]):=by
 have ha2:=ha.le (ayy R);have hrc:=aqj hb;obtain⟨y1,y2⟩:=hb;have h0:rl 0=1:=rfl;have fR:rl 1=1:=rfl;have qd1:=pv 1 b.1;have qd2:=pv 1 b.2;have pP:an ai 90 [iL 1] (ae 1):=zV 1 aj aj;have rR:=zp 1 b.1 J;have hq2:=zp 1 b.2 J;refine aL Tryz.func176 (ht:=(iz (bj.pure _) rfl)) ?_;refine bG ?_;refine pg ?_;refine cp aC (alZ b 0 J J) ?_;refine bc ?_;refine aD rfl ?_ ?_<;>intro zu h13
 ·rw[hz]at zu
  cases zu
 refine bf (pP) ?_;refine aN (rR) ?_;refine aN (hq2) ?_;refine aN (ad4 (1/b.1) (1/b.2) J) ?_;refine cp aC (arq a (rcS b) (R+1) J ha2 hrc) ?_;refine aW ?_;exact ae2
open fc in
theorem ara(a b:Rat×Rat)(R:Nat)(hR:R<=100000000)(ha:cW R a)(hb:cW R b)(hz:ks b 0=false):an ai 211 [ar a,ar b] (.aY [ar (p6 a b),iL 0]):=by
 have ha2:=ha.le (ayy R);have hrc:=aqj hb;obtain⟨y1,y2⟩:=hb;have h0:rl 0=1:=rfl;have fR:rl 1=1:=rfl;have qd1:=pv 1 b.1;have qd2:=pv 1 b.2;have pP:an ai 9 [iL 1] (ae 1):=nZ 1 aj aj;refine aL Tryz.func211 (ht:=(iz (bj.pure _) rfl)) ?_;refine bG ?_;refine pg ?_;refine cp aC (afk b 0 J J) ?_;refine bc ?_;refine aD rfl ?_ ?_<;>intro sw h9
 ·rw[hz]at sw
  cases sw
 refine bf (pP) ?_;refine aN (y7 1 b.1 J) ?_;refine aN (y7 1 b.2 J) ?_;refine cp aC (asq (1/b.1) (1/b.2) J) ?_;refine cp aC (af4 a (rcS b) (R+1) J ha2 hrc) ?_;refine aW ?_;exact ae2
def d3V(l:List Int)(k:Nat):V3:=⟨(qg l k).1,(qg l (qg l k).2).1,(qg l (qg l (qg l k).2).2).1⟩
def d3K(l:List Int)(k:Nat):Nat:=(qg l (qg l (qg l k).2).2).2
theorem auG{l:List Int}{k:Nat}(hl:l.length<=500)(hk:k<=500):d3K l k<=500:=agv hl (agv hl (agv hl hk))
def dwV(l:List Int)(k:Nat):Rat:=((1+(gZ l k 3).tmod 3:Int):Rat)
def dpK(l:List Int)(k:Nat):Nat:=cf l (d3K l k)
theorem amU(l:List Int)(k:Nat):1<=1+(gZ l k 3).tmod 3/\1+(gZ l k 3).tmod 3<=3:=by
 have h:=rv (l:=l) (k:=k) (n:=3) aj;rw[Int.tmod_eq_emod_of_nonneg h.1];omega
theorem aMW(l:List Int)(k:Nat):0<dwV l k:=by
 have:=amU l k;exact aaw.2 J
theorem aBO{l:List Int}{k:Nat}(hl:l.length<=500)(hk:k<=500):dpK l k<=500:=pE hl (auG hl hk)
def dqK(l:List Int):Nat->Nat->Nat
 |k,0=>k
 |k,c+1=>dqK l (dpK l k) c
theorem avx{l:List Int}(hl:l.length<=500):∀(k c:Nat),k<=500->dqK l k c<=500
 |k,0,h=>h
 |k,c+1,h=>avx hl _ c (aBO hl h)
def od(l:List Int)(k:Nat):Rat:=((gZ l k 4-2:Int):Rat)
theorem aBy(l:List Int)(k:Nat):rl (od l k)<=1/\rl (od l k+1)<=1:=by
 have h:=rv (l:=l) (k:=k) (n:=4) aj;refine⟨aeu J,?_⟩;have e:od l k+1=((gZ l k 4-1:Int):Rat):=by
  unfold od;rw[show gZ l k 4-1=(gZ l k 4-2)+1 by omega,af6];rfl
 rw[e];exact aeu J
def cD(l:List Int)(k:Nat)(n:Nat):Nat:=(1+gZ l k (n:Int)).toNat
theorem anV(l:List Int)(k:Nat){n:Nat}(hn:0<n):1<=cD l k n/\cD l k n<=n/\(cD l k n:Int)=1+gZ l k (n:Int):=by
 have h:=rv (l:=l) (k:=k) (n:=(n:Int)) J;unfold cD;omega
theorem af2{P:Program}{ops:Array Oper}{D:Array Bool}{L:St}{K:St->Prop}{fuel:Nat}(i j k:Nat)(o o2 o3:Oper)(hr:Region.ready .any ops D=[i,j,k])(ho:ops[i]?=some o)(yc:ops[j]?=some o2)(ho3:ops[k]?=some o3)
  (h:opsL P false ops [o] L (fun L'=>jA P ops fuel (D.setIfInBounds i true) L' K)) (h2:opsL P false ops [o2] L (fun L'=>jA P ops fuel (D.setIfInBounds j true) L' K)) (h3:opsL P false ops [o3] L (fun L'=>jA P ops fuel (D.setIfInBounds k true) L' K)):jA P ops (fuel+1) D L K:=by
 simp only[opsL]at h h2 h3;refine⟨fun e=>(by rw[hr]at e;cases e),fun x hx=>?_⟩;rw[hr]at hx;simp only[dS,jR,or_false]at hx;rcases hx with rfl|rfl|rfl
 ·obtain⟨L',h1,h4⟩:=h;exact⟨o,L',ho,h1,h4⟩
 ·obtain⟨L',h1,h4⟩:=h2;exact⟨o2,L',yc,h1,h4⟩
 obtain⟨L',h1,h4⟩:=h3;exact⟨o3,L',ho3,h1,h4⟩
theorem als{α:Type}(n:Nat)(t:α):av n t++[t]=av (n+1) t:=by
 rw[adx]
section
variable {P:Program} {H:cd} {ρ:Operand->LV} {T:TypeId}
theorem ahz{o0 o1:Operand}{p:V3}{r:Rat}[z:ZI P T (.agg [.agg [ae 0,ae 0,ae 0],ae 0])][s:SI P T [(9,true),(3,true)]](h0:ρ o0=aR p)(h1:ρ o1=ae r):
  aM P H ρ (.build T #[(0,o0),(1,o1)]) (aA ⟨p,r⟩):=by
 have:=aM.bd (H:=H) (ρ:=ρ) (ps:=#[(0,o0),(1,o1)]) (z:=z) (s:=s) (by simp[lay,LV.aq,dg,ao.aq,ao.isAgg,sW]) (by
  intro q hq;simp only[dS,jR,or_false]at hq;rcases hq with rfl|rfl
  ·exact⟨_,rfl,by rw[h0];simp[lay,cu.aq,LV.aq,dg,ao.aq];rfl,by rw[h0];exact LV.fJ (cu.pure _),by rw[h0];exact LV.fh (cu.pure _)⟩
  exact⟨_,rfl,by rw[h1];simp[lay,ao.aq,ao.isAgg],by rw[h1];exact LV.fJ (ao.pure _),by rw[h1];exact LV.fh (ao.pure _)⟩)
 simp only[kP,oC,tF,vg,h0,h1]at this;exact this
end
namespace aog
theorem aJ{p q:Prop}(k:q)(e:p=q:=by simp only[bD,bo,bp,bh,l1,dD,du,dC,reduceIte,if_true,if_false,aeG,aiC,dO ez,dO ao,kT,qV,LV.kill,bC,aiD];exact rfl):p:=e.mpr k
end aog
open aog in
theorem aKX(l:List Int)(k:Nat)(hl:l.length<=500)(hk:k<=500):pe ai 124 ⟨2,[jL l k],true⟩ [.aB 0 2 0 0] (aR (d3V l k)) ⟨2,[jL l (d3K l k)],true⟩:=by
 have k1:=agv (l:=l) hl hk;have k2:=agv (l:=l) hl k1;refine fnM Tryz.func124 ?_;refine bH ?_;refine ub 0 rfl rfl rfl (gC l _) (.cons .ptr .nil) .ptr (anI l k J J) rfl (gC l _) (ao.pure _) ?_;refine bn ?_;refine ub 0 rfl rfl rfl (gC l _) (.cons .ptr .nil) .ptr (anI l (qg l k).2 J J) rfl (gC l _) (ao.pure _) ?_;refine bn ?_;refine ub 0 rfl rfl rfl (gC l _) (.cons .ptr .nil) .ptr (anI l (qg l (qg l k).2).2 J J) rfl (gC l _) (ao.pure _) ?_;refine aW ?_;exact ajr rfl rfl cs (cU cs rfl) jw (.pure pu) rfl rfl (gC l _)
theorem gD1{a b:List Rat}{i:Nat}(h:i<a.length):(a++b).getD i 0=a.getD i 0:=by
 rw[bq,bq,List.getElem?_append_left h]
theorem gD2{a b:List Rat}{i:Nat}(h:a.length<=i):(a++b).getD i 0=b.getD (i-a.length) 0:=by
 rw[bq,bq,List.getElem?_append_right h]
theorem xQ{n i:Nat}{T:Rat}(h:i<n):(av n T).getD i 0=T:=by
 rw[bq,ck mA];simp
theorem asC(a b:List Rat)(t:Rat):∀i,i<=a.length->fP (a++b) t i=fP a t i
 |0,_=>rfl
 |i+1,h=>by rw[fP,fP,asC a b t i J,gD1 J]
theorem aiY(a b:List Rat)(t:Rat):∀i,fP (a++b) t (a.length+i)=fP a t a.length+fP b t i
 |0=>by rw[nW,asC _ _ _ _ (bF _)];rfl
 |i+1=>by
  rw[<-vp,fP,aiY a b t i,fP,gD2 J,Nat.add_sub_cancel_left];omega
theorem ahU(n:Nat)(T t:Rat):∀i,i<=n->fP (av n T) t i=if T=t then i else 0
 |0,_=>by split<;>rfl
 |i+1,h=>by
  rw[fP,ahU n T t i J,xQ J];split<;>rfl
theorem awt{P:Program}{L:St}{a u v:Nat}{T U:TypeId}{b c sz sy:Nat}{x y x' y' z z':LV}{m m':Bool}{n n':Nat}{ag ag':Bool}(bs:List Nat)(h0:bs.contains 0=false)(h:L.slot a=.aB b sz 0 0)(hb:L.heap b=some ⟨sz,[x],m⟩)
  (hx:x.aq=sz) (cJ:x.at 0 n ag=some x) (hT:bS P T n ag) (hi:dt (L.b9 bs).heap x y) (h':L.slot u=.aB c sy 0 0) (hc:L.heap c=some ⟨sy,[x'],m'⟩)
  (hx':x'.aq=sy) (anF:x'.at 0 n' ag'=some x') (hT':bS P U n' ag') (qW:dt (L.b9 bs).heap x' y') (hz:L.slot v=z) (hiz:dt (L.b9 bs).heap z z'):pB P [.cell a T,.cell u U,.tmp v] L (.aY [y,y',z']) [] :=
 ⟨[x,x',z],[y,y',z'],(L.b9 bs).heap,[],.cons ⟨b,sz,0,0,_,x,n,ag,h,hb,rfl,rfl,hx,cJ,hT⟩ (.cons ⟨c,sy,0,0,_,x',n',ag',h',hc,rfl,rfl,hx',anF,hT'⟩ (.cons hz .nil)),vW bs h0,.cons (.dH hi) (.cons (.dH qW) (.cons (.dH hiz) .nil)),abp,rfl,fun k b h=>by simp at h,rfl⟩
theorem acm{p:List Rat}{x:Rat}(hl:p.length<=10)(hp:∀y∈p,rl y<=700000)(hx:rl x<=100000):HS p x:=by
 have h1:=eX 1 x;have h0:rl 1=1:=rfl;refine⟨rl (1-x)+rl x+1,bF _,J,fun y hy=>?_⟩;have h2:=hp y hy;have h3:2^p.length<=2^10:=mN aj hl;have h4:(rl y+(rl (1-x)+rl x+1))*2^p.length<=1000000*2^10:=nP J h3;omega
open H0 in
theorem aoY(s:Rat×Rat)(h:rl s.2+rl s.1<=549755813888):an ai 154 [ar s] (ae (s.2-s.1)):=by
 refine aL Tryz.func154 ?_;refine aN (ue s.2 s.1 h) ?_;refine aK ?_;exact fO
open H0 in
theorem al0(s:Rat×Rat)(h:rl s.2+rl s.1<=34359738368):an ai 202 [ar s] (ae (s.2-s.1)):=by
 refine aL Tryz.func202 ?_;refine aN (og s.2 s.1 h) ?_;refine aK ?_;exact fO
section
variable {P:Program} {H:cd} {ρ:Operand->LV} {T E:TypeId}
theorem bdW{o1:Operand}{r:Rat}[z:ZI P T (.agg [.agg [ae 0,ae 0,ae 0],ae 0])][s:SI P T [(9,true),(3,true)]](h1:ρ o1=ae r):
  aM P H ρ (.build T #[(1,o1)]) (aA ⟨⟨0,0,0⟩,r⟩):=by
 have:=aM.bd (H:=H) (ρ:=ρ) (ps:=#[(1,o1)]) (z:=z) (s:=s) (by simp[lay,LV.aq,dg,ao.aq,ao.isAgg,sW]) (by
  intro q hq;simp only[dS,jR,or_false]at hq;subst hq;exact⟨_,rfl,by rw[h1];simp[lay,ao.aq,ao.isAgg],by rw[h1];exact LV.fJ (ao.pure _),by rw[h1];exact LV.fh (ao.pure _)⟩)
 simp only[kP,oC,tF,vg,h1]at this;exact this
theorem aiP{o0 o1:Operand}{a b:Rat}[u:UN P T (.array 3 E)][t:TI P E 3 true][z:ZI P T (.agg [ae 0,ae 0,ae 0])](h0:ρ o0=ae a)(h1:ρ o1=ae b):aM P H ρ (.build T #[(0,o0),(1,o1)]) (aR ⟨a,b,0⟩):=by
 have:=aM.yX (H:=H) (ρ:=ρ) (ps:=#[(0,o0),(1,o1)]) (u:=u) (t:=t) (z:=z) aei (by
  intro q hq;simp only[dS,jR,or_false]at hq;rcases hq with rfl|rfl
  ·exact alX
  exact⟨_,rfl,by rw[h1];simp[lay,ao.aq,ao.isAgg],by rw[h1];exact LV.fJ (ao.pure _),by rw[h1];exact LV.fh (ao.pure _)⟩)
 simp only[kP,oC,tF,vg,h0,h1]at this;exact this
end
open fc in
theorem aFm:an ai 135 [iL 0] (aR ⟨1,0,0⟩):=by
 have h1:an ai 9 [iL 1] (ae 1):=nZ 1 aj aj;refine aL axn (ht:=(fun r=>LV.db r _ (cu.pure _))) ?_;refine bf (h1) ?_;refine bN ?_;exact vG
open fc in
theorem aEG:an ai 135 [iL 1] (aR ⟨0,1,0⟩):=by
 have h1:an ai 9 [iL 1] (ae 1):=nZ 1 aj aj;refine aL axn (ht:=(fun r=>LV.db r _ (cu.pure _))) ?_;refine bf (h1) ?_;refine bN ?_;exact vG
theorem aGq{P:Program}{H:cd}{ρ:Operand->LV}{T E:TypeId}[u:UN P T (.array 3 E)][t:TI P E 3 true][z:ZI P T (.agg [ae 0,ae 0,ae 0])]:aM P H ρ (.build T #[]) (aR ⟨0,0,0⟩) :=
 aM.yX (H:=H) (ρ:=ρ) (ps:=#[]) (u:=u) (t:=t) (z:=z) aei (fun q hq=>by simp at hq)
theorem aJw{p:List Rat}(h:0<p.length):(fj p).1<=(fj p).2:=by
 have:=(ai9 p p.length).1 0 h;exact ajD this.1 this.2
theorem sq_pos{s:Rat×Rat}(h:0<s.1)(h2:s.1<=s.2):jZ s=(s.1*s.1,s.2*s.2)/\ks (jZ s) 0=false:=by
 have hn:ks s 0=false:=by unfold ks;rw[decide_eq_false ba];rfl
 have hm:s.1*s.1<=s.2*s.2:=ajD (ayT h2 (kL h)) (Rat.mul_le_mul_of_nonneg_right h2 ba);have hp:=zW h h;have e:jZ s=(s.1*s.1,s.2*s.2):=by
  unfold jZ;rw[if_neg (by rw[hn];decide)];unfold gg fN;rw[if_neg ba];split
  ·rfl
  have:s.1*s.1=s.2*s.2:=ba;rw[this]
 refine⟨e,?_⟩;rw[e];unfold ks;rw[decide_eq_false (by show ¬(s.1*s.1<=0);grind)];rfl
def spK(po:List aF)(k:Nat):Rat×Rat:=yU (p6 (fj (eF po k)) (jZ (fj (aS po)))) (1,1)
def spd(po:List aF):ny:=⟨spK po 0,spK po 1,spK po 2⟩
section
variable {po:List aF} {d:Nat} (h:qL po d)
include h
end
def lg(s:Rat×Rat)(n:Int):Rat:=s.1+sg n*(s.2-s.1)
open fc in
theorem awB(s:Rat×Rat)(n:Int)(R:Nat)(hR:R<=1000000)(hs:cW R s)(hn:-9223372036854775808<=n/\n<=9223372036854775807):an ai 18 [ar s,iL n] (ae (lg s n)):=by
 obtain⟨a1,a2⟩:=hs;have hp:=aBC n;have m1:=eX s.2 s.1;have m2:=cF (sg n) (s.2-s.1);refine aL Tryz.func18 ?_;refine bf (aDp n hn) ?_;refine aN (og s.2 s.1 J) ?_;refine cp aC (iY (sg n) (s.2-s.1) J) ?_;refine cp aC (n6 s.1 (sg n*(s.2-s.1)) J) ?_;refine aK ?_;exact fO
def gI(k:List Rat)(at_:Nat)(t:Rat):Nat->Nat->Rat
 |0,i=>if i=at_ then 1 else 0
 |d+1,i=>if at_<i\/i+(d+1)<at_ then 0 else
   (t-k.getD i 0)/(k.getD (i+(d+1)) 0-k.getD i 0)*gI k at_ t d i+(k.getD (i+(d+1)+1) 0-t)/(k.getD (i+(d+1)+1) 0-k.getD (i+1) 0)*gI k at_ t d (i+1)
theorem alP{a b c d:Rat}{R:Nat}(ha:rl a<=R)(hb:rl b<=R)(hc:rl c<=R)(hd:rl d<=R):rl (a-b)<=2*R+1/\rl (c-d)<=2*R+1/\rl ((a-b)/(c-d))<=4*R+2:=by
 have h1:=eX a b;have h2:=eX c d;have h3:=pv (a-b) (c-d);exact⟨J,J,J⟩
theorem ahe{k:List Rat}{at_:Nat}{t:Rat}{R:Nat}(hR:3<=R)(hk:∀x∈k,rl x<=R)(ht:rl t<=R):∀d i,rl (gI k at_ t d i)<=(10*R)*2^d-(8*R+5)
 |0,i=>by
  rw[gI];split
  ·show 1<=_;rw[aeh];omega
  show 1<=_;rw[aeh];omega
 |d+1,i=>by
  have g:∀j,rl (k.getD j 0)<=R:=ix J hk;have a1:=ahe (at_:=at_) hR hk ht d i;have a2:=ahe (at_:=at_) hR hk ht d (i+1);have p1:=(alP ht (g i) (g (i+(d+1))) (g i)).2.2;have p2:=(alP (g (i+(d+1)+1)) ht (g (i+(d+1)+1)) (g (i+1))).2.2;have h2:2^(d+1)=2*2^d:=by rw[kC];omega
  have h1:1<=2^d:=Nat.one_le_two_pow;have hm:(10*R)*2^(d+1)=2*((10*R)*2^d):=by rw[h2];rw[Nat.mul_left_comm]
  have fC:10*R<=(10*R)*2^d:=Nat.le_mul_of_pos_right _ J;rw[gI];split
  ·show 1<=_;rw[hm];omega
  have m1:=cF ((t-k.getD i 0)/(k.getD (i+(d+1)) 0-k.getD i 0)) (gI k at_ t d i);have m2:=cF ((k.getD (i+(d+1)+1) 0-t)/(k.getD (i+(d+1)+1) 0-k.getD (i+1) 0)) (gI k at_ t d (i+1));have s1:=kO ((t-k.getD i 0)/(k.getD (i+(d+1)) 0-k.getD i 0)*gI k at_ t d i) ((k.getD (i+(d+1)+1) 0-t)/(k.getD (i+(d+1)+1) 0-k.getD (i+1) 0)*gI k at_ t d (i+1));rw[hm];omega
def evV(po:List aF)(x:Rat):V3:=kJ (1/dq (aS po) x) ⟨dq (a7 po 0) x,dq (a7 po 1) x,dq (a7 po 2) x⟩
theorem aoL{po:List aF}{k i:Nat}(h:i<po.length):(a7 po k).getD i 0=(po.getD i default).w*(po.getD i default).p.at k:=by
 unfold a7;rw[bq,jY,ck h,bq,ck h];rfl
theorem aqU{po:List aF}{i:Nat}(h:i<po.length):(aS po).getD i 0=(po.getD i default).w:=by
 unfold aS;rw[bq,jY,ck h,bq,ck h];rfl
theorem yM{a b c:Nat}(h:a=b+c)(h2:a<=9223372036854775807):eO .sub .i64 (a:Nat) (b:Nat)=some (.int .i64 ((c:Nat):Int)):=by
 rw[ab1 J J];congr 2;omega
theorem atE{f:Nat->Rat}{R:Nat}(hR:1<=R):∀n,(∀i,i<n->rl (f i)<=R)->rl (sm n f)<=1+n*(R+1)
 |0,_=>by show 1<=_;omega
 |n+1,h=>by
  have h1:=atE hR n (fun i hi=>h i J);have h2:=h n J;have h3:=kO (sm n f) (f n);rw[sm,yz];omega
open H0 in
theorem as8(a b:Rat)(h:rl a+rl b<=1000000):an ai 265 [ae a,ae b] (ae (a/b)):=by
 refine aL Tryz.func265 ?_;refine aN (aBu a b J) ?_;refine iR ?_;exact fO
open aqF in
theorem aFF(k:List Rat)(at_:Nat)(t:Rat)(hl:k.length<=1000)(cJ:at_<=1000)(hk:∀x∈k,rl x<=1000)(ht:rl t<=1000)(i:Nat):an ai 223 [.list 3 (k.map ae),ah i,iL 0,ah at_,ae t] (ae (gI k at_ t 0 i)):=by
 have pP:an ai 9 [iL 1] (ae 1):=nZ 1 aj aj;refine aL azU ?_;refine dj ?_;refine aD rfl ?_ ?_<;>intro pU jI
 ·refine bH ?_;refine aD rfl ?_ ?_<;>intro adz zR
  ·have hV:gI k at_ t 0 i=1:=by rw[gI,if_pos J]
   refine bf (pP) ?_;refine a6 ?_;rw[hV];exact fO
  have hV:gI k at_ t 0 i=0:=by rw[gI,if_neg J]
  refine aK ?_;refine pg ?_;refine aW ?_;rw[hV];exact fO
 first|exact absurd pU aj|cases pU|exact absurd rfl jI
namespace as6
theorem aJ{p q:Prop}(k:q)(e:p=q:=by simp only[bD,bo,bp,bh,cg,eia,eib,eic,dD,du,dC,reduceIte,if_true,if_false,dW,LV.kill,bC];exact rfl):p:=e.mpr k
end as6
open as6 in
theorem aGY(k:List Rat)(at_:Nat)(t:Rat)(hl:k.length<=1000)(cJ:at_<=1000)(hk:∀x∈k,rl x<=1000)(ht:rl t<=1000)(d:Nat)(hd:d+1<=7)(ih:∀i,i+d+1<k.length->an ai 223 [.list 3 (k.map ae),ah i,ah d,ah at_,ae t] (ae (gI k at_ t d i)))(i:Nat)(hi:i+(d+1)+1<k.length):an ai 223 [.list 3 (k.map ae),ah i,ah (d+1),ah at_,ae t] (ae (gI k at_ t (d+1) i)):=by
 have g:∀j,rl (k.getD j 0)<=1000:=ix aj hk;have pp1:=alP ht (g i) (g (i+(d+1))) (g i);have pp2:=alP (g (i+(d+1)+1)) ht (g (i+(d+1)+1)) (g (i+1));have nq1:=ahe (at_:=at_) aj hk ht d i;have nq2:=ahe (at_:=at_) aj hk ht d (i+1);have s6:2^d<=2^6:=mN aj J;have m1:=cF ((t-k.getD i 0)/(k.getD (i+(d+1)) 0-k.getD i 0)) (gI k at_ t d i);have m2:=cF ((k.getD (i+(d+1)+1) 0-t)/(k.getD (i+(d+1)+1) 0-k.getD (i+1) 0)) (gI k at_ t d (i+1));have ph:=ih i J;have kK:=ih (i+1) J;refine aL azU ?_;have eia:True:=trivial;have eib:True:=trivial;have eic:True:=trivial;refine dj ?_;refine aD rfl ?_ ?_<;>intro pU jI
 ·omega
 refine bM ?_;refine dU 23 rfl ?_ ?_<;>intro qZ sb
 ·have hV:gI k at_ t (d+1) i=0:=by rw[gI,if_pos J]
  refine bN ?_;refine pg ?_;refine aW ?_;rw[hV];exact fO
 refine bI ?_;refine al (ib (v:=false) rfl rfl (qZ) rfl) (.bin rfl rfl (zE J)) ?_;refine aK ?_;refine aD rfl ?_ ?_<;>intro adu h29
 ·have hV:gI k at_ t (d+1) i=0:=by rw[gI,if_pos J]
  refine bc ?_;refine pg ?_;refine aW ?_;rw[hV];exact fO
 have hV:gI k at_ t (d+1) i=(t-k.getD i 0)/(k.getD (i+(d+1)) 0-k.getD i 0)*gI k at_ t d i+(k.getD (i+(d+1)+1) 0-t)/(k.getD (i+(d+1)+1) 0-k.getD (i+1) 0)*gI k at_ t d (i+1):=by rw[gI,if_neg J]
 refine aN (og t (k.getD i 0) (by have:=g i;omega)) ?_;refine bI ?_;refine al rfl sZ ?_;refine aN (og (k.getD (i+(d+1)) 0) (k.getD i 0) (by have:=g i;have:=g (i+(d+1));omega)) ?_;refine cp aC (as8 (t-k.getD i 0) (k.getD (i+(d+1)) 0-k.getD i 0) J) ?_;refine bM ?_;refine al rfl sZ ?_;refine lG ?_;refine aN (og (k.getD (i+(d+1)+1) 0) t (by have:=g (i+(d+1)+1);omega)) ?_;refine bI ?_;refine al rfl sZ ?_;refine lG ?_;refine aK ?_;refine lG ?_;refine aN (og (k.getD (i+(d+1)+1) 0) (k.getD (i+1) 0) (by have:=g (i+1);have:=g (i+(d+1)+1);omega)) ?_;refine cp aC (as8 (k.getD (i+(d+1)+1) 0-t) (k.getD (i+(d+1)+1) 0-k.getD (i+1) 0) J) ?_;refine b7 ?_;refine jc ?_;refine yc5 (ph) ?_;refine cp aC (iY _ (gI k at_ t d i) J) ?_;refine bI ?_;refine lG ?_;refine bn ?_;refine jc ?_;refine yc5 (kK) ?_;refine cp aC (iY _ (gI k at_ t d (i+1)) J) ?_;refine cp aC (n6 _ _ J) ?_;refine aK ?_;rw[hV];exact fO
theorem aBx(k:List Rat)(at_:Nat)(t:Rat)(hl:k.length<=1000)(cJ:at_<=1000)(hk:∀x∈k,rl x<=1000)(ht:rl t<=1000):∀(d:Nat) (hd:d<=7) (i:Nat) (hi:i+d+1<k.length),an ai 223 [.list 3 (k.map ae),ah i,ah d,ah at_,ae t] (ae (gI k at_ t d i))
 |0,_,i,_=>aFF k at_ t hl cJ hk ht i
 |d+1,hd,i,hi=>aGY k at_ t hl cJ hk ht d hd (fun i hi=>aBx k at_ t hl cJ hk ht d J i hi) i J
def lM(l:List V3)(k:Nat):Nat->Rat×Rat
 |0=>((l.getD 0 default).at k,(l.getD 0 default).at k)
 |j+1=>mz (lM l k j) ((l.getD (j+1) default).at k,(l.getD (j+1) default).at k)
def zH(l:List V3):ny:=⟨lM l 0 (l.length-1),lM l 1 (l.length-1),lM l 2 (l.length-1)⟩
theorem adj{l:List V3}{R:Nat}(h:∀i,i<l.length->cG R (l.getD i default))(k:Nat):∀n,n<l.length->cW R (lM l k n)
 |0,hn=>⟨ae3 (h 0 hn) k,ae3 (h 0 hn) k⟩
 |n+1,hn=>adl (adj h k n J) ⟨ae3 (h _ hn) k,ae3 (h _ hn) k⟩
section
variable {po:List aF} {d:Nat} (h:qL po d)
include h
end
section
variable {po:List aF} {d:Nat} (h:qL po d)
include h
end
open fc in
theorem apD(a b c w:Rat)(R:Nat)(hR:R<=100000000)(ha:rl a<=R)(hb:rl b<=R)(hc:rl c<=R)(hw:rl w<=R):an ai 56 [.agg [ae a,ae b,ae c,ae w]] (aA ⟨kJ (1/w) ⟨a,b,c⟩,w⟩):=by
 have pP:an ai 9 [iL 1] (ae 1):=nZ 1 aj aj;have fR:rl 1=1:=rfl;have hq:=pv 1 w;refine aL Tryz.func56 (ht:=(fun g=>LV.db g _ (ez.pure _))) ?_;refine bH ?_;simp only[List.getD_cons_zero];refine cp cr (pP) ?_;refine aN (y7 1 w J) ?_;refine bK ?_;refine cp aC (avt (1/w) ⟨a,b,c⟩ (R+1) J J ⟨by show rl a<=_;omega,by show rl b<=_;omega,by show rl c<=_;omega⟩) ?_;refine bc ?_;refine tj (ahz rfl rfl) ?_;refine aK ?_;exact iJ [] rfl rfl rfl cs (cU cs rfl) oT (.pure pu)
theorem ak3{a b:Rat}:∀(n:Nat) (c:Nat->Rat) (R:Nat),(∀i,rl (c i)<=R)->rl (fE a b n c)<=(R+(rl a+rl b+1))*2^n
 |0,c,R,h=>by
  have:=h 0;show rl (c 0)<=_;omega
 |n+1,c,R,h=>by
  have:=ak3 (a:=a) (b:=b) n (fun i=>a*c i+b*c (i+1)) (2*R+(rl a+rl b+1)) (fun i=>by
   have h0:=h i;have h1:=h (i+1);have m0:=cF a (c i);have m1:=cF b (c (i+1));have s0:=kO (a*c i) (b*c (i+1));omega)
  rw[fE];refine aP this ?_;rw[kC,Nat.mul_comm (2^n) 2,<-Nat.mul_assoc];exact Nat.mul_le_mul_right _ J
theorem w9(bs:List Nat):aaI bs []=[]:=rfl
def sS(t:Rat)(f:Nat->Rat):Nat->Rat:=fun i=>(1-t)*f i+t*f (i+1)
def sI(t:Rat):Nat->(Nat->Rat)->(Nat->Rat)
 |0,f=>f
 |n+1,f=>sI t n (sS t f)
theorem aPS(s t:Rat)(f:Nat->Rat):sS s (sS t f)=sS t (sS s f):=by
 funext i;unfold sS;grind
theorem ano(t s:Rat):∀(n:Nat) (f:Nat->Rat),sI t n (sS s f)=sS s (sI t n f)
 |0,f=>rfl
 |n+1,f=>by rw[sI,sI,aPS,ano t s n]
theorem aOO(t:Rat)(n:Nat)(f:Nat->Rat):sI t (n+1) f=sS t (sI t n f):=by rw[sI,ano]
theorem apT(t c d:Rat):∀(n:Nat) (f g:Nat->Rat),sI t n (fun i=>c*f i+d*g i)=fun i=>c*sI t n f i+d*sI t n g i
 |0,f,g=>rfl
 |n+1,f,g=>by
  rw[sI,sI,sI,<-apT t c d n];congr 1;funext i;unfold sS;grind
theorem abB(t:Rat):∀(n:Nat) (f:Nat->Rat) (i:Nat),sI t n f i=fE (1-t) t n (fun m=>f (i+m))
 |0,f,i=>rfl
 |n+1,f,i=>by rw[sI,abB t n,fE];rfl
def pcV(a b:Rat)(n:Nat)(f:Nat->Rat)(j:Nat):Rat:=sI a (n-j) (sI b j f) 0
theorem aw4{p:List Rat}{a b:Rat}(ha:a≠1){j:Nat}(hj:j<p.length):(df p a b).getD j 0=pcV a b (p.length-1) (fun i=>p.getD i 0) j:=by
 have aZ:(1:Rat)-a≠0:=ba;have hq:(b-a)/(1-a)*(1-a)=b-a:=Rat.div_mul_cancel aZ;unfold df;rw[if_neg ha,akv (by rw[aa4];exact hj)];generalize (b-a)/(1-a)=s at hq;have key:∀(k:Nat) (i:Nat),i+k<=p.length-1->sI s k (fun i=>(lE p a).getD i 0) i=sI a (p.length-1-i-k) (sI b k (fun m=>p.getD (i+m) 0)) 0:=by
  intro k
  induction k with
  |zero =>
   intro i hi;show (lE p a).getD i 0=_;rw[akn J,abB,aie];exact aaq _ _ _ _ _ fun m _=>by rw[fZ];rfl
  |succ k ih =>
   intro i hi;rw[aOO];unfold sS;rw[ih i J,ih (i+1) J];obtain⟨m,hm⟩:∃m,p.length-1-i-k=m+1:=⟨p.length-1-i-k-1,J⟩;rw[hm,show p.length-1-(i+1)-k=m by omega,show p.length-1-i-(k+1)=m by omega,sI];have hsh:(fun m=>p.getD (i+1+m) 0)=fun m=>(fun m=>p.getD (i+m) 0) (m+1):=by funext m;simp only;congr 1;omega
   rw[hsh];generalize (fun m=>p.getD (i+m) 0)=f;rw[<-ano];have e:=apT a (1-s) s m (sI b k (sS a f)) (sI b k (fun m=>f (m+1)));have e2:=apT b (1-s) s k (sS a f) (fun m=>f (m+1));rw[<-e2]at e;have e3:(fun i=>(1-s)*sS a f i+s*f (i+1))=sS b f:=by
    funext i;unfold sS;have h1:(1-s)*(1-a)=1-b:=ba;have h2:(1-s)*a+s=b:=ba;rw[<-h1,<-h2];grind
   rw[e3]at e;exact(congrFun e 0).symm
 have:=key j 0 J;rw[abB]at this;simp only[fZ,aie]at this;rw[this];rfl
structure uG (po:List aF) (d R:Nat):Prop where
 hl:po.length=d+1
 hd:1<=d
 h6:d<=6
 ok:∀q∈po,oO R q
theorem qL.r{po:List aF}{d:Nat}(h:qL po d):uG po d 1:=⟨h.hl,h.hd,h.h6,h.ok⟩
def cpQ(po:List aF)(x y:Rat)(j:Nat):aF :=
 ⟨⟨(df (a7 po 0) x y).getD j 0/(df (aS po) x y).getD j 0,(df (a7 po 1) x y).getD j 0/(df (aS po) x y).getD j 0,(df (a7 po 2) x y).getD j 0/(df (aS po) x y).getD j 0⟩,(df (aS po) x y).getD j 0⟩
def lT(po:List aF)(x y:Rat):List aF:=(cN po.length).map (cpQ po x y)
theorem abo(po:List aF)(x y:Rat):(lT po x y).length=po.length:=by simp[lT]
theorem azn{po:List aF}{x y:Rat}{j:Nat}(h:j<po.length):(lT po x y).getD j default=cpQ po x y j:=by
 unfold lT;rw[bq,ck mA];simp
theorem ac9(p:List Rat)(a b:Rat):(df p a b).length=p.length:=by rw[<-avI,aFh]
theorem agV{a b:Rat}(ha:0<=a)(hb:0<=b)(cm:0<a+b):∀(n:Nat) (f:Nat->Rat),(∀i,i<=n->0<f i)->0<fE a b n f
 |0,f,h=>h 0 (bF _)
 |n+1,f,h=>by
  rw[fE];refine agV ha hb cm n _ fun i hi=>?_;have a1:=h i J;have a2:=h (i+1) J;have b1:=ua ha (kL a1);have b2:=ua hb (kL a2);rcases Rat.le_iff_lt_or_eq.1 ha with h0|h0
  ·have:=zW h0 a1;grind
  have:=zW (show 0<b by grind) a2;grind
theorem aDF{a b:Rat}(ha:0<=a)(ha1:a<=1)(hb:0<=b)(xH:b<=1){n j:Nat}{f:Nat->Rat}(hj:j<=n)(h:∀i,i<=n->0<f i):0<pcV a b n f j:=by
 unfold pcV;rw[abB];refine agV ba ha ba _ _ fun m hm=>?_;rw[abB];exact agV ba hb ba _ _ fun m2 fC=>h _ J
theorem ab3{a b:Rat}{R S:Nat}(ha:rl (1-a)+rl a+1<=S)(hb:rl (1-b)+rl b+1<=S){n j:Nat}(hn:n<=6)(hj:j<=n){f:Nat->Rat}(h:∀i,rl (f i)<=R):rl (pcV a b n f j)<=((R+S)*64+S)*64:=by
 unfold pcV;have hp:∀k,k<=6->2^k<=64:=fun k hk=>mN (n:=2) aj hk;have h1:∀m,rl (sI b j f m)<=(R+S)*64:=fun m=>by
  rw[abB];have:=ak3 (a:=1-b) (b:=b) j (fun i=>f (m+i)) R (fun i=>h _);refine aP this (nP J (hp j J))
 rw[abB];have:=ak3 (a:=1-a) (b:=a) (n-j) (fun i=>sI b j f (0+i)) ((R+S)*64) (fun i=>h1 _);exact aP this (nP J (hp (n-j) J))
section
variable {po:List aF} {d R:Nat} (h:uG po d R) {x y:Rat} (lH:0<=x) (iT:x<1) (ky:0<=y) (qP:y<=1)
include h
theorem ajB(k:Nat):(a7 po k).length=d+1:=by rw[s9,h.hl]
theorem av1:(aS po).length=d+1:=by rw[tb,h.hl]
theorem aDR{i:Nat}(hi:i<=d):0<(aS po).getD i 0:=by
 have hl:=h.hl;rw[aqU J];exact(h.ok _ (qo J)).2.2
include iT
theorem ajn{j:Nat}(hj:j<=d):(df (aS po) x y).getD j 0=pcV x y d (fun i=>(aS po).getD i 0) j:=by
 have hw:=av1 h;rw[aw4 ba J,hw,tD]
theorem aep(k:Nat){j:Nat}(hj:j<=d):(df (a7 po k) x y).getD j 0=pcV x y d (fun i=>(a7 po k).getD i 0) j:=by
 have hw:=ajB h k;rw[aw4 ba J,hw,tD]
include lH ky qP
theorem amT{j:Nat}(hj:j<=d):0<(df (aS po) x y).getD j 0:=by
 rw[ajn h iT hj];exact aDF lH (kL iT) ky qP hj fun i hi=>aDR h hi
end
theorem afv{f:Nat}(hc:∀s t:Rat×Rat,rl s.1+rl t.1<=34359738368->rl s.2+rl t.2<=34359738368->an ai f [ar s,ar t] (ar (mz s t))){l:List V3}{R:Nat}(hR:R<=1000000)(hb:∀i,i<l.length->cG R (l.getD i default))(k j:Nat)(hj:j+1<l.length):
  an ai f [ar (lM l k j),ar ((l.getD (j+1) default).at k,(l.getD (j+1) default).at k)] (ar (lM l k (j+1))):=by
 have q:=adj hb k j J;have g:=ae3 (hb (j+1) hj) k;have h1:R+R<=34359738368:=J;exact hc _ _ (aP (ahl q.1 g) h1) (aP (ahl q.2 g) h1)
theorem aDv{P:Program}{H:cd}{ρ:Operand->LV}{T E:TypeId}{o0 o1 o2:Operand}{s0 s1 s2:Rat×Rat}[u:UN P T (.array 3 E)][t:TI P E 6 true][z:ZI P T (.agg [.agg [ae 0,ae 0],.agg [ae 0,ae 0],.agg [ae 0,ae 0]])](h0:ρ o0=ar s0)(h1:ρ o1=ar s1)(h2:ρ o2=ar s2):
  aM P H ρ (.build T #[(0,o0),(1,o1),(2,o2)]) (iq ⟨s0,s1,s2⟩):=by
 have:=aM.yX (H:=H) (ρ:=ρ) (ps:=#[(0,o0),(1,o1),(2,o2)]) (u:=u) (t:=t) (z:=z) (by simp[lay,LV.aq,dg,ao.aq,sW]) (by
  intro p hp;simp only[dS,jR,or_false]at hp;rcases hp with rfl|rfl|rfl
  ·exact⟨_,rfl,by rw[h0];simp[lay,bj.aq,bj.isAgg,LV.aq,dg,ao.aq,sW],by rw[h0];exact LV.fJ (bj.pure _),by rw[h0];exact LV.fh (bj.pure _)⟩
  ·exact⟨_,rfl,by rw[h1];simp[lay,bj.aq,bj.isAgg,LV.aq,dg,ao.aq,sW],by rw[h1];exact LV.fJ (bj.pure _),by rw[h1];exact LV.fh (bj.pure _)⟩
  exact⟨_,rfl,by rw[h2];simp[lay,bj.aq,bj.isAgg,LV.aq,dg,ao.aq,sW],by rw[h2];exact LV.fJ (bj.pure _),by rw[h2];exact LV.fh (bj.pure _)⟩)
 simpa only[kP,oC,tF,vg,h0,h1,h2]using this
theorem at2:(LV.agg [.agg [ae 0,ae 0],.agg [ae 0,ae 0],.agg [ae 0,ae 0]]).aq=18:=by simp[LV.aq,dg,ao.aq]
theorem aAz(a b c:Rat×Rat):(LV.agg [ar a,ar b,ar c]).aq=18:=ui.aq ⟨a,b,c⟩
theorem dr1(l:List V3)(j:Nat):(l.drop 1).getD j default=l.getD (j+1) default:=by
 rw[bq,bq,u6,Nat.add_comm]
namespace auu
theorem aJ{p q:Prop}(k:q)(e:p=q:=by simp only[bD,bo,bp,bh,at2,aAz,dr1,cg,List.length_drop,cC,dD,du,dC,reduceIte,if_true,if_false,dW,LV.kill,bC];exact rfl):p:=e.mpr k
end auu
open auu in
theorem aK4(l:List V3)(h0:0<l.length)(hl:l.length<=1000)(R:Nat)(hR:R<=1000000)(hb:∀i,i<l.length->cG R (l.getD i default)):an ai 81 [.list 9 (l.map aR)] (.aY [iq (zH l),iL 0]):=by
 obtain⟨z1,z2,z3⟩:=hb 0 h0;refine aL Tryz.func81 (ht:=(iz (ui.pure _) rfl)) ?_;refine lV ?_;refine aD rfl ?_ ?_<;>intro nj pC
 ·omega
 refine bM ?_;refine gH ?_;refine bf (vn (l.getD 0 default).x J) ?_;refine bK ?_;refine al rfl (.ad9 (a:=1) cu rfl wa jw rfl om) ?_;refine aW ?_;refine dy (fun(j:Nat) L=>(mS L [(2,⟨18,[.agg [.agg [ae 0,ae 0],.agg [ae 0,ae 0],.agg [ae 0,ae 0]]],true⟩),(4,⟨18,[.agg [ar (lM l 0 j),.agg [ae 0,ae 0],.agg [ae 0,ae 0]]],true⟩)] [(26,ah j),(25,ah (l.length-1)),(24,.list 9 ((l.drop 1).map aR)),(12,iL 0),(5,iL 0),(4,.aB 4 18 0 0),(2,.aB 2 18 0 0),(0,.list 9 (l.map aR))])) (fun j=>j<=l.length-1) (fun j=>l.length-1-j) 0 (bW _) ?_;rintro j L2 hj;refine a6 ?_;refine aD rfl ?_ ?_<;>intro aac h27
 ·have iH:j<l.length-1:=J;obtain⟨g1,g2,g3⟩:=hb (j+1) J;have hH0:an ai 172 [ar (lM l 0 j),ar ((l.getD (j+1) default).x,(l.getD (j+1) default).x)] (ar (lM l 0 (j+1))):=afv (fun s t h1 h2=>yT s t J J) hR hb 0 j J;refine bf (vn (l.getD (j+1) default).x J) ?_;refine cp aC (hH0) ?_;refine aW ?_;refine vD ?_;refine eP ?_;exact yd
 obtain rfl:j=l.length-1:=J;refine bN ?_;refine gH ?_;refine bf (vn (l.getD 0 default).y J) ?_;refine bK ?_;refine al rfl (.ad9 (a:=1) cu rfl wa jw rfl om) ?_;refine aW ?_;refine dy (fun(j:Nat) L=>(mS L [(2,⟨18,[.agg [.agg [ae 0,ae 0],.agg [ae 0,ae 0],.agg [ae 0,ae 0]]],true⟩),(4,⟨18,[.agg [ar (lM l 0 (l.length-1)),ar (lM l 1 j),.agg [ae 0,ae 0]]],true⟩)] [(26,ah j),(25,ah (l.length-1)),(24,.list 9 ((l.drop 1).map aR)),(12,iL 1),(5,iL 1),(4,.aB 4 18 0 0),(2,.aB 2 18 0 0),(0,.list 9 (l.map aR))])) (fun j=>j<=l.length-1) (fun j=>l.length-1-j) 0 (bW _) ?_;rintro j L2 hj;refine a6 ?_;refine aD rfl ?_ ?_<;>intro aac h27
 ·have iH:j<l.length-1:=J;obtain⟨g1,g2,g3⟩:=hb (j+1) J;have r9:an ai 172 [ar (lM l 1 j),ar ((l.getD (j+1) default).y,(l.getD (j+1) default).y)] (ar (lM l 1 (j+1))):=afv (fun s t h1 h2=>yT s t J J) hR hb 1 j J;refine bf (vn (l.getD (j+1) default).y J) ?_;refine cp aC (r9) ?_;refine aW ?_;refine vD ?_;refine eP ?_;exact yd
 obtain rfl:j=l.length-1:=J;refine bN ?_;refine gH ?_;refine bf (vn (l.getD 0 default).z J) ?_;refine bK ?_;refine al rfl (.ad9 (a:=1) cu rfl wa jw rfl om) ?_;refine aW ?_;refine dy (fun(j:Nat) L=>(mS L [(2,⟨18,[.agg [.agg [ae 0,ae 0],.agg [ae 0,ae 0],.agg [ae 0,ae 0]]],true⟩),(4,⟨18,[.agg [ar (lM l 0 (l.length-1)),ar (lM l 1 (l.length-1)),ar (lM l 2 j)]],true⟩)] [(26,ah j),(25,ah (l.length-1)),(24,.list 9 ((l.drop 1).map aR)),(12,iL 2),(5,iL 2),(4,.aB 4 18 0 0),(2,.aB 2 18 0 0),(0,.list 9 (l.map aR))])) (fun j=>j<=l.length-1) (fun j=>l.length-1-j) 0 (bW _) ?_;rintro j L2 hj;refine a6 ?_;refine aD rfl ?_ ?_<;>intro aac h27
 ·have iH:j<l.length-1:=J;obtain⟨g1,g2,g3⟩:=hb (j+1) J;have hH2:an ai 172 [ar (lM l 2 j),ar ((l.getD (j+1) default).z,(l.getD (j+1) default).z)] (ar (lM l 2 (j+1))):=afv (fun s t h1 h2=>yT s t J J) hR hb 2 j J;refine bf (vn (l.getD (j+1) default).z J) ?_;refine cp aC (hH2) ?_;refine aW ?_;refine vD ?_;refine eP ?_;exact yd
 obtain rfl:j=l.length-1:=J;refine bN ?_;refine pa ?_;refine dj ?_;exact wO [] rfl rfl rfl cs (cU cs rfl) T87 (.pure pu) rfl (.pure rfl)
namespace oS
theorem aJ{p q:Prop}(k:q)(e:p=q:=by simp only[bD,bo,bp,bh,List.getD_cons_zero,List.getD_cons_succ,dD,du,dC,reduceIte,if_true,if_false,dW,LV.kill,bC];exact rfl):p:=e.mpr k
end oS
open oS in
theorem aEE(p:V3):an ai 205 [aR p] (iq ⟨(p.x,p.x),(p.y,p.y),(p.z,p.z)⟩):=by
 refine aL Tryz.func205 (ht:=(fun r=>LV.db r _ (ui.pure _))) ?_;refine bf (uB p.x) ?_;refine bf (uB p.y) ?_;refine bf (uB p.z) ?_;refine tj (aDv rfl rfl rfl) ?_;refine aK ?_;exact ah1
namespace au0
theorem aJ{p q:Prop}(k:q)(e:p=q:=by simp only[bD,bo,bp,bh,at2,aAz,cg,Nat.sub_self,Nat.add_sub_cancel,cC,dD,du,dC,reduceIte,if_true,if_false,dW,LV.kill,bC];exact rfl):p:=e.mpr k
end au0
open au0 in
theorem aDK(l:List V3)(h0:0<l.length)(hl:l.length<=1000)(R:Nat)(hR:R<=1000000)(hb:∀i,i<l.length->cG R (l.getD i default)):an ai 106 [.list 9 (l.map aR)] (.aY [iq (zH l),iL 0]):=by
 have hPB:an ai 205 [aR (l.getD 0 default)] (.agg [ar (lM l 0 0),ar (lM l 1 0),ar (lM l 2 0)]):=aEE (l.getD 0 default);refine aL Tryz.func106 (ht:=(iz (ui.pure _) rfl)) ?_;refine ff ?_;refine aD rfl ?_ ?_<;>intro sw h9
 ·omega
 refine bf (hPB) ?_;refine bN ?_;refine dy (fun(i:Nat) L=>(mS L [(2,⟨18,[.agg [.agg [ae 0,ae 0],.agg [ae 0,ae 0],.agg [ae 0,ae 0]]],true⟩),(4,⟨18,[.agg [ar (lM l 0 (i-1)),ar (lM l 1 (i-1)),ar (lM l 2 (i-1))]],true⟩)] [(5,ah i),(4,.aB 4 18 0 0),(2,.aB 2 18 0 0),(0,.list 9 (l.map aR))])) (fun i=>1<=i/\i<=l.length) (fun i=>l.length-i) 1 ⟨bF _,h0⟩ ?_;rintro i L1 ⟨sC,hi⟩;refine bM ?_;refine aD rfl ?_ ?_<;>intro re pR
 ·have cM:i<l.length:=J;obtain⟨k,rfl⟩:∃k,i=k+1:=⟨i-1,J⟩;obtain⟨g1,g2,g3⟩:=hb (k+1) J;have hH0:an ai 206 [ar (lM l 0 k),ar ((l.getD (k+1) default).x,(l.getD (k+1) default).x)] (ar (lM l 0 (k+1))):=afv (fun s t h1 h2=>acF s t J J) hR hb 0 k J;have r9:an ai 206 [ar (lM l 1 k),ar ((l.getD (k+1) default).y,(l.getD (k+1) default).y)] (ar (lM l 1 (k+1))):=afv (fun s t h1 h2=>acF s t J J) hR hb 1 k J;have hH2:an ai 206 [ar (lM l 2 k),ar ((l.getD (k+1) default).z,(l.getD (k+1) default).z)] (ar (lM l 2 (k+1))):=afv (fun s t h1 h2=>acF s t J J) hR hb 2 k J;refine b7 ?_;refine qK ?_;refine bf (uB (l.getD (k+1) default).x) ?_;refine cp aC (hH0) ?_;refine qM ?_;refine bf (uB (l.getD (k+1) default).y) ?_;refine cp aC (r9) ?_;refine qM ?_;refine bf (uB (l.getD (k+1) default).z) ?_;refine cp aC (hH2) ?_;refine bN ?_;refine wq ?_;refine bH ?_;refine eP ?_;exact ji (k+1+1) ⟨J,J⟩
 obtain rfl:i=l.length:=J;refine dj ?_;exact wO [] rfl rfl rfl cs (cU cs rfl) T87 (.pure pu) rfl (.pure rfl)
namespace aCg
theorem aJ{p q:Prop}(k:q)(e:p=q:=by simp only[bD,bo,bp,bh,fw,fg,cC,jt,dR,fX,fD,gy,gU,ey,dD,du,dC,reduceIte,if_true,if_false,dW,LV.kill,bC];exact rfl):p:=e.mpr k
end aCg
open aCg in
theorem aoQ(po:List aF)(hl:po.length<=1000):an ai 107 [.list 12 (po.map aA)] (.list 9 ((po.map (·.p)).map aR)):=by
 refine aL Tryz.func107 (ht:=(fun g=>LV.db g _ (eY cu 9 _))) ?_;have fw:True:=trivial;have fg:True:=trivial;refine nh ?_;refine iS (au.own (t:=3) 18 9 rfl rfl) ?_;refine dy (fun(i:Nat) L=>(mS L [(18,⟨9,((po.map (·.p)).take i).map aR,true⟩)] [(4,ah i),(3,.ref 18 9 0 i),(0,.list 12 (po.map aA))])) (fun i=>i<=po.length) (fun i=>po.length-i) 0 (bW _) ?_;rintro i L1 hi;refine bM ?_;refine aD rfl ?_ ?_<;>intro nX h8
 ·have cM:i<po.length:=J;have kX:((po.map (·.p)).take i).length=i:=by rw[List.length_take,cC];omega
  have fw:(((po.map (·.p)).take i).map aR).take i=((po.map (·.p)).take i).map aR:=cy fW;have fg:(po.map (·.p)).take i++[(po.getD i default).p]=(po.map (·.p)).take (i+1):=yO (·.p) po cM;refine bG ?_;refine cj rfl (.app (news:=[aR (po.getD i default).p]) rfl rfl rfl rfl rfl fW (.inl rfl) aj wa wa Z40 jw cs B40 (.inl ⟨17,0,_,rfl,by decide,rfl,rfl,by simp,rfl,by simp[aO,cu.pure]⟩) aQ aQ aj) ?_;refine aK ?_;refine cO (au.kill _ 17) ?_;refine nL ?_;exact gM
 obtain rfl:i=po.length:=J;have hE:(po.map (·.p)).take po.length=(po.map (·.p)):=cy aE;refine bG ?_;simp only[hE];exact lZ [18] rfl rfl (da cu rfl rfl aE)
end Go.Proofs.YtbkmfcmgilhaaaaGreat
end
section
set_option linter.unusedVariables false
set_option linter.unusedSimpArgs false
namespace Go.Lg
def wS:Op->Bool
 | .extract ..=>true
 | .assign _=>true
 |op=>aiu op
section
variable {P:Program} {H:cd} {ρ tp:Operand->LV}
theorem nB.aoa{d:Nat}{op:Op}{r:LV}{fr:List (Nat×aV)}(oA:nB P H ρ d op r fr)(hk:wS op=true)(hr:∀x∈op.operands,tp x=ρ x):nB P H tp d op r fr:=by
 cases oA with
 |pure hp =>
  by_cases gf:pz op=true
  ·exact .pure (hp.aek gf hr)
  by_cases hbq:∃T ps,op=.build T ps
  ·obtain⟨T,ps,rfl⟩:=hbq;exact .pure (hp.aEI hr)
  cases hp with
  |acN hf ta hb hn he hx h1' h1 h2 =>
   refine .pure (.acN hf ta hb hn he ?_ h1' h1 h2);rw[<-hx];exact tQ fun x zt=>hr x (yx zt)
  |assign x=>rw[<-hr x cX];exact .pure (.assign x)
  |extract ht hq aZ=>exact .pure (.extract ((hr _ cX).trans ht) hq aZ)
  |build=>exact absurd ⟨_,_,rfl⟩ hbq
  |aci=>exact absurd ⟨_,_,rfl⟩ hbq
  |_=>first|(exfalso;exact gf rfl)|(exfalso;revert hk gf;simp[wS,aiu,pz])
 |alloc ha=>exact .alloc (ha.aek hr)
 |call hc =>
  cases hc with
  |func ha wH hlen km =>
   refine .call (.func ?_ wH hlen km);rw[show (_:Array Operand).toList.map tp=_ from tQ fun x zt=>hr x (yx zt)];exact ha
  |acP hx ha hb wH hlen km=>exact .call (.acP ((hr _ (yx aE)).trans hx) ha hb wH hlen km)
  |dT=>exfalso;revert hk;simp[wS,aiu,pz]
  |mk=>exfalso;revert hk;simp[wS,aiu,pz]
end
section
variable {P:Program} {ops:Array Oper}
theorem aLe{L L2:St}{d:Nat}{v:LV}{o:Oper}(hv:∀b,v.kill b=v)(hk:wS o.op=true)(hl:d∉o.looksAt ops)(hd:o.dst≠some d)(h:Step P false ops o (L.put (some d) v) L2):
  ∃L1,Step P false ops o L L1/\L2=L1.put (some d) v/\∀t,o.dst≠some t->(∀b,(L.slot t).kill b=L.slot t)->L1.slot t=L.slot t:=by
 have gV:=apr (L:=L) (v:=v) hl;have mo:∀(M:St) (r:LV) t,M.slot t=L.slot t->o.dst≠some t->(M.put o.dst r).slot t=L.slot t:=fun M r t hM aZ=>by
  cases hh:o.dst with
  |none=>exact hM
  |some e=>rw[iU,if_neg (fun q=>aZ (by rw[hh,q]))];exact hM
 cases h with
 |skip hg hL=>exact⟨L.put o.dst (.aY []),.skip (xI hl hg) rfl,by rw[hL,vu L hd],fun t ht _=>mo L _ t rfl ht⟩
 | @val r fr H1 hg hle eM oA hL =>
  obtain⟨dst,op,ty,pos,after,gd⟩:=o;have agj:∀x∈op.operands,L.ev x=(L.put (some d) v).ev x:=fun x hx=>(gV x hx).symm;have ae8:nB P H1 L.ev (dst.getD 0) op r fr:=oA.aoa hk agj;refine⟨⟨(L.put dst r).slot,H1⟩,.val (xI hl hg) hle eM ae8 rfl,?_,fun t ht _=>mo L r t rfl ht⟩;rw[hL];have:=vu L hd v r;exact congrArg (fun M=>St.mk (St.slot M) H1) this
 |st hg rX =>
  obtain⟨dst,op,ty,pos,after,gd⟩:=o
  cases rX with
  |store hp hb hs hm hi hy nG hT aZ =>
   rename_i T p x b sz i o' blk y y';have e1:=gV p cX;have e2:=gV x cX;rw[e1]at hp;rw[e2]at nG hT aZ;refine⟨_,.st (xI hl hg) (.store hp hb hs hm hi hy nG hT aZ),?_,fun t ht _=>?_⟩
   ·exact vu (L.bO b _) hd v .any
   exact mo (L.bO b _) .any t rfl ht
  |eU hx hb hs hm hlen gY gh hT hU hz hE fk lD hy bU jl fb =>
   rename_i T U E E' d' b sz len blk x y news z eH;have e1:=gV x mB;have e2:=gV y mB;rw[e1]at hx;rw[e2]at hy;refine⟨_,.st (xI hl hg) (.eU hx hb hs hm hlen gY gh hT hU hz hE fk lD hy bU jl fb),?_,fun t ht hf=>?_⟩
   ·rw[aM2 L hv];exact vu ((L.kill b).bO d' _) hd v _
   exact mo ((L.kill b).bO d' _) _ t (hf b) ht
  |zG hx gY hT hU hz hE fk lD hy hn bU jl fb =>
   rename_i T U E E' d' sz x y news z eH;have e1:=gV x mB;have e2:=gV y mB;rw[e1]at hx;rw[e2]at hy;refine⟨_,.st (xI hl hg) (.zG hx gY hT hU hz hE fk lD hy hn bU jl fb),?_,fun t ht hf=>?_⟩
   ·exact vu (L.bO d' _) hd v _
   exact mo (L.bO d' _) _ t rfl ht
  |_=>exfalso;revert hk;simp[wS,aiu,pz]
 |stM ir hg mR =>
  obtain⟨dst,op,ty,pos,after,gd⟩:=o
  cases mR with
  |call hb hm hp ha hn wH r8 mZ =>
   rename_i f xs xh args r b blk blk';have em:xs.toList.map (L.put (some d) v).ev=xs.toList.map L.ev:=tQ fun x zt=>gV x (yx zt);rw[em]at ha hn;refine⟨_,.stM ir (xI hl hg) (.call hb hm hp ha hn wH r8 mZ),?_,fun t ht _=>?_⟩
   ·exact vu (L.bO b _) hd v _
   exact mo (L.bO b _) _ t rfl ht
  |aiA hT hU hz hE fk hb hx mn qz hlen hy gY hgr fb hm jl =>
   rename_i T U E x y z k kl sz eH len cp n d' b blk;rw[gV x mB]at hx;rw[gV y mB]at hy;refine⟨_,.stM ir (xI hl hg) (.aiA hT hU hz hE fk hb hx mn qz hlen hy gY hgr fb hm jl),?_,fun t ht _=>?_⟩
   ·exact vu (L.bO d' _) hd v _
   exact mo (L.bO d' _) _ t rfl ht
  |ovl hf ta hb hn he ht hE hx hy yb h1 h2 fb =>
   rw[gV _ (yx aE)]at hx;rw[gV _ (yx aE)]at hy;refine⟨_,.stM ir (xI hl hg) (.ovl hf ta hb hn he ht hE hx hy yb h1 h2 fb),?_,fun t ht _=>?_⟩
   ·exact vu L hd v _
   exact mo L _ t rfl ht
def aA3(ops:Array Oper)(i:Nat)(D:Array Bool):Bool :=
 D.size==ops.size&&!D.getD i true&&(kh (ops.getD i default)).all (fun j=>D.getD j false)&&(ops.getD i default).guard.isNone&&wS (ops.getD i default).op &&
 (cN ops.size).all fun j=>j==i||D.getD j true||(wS (ops.getD j default).op&&((ops.getD j default).dst != (ops.getD i default).dst) &&
  (match (ops.getD i default).dst with|some d=>!((ops.getD j default).looksAt ops).contains d||(kh (ops.getD j default)).contains i|none=>false) &&
  (match (ops.getD j default).dst with|some e=>!((ops.getD i default).looksAt ops).contains e|none=>true))
theorem fx{m:Nat}{K:St->Prop}{L:St}{D:Array Bool}{d:Nat}{v:LV}(i:Nat){o:Oper}(ho:ops[i]?=some o)(afA:o.dst=some d)(fe:aA3 ops i D=true)(hv:nB P (fun _=>none) L.ev d o.op v [])
  (hfv:∀b,v.kill b=v) (hfo:aqZ L o.op.operands.toList)
  (h:jA P ops m (D.setIfInBounds i true) (L.put (some d) v) K):jA P ops (m+1) D L K:=by
 have jr:∀i o,ops[i]?=some o->ops.getD i default=o:=fun i o h=>by rw[dQ,h];rfl
 have uT:i<ops.size:=(lX.1 ho).1
 let C:Array Bool->Prop:=fun D=>D.size=ops.size/\D.getD i false=false/\(∀j∈kh o,D.getD j false=true)/\∀j oj,ops[j]?=some oj->j≠i->D.getD j false=false ->
  wS oj.op=true/\oj.dst≠some d/\(d∈oj.looksAt ops->i∈kh oj)/\∀e,oj.dst=some e->e∉o.looksAt ops
 unfold aA3 at fe;rw[jr i o ho,afA]at fe;simp only[jS,nU,rm,pI,beq_iff_eq,yK,zX,bne_iff_ne,ne_eq]at fe;obtain⟨⟨⟨⟨⟨bU,vf⟩,zO⟩,hgd⟩,alJ⟩,fM⟩:=fe;have hC:C D:=by
  refine⟨bU,by rw[tO J false true];exact vf,zO,fun j oj hj aZ vV=>?_⟩;have hjl:j<ops.size:=(lX.1 hj).1;have:=fM j hjl;rw[jr j oj hj]at this;rcases this with(q|q)|q
  ·exact absurd q aZ
  ·rw[tO J true false,vV]at q;cases q
  obtain⟨⟨⟨q1,q2⟩,q3⟩,q4⟩:=q;refine⟨q1,q2,fun hm=>?_,fun e he hm=>?_⟩
  ·rcases q3 with q|q
   ·rw[qJ.2 hm]at q;cases q
   exact qJ.1 q
  rw[he]at q4;simp only[yK]at q4;rw[qJ.2 hm]at q4;cases q4
 have aiL:∀L:St,nB P (fun _=>none) L.ev d o.op v []->Step P false ops o L (L.put (some d) v):=fun L hv=>by
  refine .val (fr:=[]) (H1:=L.heap) (r:=v) (by unfold eg;rw[hgd]) (cd.le_refl _) (fun _ _ hh=>by cases hh) (by rw[afA];exact hv.le fun b blk h=>by cases h) ?_;rw[afA];rfl
 clear bU vf zO fM;have aEn:∀x∈o.op.operands,∀b,(L.ev x).kill b=L.ev x:=fun x hx=>aud hfo x (aib.2 hx);clear hfo;have main:∀(n:Nat) (D:Array Bool) (L:St),C D->nB P (fun _=>none) L.ev d o.op v []->(∀x∈o.op.operands,∀b,(L.ev x).kill b=L.ev x)->jA P ops n (D.setIfInBounds i true) (L.put (some d) v) K->jA P ops (n+1) D L K:=by
  intro n
  induction n with
  |zero =>
   intro D L ⟨c1,c2,c3,c4⟩ hv _ hh;have uF:i∈Region.ready .any ops D:=(pV c1).2 ⟨o,ho,by rw[tO J true false];exact c2,c3⟩;refine⟨fun hr=>(by rw[hr]at uF;cases uF),fun j hj=>?_⟩;by_cases kD:j=i
   ·subst kD;exact⟨o,_,ho,aiL L hv,hh⟩
   exfalso;obtain⟨oj,h1,h2,h3⟩:=(pV c1).1 hj;have:j∈Region.ready .any ops (D.setIfInBounds i true):=(pV (by simpa using c1)).2 ⟨oj,h1,by
    rw[dQ,lU (Ne.symm kD),<-dQ];exact h2,fun k hk=>by
    by_cases pW:i=k
    ·subst pW;rw[dQ,p7 J];rfl
    rw[dQ,lU pW,<-dQ];exact h3 k hk⟩
   rw[hh.1]at this;cases this
  |succ n ih =>
   intro D L ⟨c1,c2,c3,c4⟩ hv hfo hh;have uF:i∈Region.ready .any ops D:=(pV c1).2 ⟨o,ho,by rw[tO J true false];exact c2,c3⟩;refine⟨fun hr=>(by rw[hr]at uF;cases uF),fun j hj=>?_⟩;by_cases kD:j=i
   ·subst kD;exact⟨o,_,ho,aiL L hv,hh⟩
   obtain⟨oj,h1,h2,h3⟩:=(pV c1).1 hj;have hjl:j<ops.size:=(lX.1 h1).1;have vV:D.getD j false=false:=by rw[tO J false true];exact h2
   have arG:j∈Region.ready .any ops (D.setIfInBounds i true):=(pV (by simpa using c1)).2 ⟨oj,h1,by
    rw[dQ,lU (Ne.symm kD),<-dQ];exact h2,fun k hk=>by
    by_cases pW:i=k
    ·subst pW;rw[dQ,p7 J];rfl
    rw[dQ,lU pW,<-dQ];exact h3 k hk⟩
   obtain⟨oj',L2,g1,g2,g3⟩:=hh.2 j arG;rw[h1]at g1;cases g1;obtain⟨k1,k2,k3,k4⟩:=c4 j oj h1 kD vV;have mJ:d∉oj.looksAt ops:=fun hm=>by
    have:=h3 i (k3 hm);rw[c2]at this;cases this
   obtain⟨L1,s1,s2,s3⟩:=aLe hfv k1 mJ k2 g2;have aer:∀x∈o.op.operands,L1.ev x=L.ev x:=fun x hx=>by
    cases x with
    |tmp t =>
     have ht:t∈o.looksAt ops:=by
      unfold Oper.looksAt;simp only[nC,aaF];exact .inl ⟨.tmp t,by simpa using hx,rfl⟩
     exact s3 t (fun q=>k4 t q ht) (hfo _ hx)
    |const v=>rfl
    |func f=>rfl
    |global f=>rfl
   refine⟨oj,L1,h1,s1,ih (D.setIfInBounds j true) L1 ⟨by simpa using c1,?_,fun k hk=>?_,fun k ok hk aZ gi=>?_⟩ (hv.aoa alJ aer) (fun x hx b=>by rw[aer x hx];exact hfo x hx b) ?_⟩
   ·rw[dQ,lU kD,<-dQ];exact c2
   ·by_cases ya:j=k
    ·subst ya;rw[dQ,p7 J];rfl
    rw[dQ,lU ya,<-dQ];exact c3 k hk
   ·by_cases ya:j=k
    ·subst ya;rw[dQ,p7 J]at gi
     cases gi
    rw[dQ,lU ya,<-dQ]at gi;exact c4 k ok hk aZ gi
   rw[<-s2];have:(D.setIfInBounds j true).setIfInBounds i true=(D.setIfInBounds i true).setIfInBounds j true:=by
    refine atz fun k=>?_;by_cases q1:i=k
    ·subst q1;rw[p7 aQ,lU kD,p7 J]
    by_cases q2:j=k
    ·subst q2;rw[lU q1,p7 J,p7 aQ]
    rw[lU q1,lU q2,lU q2,lU q1]
   rw[this];exact g3
 exact main m D L hC hv aEn h
end
end Go.Lg
end
