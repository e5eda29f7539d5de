/- Texts J27, J31, J32, J33, J34, J35, J37, J38, A12, J9, J28, J29, J16, J44 of this proof, joined. -/
import Derived.Test.YtbkmfcmgilhaaaaGreatQW8
set_option linter.unusedVariables false
set_option linter.unusedSimpArgs false
open Bool renaming and_self->sf
open Go.Proofs.Tryz renaming func10->asR,func11->arl,func25->avr,func37->aCp,prog->ai,underlying25->dp,underlying26->mg,underlying43->uW,underlying73->zF,underlying78->aeC,underlying95->af0
open Int renaming emod_lt_of_pos->aaE,emod_nonneg->aaQ
open List renaming append_assoc->pn,append_nil->ey,drop_length->abX,eq_of_mem_replicate->am7,forall_mem_cons->am4,getD->auw,getD_eq_getElem?_getD->bq,getElem?_append_left->ab6,getElem?_append_right->abt,getElem?_eq_getElem->ck,getElem?_map->jY,getElem?_replicate->zU,getElem_mem->qX,length_cons->dR,length_drop->jD,length_map->cC,length_nil->fX,length_replicate->oG,length_set->lQ,map->oC,map_append->wj,map_nil->gy,mem_append->nC,mem_cons->dS,mem_cons_self->su,mem_map->cZ,mem_singleton->iM,nil_append->fD,not_mem_nil->jR,range->cN,replicate->av,set_cons_succ->du,set_cons_zero->dD,take_append_drop->ur,take_nil->gU,take_of_length_le->cy
open List.range renaming loop->uA
open Nat renaming le_refl->bF,le_trans->aP,reduceAdd->bp,reduceBEq->bh,reduceEqDiff->dC,reduceMul->bo,zero_le->bW
open Rat renaming div_def->gQ,le_refl->jM,mul_comm->yQ,mul_inv_cancel->fV,mul_pos->zW
section
set_option linter.unusedVariables false
set_option linter.unusedSimpArgs false
set_option maxHeartbeats 8000000
set_option maxRecDepth 100000
attribute [local irreducible] Go.Lg.opsL Go.Lg.c9 Go.Lg.oF Go.Lg.qF
namespace Go.Proofs.YtbkmfcmgilhaaaaGreat
open Go.Lg
namespace ao2
theorem aJ{p q:Prop}(k:q)(e:p=q:=by simp only[bD,bo,bp,bh,w9,abh,List.map_cons,gy,dR,fX,jt,dR,fX,fD,gy,gU,ey,List.getD_cons_zero,List.getD_cons_succ,dD,du,dC,reduceIte,if_true,if_false,dW,LV.kill,bC];exact rfl):p:=e.mpr k
end ao2
open ao2 in
theorem aHp(d:Nat)(K:List Rat)(po:List aF)(a b:Rat)(ze:an ai 98 [.list 3 (K.map ae)] (.list 3 ([a,b].map ae))):an ai 37 [.agg [ah d,.list 3 (K.map ae),.list 12 (po.map aA)]] (.list 3 [.agg [ah d,.list 3 (K.map ae),.list 12 (po.map aA)]]):=by
 have hc:LV.pure (.agg [ah d,.list 3 (K.map ae),.list 12 (po.map aA)])=true:=eN;have ju:aO [.agg [ah d,.list 3 (K.map ae),.list 12 (po.map aA)]]=true:=ago;refine aL aCp (ht:=(fun g=>LV.db g _ eN)) ?_;refine bf (ze) ?_;refine b7 ?_;refine xV ?_;refine b7 ?_;refine vM ?_;refine bH ?_;refine pJ ?_;refine gv rfl rfl (abQ (z:=.agg [.v (.int .i64 0),.v (.slice none 0 0),.v (.slice none 0 0)]) (v:=.agg [ah d,.list 3 (K.map ae),.list 12 (po.map aA)]) aeC Z28 rfl rfl fo rfl rfl rfl hc aj aj) ?_;refine cj rfl (.zG (d:=37) (sz:=3) (news:=[.agg [ah d,.list 3 (K.map ae),.list 12 (po.map aA)]]) (z:=.agg [.v (.int .i64 0),.v (.slice none 0 0),.v (.slice none 0 0)]) rfl rfl aeC aeC Z28 fo rfl B28 (.inl ⟨36,0,_,rfl,rfl,rfl,by simp,rfl,ju⟩) aE aE aE aj) ?_;refine aK ?_;exact lZ [37] rfl rfl (abG rfl rfl ju aE)
open ao2 in
theorem aIK(d:Nat)(K:List Rat)(po:List aF)(a t b:Rat)(KA KZ:List Rat)(pA pZ:List aF)(ze:an ai 98 [.list 3 (K.map ae)] (.list 3 ([a,t,b].map ae)))(hSp:an ai 99 [.agg [ah d,.list 3 (K.map ae),.list 12 (po.map aA)],ae t] (.aY [.agg [ah d,.list 3 (KA.map ae),.list 12 (pA.map aA)],.agg [ah d,.list 3 (KZ.map ae),.list 12 (pZ.map aA)],iL 0])):an ai 37 [.agg [ah d,.list 3 (K.map ae),.list 12 (po.map aA)]] (.list 3 [.agg [ah d,.list 3 (KA.map ae),.list 12 (pA.map aA)],.agg [ah d,.list 3 (KZ.map ae),.list 12 (pZ.map aA)]]):=by
 have hc:LV.pure (.agg [ah d,.list 3 (K.map ae),.list 12 (po.map aA)])=true:=eN;have ju:aO [.agg [ah d,.list 3 (K.map ae),.list 12 (po.map aA)]]=true:=ago;have ha:LV.pure (.agg [ah d,.list 3 (KA.map ae),.list 12 (pA.map aA)])=true:=eN;have yH:aO [.agg [ah d,.list 3 (KA.map ae),.list 12 (pA.map aA)]]=true:=ago;have hz:LV.pure (.agg [ah d,.list 3 (KZ.map ae),.list 12 (pZ.map aA)])=true:=eN;have p9:aO [.agg [ah d,.list 3 (KZ.map ae),.list 12 (pZ.map aA)]]=true:=ago;have aAO:aO [.agg [ah d,.list 3 (KA.map ae),.list 12 (pA.map aA)],.agg [ah d,.list 3 (KZ.map ae),.list 12 (pZ.map aA)]]=true:=ago;refine aL aCp (ht:=(fun g=>LV.db g _ eN)) ?_;refine bf (ze) ?_;refine b7 ?_;refine xV ?_;refine b7 ?_;refine qO (b:=_) rfl (rfl) ?_;refine aW ?_;refine iZ (fun L=>∃  (L1:St),(True)/\L=(mS L1 [(1,⟨3,[.agg [ah d,.list 3 (K.map ae),.list 12 (po.map aA)]],true⟩),(6,⟨3,[.agg [ah d,.list 3 (KA.map ae),.list 12 (pA.map aA)]],true⟩),(7,⟨3,[.agg [ah d,.list 3 (KZ.map ae),.list 12 (pZ.map aA)]],true⟩)] [(7,.aB 7 3 0 0),(6,.aB 6 3 0 0),(5,iL 1),(4,.list 3 ([a,t,b].map ae)),(3,.v (.slice none 0 0)),(1,.aB 1 3 0 0)])) ?_ ?_
 ·refine ack ?_;refine fx 1 rfl rfl aG (.pure (.move _)) gu fy ?_;refine fx 2 rfl rfl aG (.pure (.move _)) gu fy ?_;refine fx 3 rfl rfl aG (.pure (.qt (n:=1) (r:=ae t) rfl dp cS rfl aj rfl (ao.aq _))) gu fy ?_;refine fx 4 rfl rfl aG (.pure gJ) gu fy ?_;refine af2 0 10 11 _ _ _ aG rfl rfl rfl ?_ ?_ ?_
  ·refine pJ ?_;refine iy ?_;refine af2 5 10 11 _ _ _ aG rfl rfl rfl ?_ ?_ ?_
   ·refine afR ?_;refine jy 10 11 _ _ aG rfl rfl ?_ ?_
    ·refine eT ?_;refine di 11 _ aG rfl ?_;refine agi ?_;exact yo
    refine eT ?_;refine di 10 _ aG rfl ?_;refine agi ?_;exact yo
   ·refine eT ?_;refine jy 5 11 _ _ aG rfl rfl ?_ ?_
    ·refine afR ?_;refine di 11 _ aG rfl ?_;refine agi ?_;exact yo
    refine eT ?_;refine afd ?_;exact yo
   refine eT ?_;refine jy 5 10 _ _ aG rfl rfl ?_ ?_
   ·refine afR ?_;refine di 10 _ aG rfl ?_;refine agi ?_;exact yo
   refine eT ?_;refine afd ?_;exact yo
  ·refine eT ?_;refine jy 0 11 _ _ aG rfl rfl ?_ ?_
   ·refine pJ ?_;refine iy ?_;refine jy 5 11 _ _ aG rfl rfl ?_ ?_
    ·refine afR ?_;refine di 11 _ aG rfl ?_;refine agi ?_;exact yo
    refine eT ?_;refine afd ?_;exact yo
   refine eT ?_;refine di 0 _ aG rfl ?_;refine pJ ?_;refine iy ?_;refine afd ?_;exact yo
  refine eT ?_;refine jy 0 10 _ _ aG rfl rfl ?_ ?_
  ·refine pJ ?_;refine iy ?_;refine jy 5 10 _ _ aG rfl rfl ?_ ?_
   ·refine afR ?_;refine di 10 _ aG rfl ?_;refine agi ?_;exact yo
   refine eT ?_;refine afd ?_;exact yo
  refine eT ?_;refine di 0 _ aG rfl ?_;refine pJ ?_;refine iy ?_;refine afd ?_;exact yo
 rintro _ ⟨LR6,-,rfl⟩;refine bn ?_;refine afn ((au.cx (t:=6) (b:=6) rfl rfl cs rfl ha).trans (au.cx (t:=7) (b:=7) rfl rfl cs rfl hz)) ?_;refine fx 1 rfl rfl aG (.pure (.kQ rfl ha cs rfl)) (fun b=>LV.oH b _ ha) fy ?_;refine fx 4 rfl rfl aG (.pure (.kQ rfl hz cs rfl)) (fun b=>LV.oH b _ hz) fy ?_;refine jy 0 2 _ _ aG rfl rfl ?_ ?_
 ·refine eT ?_;refine di 2 _ aG rfl ?_;refine atD ?_;refine di 3 _ aG rfl ?_;refine cj rfl atk ?_;refine iy ?_;refine ac4 ?_;refine pb aG ?_;refine bH ?_;refine xV ?_;refine aAj ?_;refine aK ?_;exact lZ [32] rfl rfl (abG rfl rfl aAO aE)
 refine atD ?_;refine di 0 _ aG rfl ?_;refine eT ?_;refine di 3 _ aG rfl ?_;refine cj rfl atk ?_;refine iy ?_;refine ac4 ?_;refine pb aG ?_;refine bH ?_;refine xV ?_;refine aAj ?_;refine aK ?_;exact lZ [32] rfl rfl (abG rfl rfl aAO aE)
theorem apx(a t b:Rat):bB 1 a t b=[a,a,t,b,b]:=rfl
theorem agN(a t b:Rat):bB 2 a t b=[a,a,a,t,b,b,b]:=rfl
theorem ad5(a t b:Rat):bB 3 a t b=[a,a,a,a,t,b,b,b,b]:=rfl
def fq(a t b:Rat):Rat:=(t-a)/(b-a)
def mD(f x y:Rat):Rat:=x+f*(y-x)
theorem aHr{a t b:Rat}(c0 c1 c2:Rat)(h1:a<t)(h2:t<b):dk (bB 1 a t b) 1 1 [c0,c1,c2] [a]=c0:=by
 have e1:(t-a)*(t-a)⁻¹=1:=fV _ ba;have e2:(b-a)*(b-a)⁻¹=1:=fV _ ba;have e3:(b-t)*(b-t)⁻¹=1:=fV _ ba;rw[apx];simp[dk,cK,ll,gF,cN,uA,gQ,mD,fq]
 try grind
theorem avn{a t b:Rat}(c0 c1 c2:Rat)(h1:a<t)(h2:t<b):dk (bB 1 a t b) 1 1 [c0,c1,c2] [t]=c1:=by
 have e1:(t-a)*(t-a)⁻¹=1:=fV _ ba;have e2:(b-a)*(b-a)⁻¹=1:=fV _ ba;have e3:(b-t)*(b-t)⁻¹=1:=fV _ ba;rw[apx];simp[dk,cK,ll,gF,cN,uA,gQ,mD,fq]
 try grind
theorem aKq{a t b:Rat}(c0 c1 c2:Rat)(h1:a<t)(h2:t<b):dk (bB 1 a t b) 1 2 [c0,c1,c2] [b]=c2:=by
 have e1:(t-a)*(t-a)⁻¹=1:=fV _ ba;have e2:(b-a)*(b-a)⁻¹=1:=fV _ ba;have e3:(b-t)*(b-t)⁻¹=1:=fV _ ba;rw[apx];simp[dk,cK,ll,gF,cN,uA,gQ,mD,fq]
 try grind
theorem aKL{a t b:Rat}(c0 c1 c2 c3:Rat)(h1:a<t)(h2:t<b):dk (bB 2 a t b) 2 2 [c0,c1,c2,c3] [a,a]=c0:=by
 have e1:(t-a)*(t-a)⁻¹=1:=fV _ ba;have e2:(b-a)*(b-a)⁻¹=1:=fV _ ba;have e3:(b-t)*(b-t)⁻¹=1:=fV _ ba;rw[agN];simp[dk,cK,ll,gF,cN,uA,gQ,mD,fq]
 try grind
theorem aEc{a t b:Rat}(c0 c1 c2 c3:Rat)(h1:a<t)(h2:t<b):dk (bB 2 a t b) 2 2 [c0,c1,c2,c3] [a,t]=c1:=by
 have e1:(t-a)*(t-a)⁻¹=1:=fV _ ba;have e2:(b-a)*(b-a)⁻¹=1:=fV _ ba;have e3:(b-t)*(b-t)⁻¹=1:=fV _ ba;rw[agN];simp[dk,cK,ll,gF,cN,uA,gQ,mD,fq]
 try grind
theorem auE{a t b:Rat}(c0 c1 c2 c3:Rat)(h1:a<t)(h2:t<b):dk (bB 2 a t b) 2 2 [c0,c1,c2,c3] [t,t]=mD (fq a t b) (c1) (c2):=by
 have e1:(t-a)*(t-a)⁻¹=1:=fV _ ba;have e2:(b-a)*(b-a)⁻¹=1:=fV _ ba;have e3:(b-t)*(b-t)⁻¹=1:=fV _ ba;rw[agN];simp[dk,cK,ll,gF,cN,uA,gQ,mD,fq]
 try grind
theorem aH4{a t b:Rat}(c0 c1 c2 c3:Rat)(h1:a<t)(h2:t<b):dk (bB 2 a t b) 2 3 [c0,c1,c2,c3] [t,b]=c2:=by
 have e1:(t-a)*(t-a)⁻¹=1:=fV _ ba;have e2:(b-a)*(b-a)⁻¹=1:=fV _ ba;have e3:(b-t)*(b-t)⁻¹=1:=fV _ ba;rw[agN];simp[dk,cK,ll,gF,cN,uA,gQ,mD,fq]
 try grind
theorem aMd{a t b:Rat}(c0 c1 c2 c3:Rat)(h1:a<t)(h2:t<b):dk (bB 2 a t b) 2 3 [c0,c1,c2,c3] [b,b]=c3:=by
 have e1:(t-a)*(t-a)⁻¹=1:=fV _ ba;have e2:(b-a)*(b-a)⁻¹=1:=fV _ ba;have e3:(b-t)*(b-t)⁻¹=1:=fV _ ba;rw[agN];simp[dk,cK,ll,gF,cN,uA,gQ,mD,fq]
 try grind
theorem aMn{a t b:Rat}(c0 c1 c2 c3 c4:Rat)(h1:a<t)(h2:t<b):dk (bB 3 a t b) 3 3 [c0,c1,c2,c3,c4] [a,a,a]=c0:=by
 have e1:(t-a)*(t-a)⁻¹=1:=fV _ ba;have e2:(b-a)*(b-a)⁻¹=1:=fV _ ba;have e3:(b-t)*(b-t)⁻¹=1:=fV _ ba;rw[ad5];simp[dk,cK,ll,gF,cN,uA,gQ,mD,fq]
 try grind
theorem aIL{a t b:Rat}(c0 c1 c2 c3 c4:Rat)(h1:a<t)(h2:t<b):dk (bB 3 a t b) 3 3 [c0,c1,c2,c3,c4] [a,a,t]=c1:=by
 have e1:(t-a)*(t-a)⁻¹=1:=fV _ ba;have e2:(b-a)*(b-a)⁻¹=1:=fV _ ba;have e3:(b-t)*(b-t)⁻¹=1:=fV _ ba;rw[ad5];simp[dk,cK,ll,gF,cN,uA,gQ,mD,fq]
 try grind
theorem aOx{a t b:Rat}(c0 c1 c2 c3 c4:Rat)(h1:a<t)(h2:t<b):dk (bB 3 a t b) 3 3 [c0,c1,c2,c3,c4] [a,t,t]=mD (fq a t b) (c1) (c2):=by
 have e1:(t-a)*(t-a)⁻¹=1:=fV _ ba;have e2:(b-a)*(b-a)⁻¹=1:=fV _ ba;have e3:(b-t)*(b-t)⁻¹=1:=fV _ ba;rw[ad5];simp[dk,cK,ll,gF,cN,uA,gQ,mD,fq]
 try grind
theorem aAI{a t b:Rat}(c0 c1 c2 c3 c4:Rat)(h1:a<t)(h2:t<b):dk (bB 3 a t b) 3 3 [c0,c1,c2,c3,c4] [t,t,t]=mD (fq a t b) (mD (fq a t b) (c1) (c2)) (mD (fq a t b) (c2) (c3)):=by
 have e1:(t-a)*(t-a)⁻¹=1:=fV _ ba;have e2:(b-a)*(b-a)⁻¹=1:=fV _ ba;have e3:(b-t)*(b-t)⁻¹=1:=fV _ ba;rw[ad5];simp[dk,cK,ll,gF,cN,uA,gQ,mD,fq]
 try grind
theorem aNL{a t b:Rat}(c0 c1 c2 c3 c4:Rat)(h1:a<t)(h2:t<b):dk (bB 3 a t b) 3 4 [c0,c1,c2,c3,c4] [t,t,b]=mD (fq a t b) (c2) (c3):=by
 have e1:(t-a)*(t-a)⁻¹=1:=fV _ ba;have e2:(b-a)*(b-a)⁻¹=1:=fV _ ba;have e3:(b-t)*(b-t)⁻¹=1:=fV _ ba;rw[ad5];simp[dk,cK,ll,gF,cN,uA,gQ,mD,fq]
 try grind
theorem aLT{a t b:Rat}(c0 c1 c2 c3 c4:Rat)(h1:a<t)(h2:t<b):dk (bB 3 a t b) 3 4 [c0,c1,c2,c3,c4] [t,b,b]=c3:=by
 have e1:(t-a)*(t-a)⁻¹=1:=fV _ ba;have e2:(b-a)*(b-a)⁻¹=1:=fV _ ba;have e3:(b-t)*(b-t)⁻¹=1:=fV _ ba;rw[ad5];simp[dk,cK,ll,gF,cN,uA,gQ,mD,fq]
 try grind
theorem aPD{a t b:Rat}(c0 c1 c2 c3 c4:Rat)(h1:a<t)(h2:t<b):dk (bB 3 a t b) 3 4 [c0,c1,c2,c3,c4] [b,b,b]=c4:=by
 have e1:(t-a)*(t-a)⁻¹=1:=fV _ ba;have e2:(b-a)*(b-a)⁻¹=1:=fV _ ba;have e3:(b-t)*(b-t)⁻¹=1:=fV _ ba;rw[ad5];simp[dk,cK,ll,gF,cN,uA,gQ,mD,fq]
 try grind
def mxQ(f:Rat)(p q:Q4):Q4:=⟨mD f p.x q.x,mD f p.y q.y,mD f p.z q.z,mD f p.w q.w⟩
theorem aec(f:Rat)(p q:aF):lb f p q=dz (mxQ f (de p) (de q)):=by
 have e:∀x w:Rat,1/w*x=x/w:=fun x w=>by rw[gQ,gQ,Rat.one_mul,yQ]
 unfold lb dz mxQ de kJ mD;simp only[e]
theorem aGp{z:Q4}(h:z.w≠0):de (dz z)=z:=by
 obtain⟨x,y,u,w⟩:=z;have h:w≠0:=h;have e:∀x:Rat,w*(x/w)=x:=fun x=>by rw[yQ,Rat.div_mul_cancel h]
 show (⟨w*(x/w),w*(y/w),w*(u/w),w⟩:Q4)=_;rw[e,e,e]
theorem al6{f:Rat}{p q:aF}(h:mD f p.w q.w≠0):de (lb f p q)=mxQ f (de p) (de q):=by rw[aec];exact aGp h
theorem au6{a t b:Rat}(h1:a<t)(h2:t<b):0<fq a t b/\fq a t b<1:=by
 have h:(0:Rat)<b-a:=ba;unfold fq;exact⟨by rw[Rat.lt_div_iff h];grind,by rw[Rat.div_lt_iff h];grind⟩
theorem aky{f x y:Rat}(h0:0<f)(h1:f<1)(hx:0<x)(hy:0<y):0<mD f x y:=by
 have a:=zW (show (0:Rat)<1-f by grind) hx;have b:=zW h0 hy;unfold mD;grind
theorem aLl(a t b:Rat)(p0 p1 p2 p3:aF):kt 2 3 1 (bB 2 a t b) t [p0,p1,p2,p3]=[p0,p1,lb (fq a t b) p1 p2,p2,p3]:=by rfl
theorem awu(a t b:Rat)(p0 p1 p2 p3 p4:aF):kt 3 4 1 (bB 3 a t b) t [p0,p1,p2,p3,p4]=[p0,p1,lb (fq a t b) p1 p2,lb (fq a t b) p2 p3,p3,p4]:=by rfl
theorem aGd(a t b:Rat)(p0 p1 m1 m2 p3 p4:aF):kt 3 5 2 [a,a,a,a,t,t,b,b,b,b] t [p0,p1,m1,m2,p3,p4]=[p0,p1,m1,lb (fq a t b) m1 m2,m2,p3,p4]:=by rfl
section
variable {a t b:Rat} (h1:a<t) (h2:t<b)
include h1 h2
theorem aJc(p0 p1 p2:aF)(w0:0<p0.w)(w1:0<p1.w)(w2:0<p2.w):(lI 1 a t b ([p0,p1,p2].map de)).map dz=[p0,p1]:=by
 show [dz (ig (bB 1 a t b) 1 1 _ [a]),dz (ig (bB 1 a t b) 1 1 _ [t])]=_;unfold ig;simp only[oC,aHr _ _ _ h1 h2,avn _ _ _ h1 h2];exact congr (congrArg _ (wC w0)) (congrArg (·::[]) (wC w1))
theorem aEZ(p0 p1 p2:aF)(w0:0<p0.w)(w1:0<p1.w)(w2:0<p2.w):(lP 1 a t b ([p0,p1,p2].map de)).map dz=[p1,p2]:=by
 show [dz (ig (bB 1 a t b) 1 1 _ [t]),dz (ig (bB 1 a t b) 1 2 _ [b])]=_;unfold ig;simp only[oC,avn _ _ _ h1 h2,aKq _ _ _ h1 h2];exact congr (congrArg _ (wC w1)) (congrArg (·::[]) (wC w2))
theorem aFr(p0 p1 p2 p3:aF)(w0:0<p0.w)(w1:0<p1.w):(lI 2 a t b ([p0,p1,p2,p3].map de)).map dz=[p0,p1,lb (fq a t b) p1 p2]:=by
 show [dz (ig (bB 2 a t b) 2 2 _ [a,a]),dz (ig (bB 2 a t b) 2 2 _ [a,t]),dz (ig (bB 2 a t b) 2 2 _ [t,t])]=_;unfold ig;simp only[oC,aKL _ _ _ _ h1 h2,aEc _ _ _ _ h1 h2,auE _ _ _ _ h1 h2,aec];exact congr (congrArg _ (wC w0)) (congr (congrArg _ (wC w1)) rfl)
theorem aF6(p0 p1 p2 p3:aF)(w2:0<p2.w)(w3:0<p3.w):(lP 2 a t b ([p0,p1,p2,p3].map de)).map dz=[lb (fq a t b) p1 p2,p2,p3]:=by
 show [dz (ig (bB 2 a t b) 2 2 _ [t,t]),dz (ig (bB 2 a t b) 2 3 _ [t,b]),dz (ig (bB 2 a t b) 2 3 _ [b,b])]=_;unfold ig;simp only[oC,auE _ _ _ _ h1 h2,aH4 _ _ _ _ h1 h2,aMd _ _ _ _ h1 h2,aec];exact congr (congrArg _ rfl) (congr (congrArg _ (wC w2)) (congrArg (·::[]) (wC w3)))
theorem ayk(p0 p1 p2 p3 p4:aF)(w0:0<p0.w)(w1:0<p1.w)(w2:0<p2.w)(w3:0<p3.w):(lI 3 a t b ([p0,p1,p2,p3,p4].map de)).map dz=[p0,p1,lb (fq a t b) p1 p2,lb (fq a t b) (lb (fq a t b) p1 p2) (lb (fq a t b) p2 p3)]:=by
 obtain⟨f0,f1⟩:=au6 h1 h2;have m1:=aky f0 f1 w1 w2;have m2:=aky f0 f1 w2 w3;show [dz (ig (bB 3 a t b) 3 3 _ [a,a,a]),dz (ig (bB 3 a t b) 3 3 _ [a,a,t]),dz (ig (bB 3 a t b) 3 3 _ [a,t,t]),dz (ig (bB 3 a t b) 3 3 _ [t,t,t])]=_;rw[aec (fq a t b) (lb _ _ _),al6 ba,al6 ba];unfold ig;simp only[oC,aMn _ _ _ _ _ h1 h2,aIL _ _ _ _ _ h1 h2,aOx _ _ _ _ _ h1 h2,aAI _ _ _ _ _ h1 h2,aec];exact congr (congrArg _ (wC w0)) (congr (congrArg _ (wC w1)) rfl)
theorem aAY(p0 p1 p2 p3 p4:aF)(w1:0<p1.w)(w2:0<p2.w)(w3:0<p3.w)(w4:0<p4.w):(lP 3 a t b ([p0,p1,p2,p3,p4].map de)).map dz=[lb (fq a t b) (lb (fq a t b) p1 p2) (lb (fq a t b) p2 p3),lb (fq a t b) p2 p3,p3,p4]:=by
 obtain⟨f0,f1⟩:=au6 h1 h2;have m1:=aky f0 f1 w1 w2;have m2:=aky f0 f1 w2 w3;show [dz (ig (bB 3 a t b) 3 3 _ [t,t,t]),dz (ig (bB 3 a t b) 3 4 _ [t,t,b]),dz (ig (bB 3 a t b) 3 4 _ [t,b,b]),dz (ig (bB 3 a t b) 3 4 _ [b,b,b])]=_;rw[aec (fq a t b) (lb _ _ _),al6 ba,al6 ba];unfold ig;simp only[oC,aAI _ _ _ _ _ h1 h2,aNL _ _ _ _ _ h1 h2,aLT _ _ _ _ _ h1 h2,aPD _ _ _ _ _ h1 h2,aec];exact congr (congrArg _ rfl) (congr (congrArg _ rfl) (congr (congrArg _ (wC w3)) (congrArg (·::[]) (wC w4))))
end
def kM(d m:Nat)(a t b:Rat):List Rat:=av (d+1) a++(av m t++av (d+1) b)
theorem ahr(d m:Nat)(a t b:Rat):(kM d m a t b).length=2*d+2+m:=by simp[kM];omega
theorem afO(d m:Nat)(a t b:Rat){i:Nat}(h:i<2*d+2+m):(kM d m a t b).getD i 0=if i<d+1 then a else if i<d+1+m then t else b:=by
 unfold kM;rw[bq];by_cases h1:i<d+1
 ·rw[if_pos h1,ab6 (by simpa using h1),zU,if_pos h1];rfl
 rw[if_neg h1,abt aQ];simp only[oG];by_cases h2:i<d+1+m
 ·rw[if_pos h2,ab6 aQ,zU,if_pos J];rfl
 rw[if_neg h2,abt aQ,zU,if_pos aQ];rfl
theorem aGR(d:Nat)(a t b:Rat):kM d d a t b=kS d a t b:=rfl
theorem aiB(d:Nat)(a t b:Rat):kM d 1 a t b=bB d a t b:=by
 refine List.ext_getElem (by rw[ahr,qB]) fun i g1 g2=>?_;have h:i<2*d+3:=by rw[qB]at g2;exact g2
 have e1:=afO d 1 a t b (i:=i) J;have e2:=fI d a t b i h;rw[bq,ck g1]at e1;rw[bq,ck g2]at e2;exact(show (kM d 1 a t b)[i]=_ from e1).trans (show (bB d a t b)[i]=_ from e2).symm
theorem aMS(d m:Nat)(a t b:Rat):(kM d m a t b).take (d+m+1)++t::(kM d m a t b).drop (d+m+1)=kM d (m+1) a t b:=by
 have e:kM d m a t b=(av (d+1) a++av m t)++av (d+1) b:=by unfold kM;rw[pn]
 have l:(av (d+1) a++av m t).length=d+m+1:=by rw[List.length_append,oG,oG];omega
 rw[e,List.take_left' l,List.drop_left' l];unfold kM;rw[pn,List.replicate_succ' (n:=m),pn];rfl
theorem axW{d m:Nat}{a t b:Rat}(h1:a<t)(h2:t<b):∀i,i<=2*d+2+m->fP (kM d m a t b) t i=if i<=d+1 then 0 else if i<=d+1+m then i-(d+1)else m
 |0,_=>by simp[fP]
 |i+1,hi=>by
  rw[fP,axW h1 h2 i J,afO d m a t b J];by_cases g1:i<d+1
  ·rw[if_pos g1,if_pos (show i<=d+1 by omega),if_neg (show ¬a=t by grind),if_pos (show i+1<=d+1 by omega)]
  by_cases g2:i<d+1+m
  ·rw[if_neg g1,if_pos g2,if_pos rfl,if_neg (by omega:¬i+1<=d+1),if_pos (by omega:i+1<=d+1+m)];split
   ·omega
   rw[if_pos J];omega
  rw[if_neg g1,if_neg g2,if_neg (by grind:¬b=t),if_neg (by omega:¬i+1<=d+1),if_neg (by omega:¬i+1<=d+1+m)];split
  ·omega
  split<;>omega
theorem aCo{d m:Nat}{a t b:Rat}(h1:a<t)(h2:t<b)(hd:d<=6)(hm:m<=6)(ha:rl a<=100)(ht:rl t<=100)(hb:rl b<=100):an ai 196 [.list 3 ((kM d m a t b).map ae),ae t] (ah m):=by
 have hl:=ahr d m a t b;have:=aPv (kM d m a t b) J (fun x hx=>by
  obtain⟨i,hi,rfl⟩:=List.getElem_of_mem hx;have e:=afO d m a t b (i:=i) J;rw[bq,ck hi]at e;have e:(kM d m a t b)[i]=_:=e;rw[e];split
  ·omega
  split<;>omega) t J
 rwa[hl,axW h1 h2 _ (bF _),if_neg J,if_neg J]at this
theorem akb{d m:Nat}{a t b:Rat}{R:Nat}(ha:rl a<=R)(ht:rl t<=R)(hb:rl b<=R):∀x∈kM d m a t b,rl x<=R:=fun x hx=>by
 unfold kM at hx;rcases nC.1 hx with h|h
 ·rw[am7 h];exact ha
 rcases nC.1 h with h|h
 ·rw[am7 h];exact ht
 rw[am7 h];exact hb
theorem arf{d m:Nat}{a t b:Rat}(h1:a<t):∀j,j<d+m+1->(kM d m a t b).getD j 0<=t:=fun j hj=>by
 rw[afO d m a t b J];split
 ·grind
 rw[if_pos J];grind
theorem aj0{d m:Nat}{a t b:Rat}(h2:t<b){j:Nat}(g:d+m<j)(hj:j<2*d+2+m):t<(kM d m a t b).getD j 0:=by
 rw[afO d m a t b hj,if_neg J,if_neg J];exact h2
theorem aMD{d m:Nat}{a t b:Rat}(h1:a<t)(h2:t<b)(hd:d<=6)(hm:m<=6)(ha:rl a<=100)(ht:rl t<=100)(hb:rl b<=100):ivK d (kM d m a t b) (d+m) t:=by
 have hl:=ahr d m a t b;exact⟨hd,J,J,akb ha ht hb,J,arf h1 0 J,by rw[hl];exact Rat.le_of_lt (aj0 h2 J J),J,J,arf h1 _ J,fun i g hi=>aj0 h2 g J⟩
theorem aCu{d m:Nat}{a t b:Rat}{P:List aF}{R:Nat}(h1:a<t)(h2:t<b)(iG:1<=d)(hd:d<=6)(iX:1<=m)(hm:m<=6)(ha:rl a<=100)(ht:rl t<=100)(hb:rl b<=100)(hR:R<=1000000)(hP:P.length=d+1+m)(fe:∀q∈P,oO R q):
  an ai 197 [.agg [ah d,.list 3 ((kM d m a t b).map ae),.list 12 (P.map aA)],ae t] (.agg [ah d,.list 3 ((kM d (m+1) a t b).map ae),.list 12 ((kt d (d+m) m (kM d m a t b) t P).map aA)]):=by
 have hl:=ahr d m a t b;have:=aKx d (d+m) m (kM d m a t b) t P R hR J J J J iX iG J J J (fun x hx=>aP (akb ha ht hb x hx) aj) J fe (arf h1) (aj0 h2 J J) (amJ d _ (d+m) t (aMD h1 h2 hd hm ha ht hb)) (aCo h1 h2 hd hm ha ht hb);rwa[aMS]at this
theorem aPm{d m:Nat}{a t b:Rat}(h1:a<t)(h2:t<b)(hd:d<=6)(hm:m<=6)(ha:rl a<=100)(ht:rl t<=100)(hb:rl b<=100):an ai 195 [.list 3 ((kM d m a t b).map ae),ae t] (bL true):=by
 have hl:=ahr d m a t b;exact aDX (kM d m a t b) t J J (fun x hx=>aP (akb ha ht hb x hx) aj) J (by rw[afO d m a t b J,if_pos J];exact h1) (by rw[hl];exact aj0 h2 J J)
def wY(d:Nat)(a t b:Rat)(po:List aF)(m:Nat):List aF :=
 if m<=1 then po else if m=2 then kt d (d+1) 1 (kM d 1 a t b) t po else kt d (d+2) 2 (kM d 2 a t b) t (kt d (d+1) 1 (kM d 1 a t b) t po)
theorem aIt{d:Nat}{a t b:Rat}{po:List aF}(h1:a<t)(h2:t<b)(iG:1<=d)(hd:d<=3)(ha:rl a<=100)(ht:rl t<=100)(hb:rl b<=100)(hl:po.length=d+2)(fe:∀q∈po,oO 7 q)(aMi:d=3->∀q∈kt d (d+1) 1 (kM d 1 a t b) t po,oO 7 q):
  an ai 99 [.agg [ah d,.list 3 ((kM d 1 a t b).map ae),.list 12 (po.map aA)],ae t] (.aY [.agg [ah d,.list 3 ((a8 d a t).map ae),.list 12 (((wY d a t b po d).take (d+1)).map aA)],.agg [ah d,.list 3 ((a8 d t b).map ae),.list 12 (((wY d a t b po d).drop d).map aA)],iL 0]):=by
 have e1:wY d a t b po 1=po:=if_pos (bF _);have e2:wY d a t b po 2=kt d (d+1) 1 (kM d 1 a t b) t po:=(if_neg aj).trans (if_pos rfl);have e3:wY d a t b po 3=kt d (d+2) 2 (kM d 2 a t b) t (kt d (d+1) 1 (kM d 1 a t b) t po):=(if_neg aj).trans (if_neg aj);have l2:(kt d (d+1) 1 (kM d 1 a t b) t po).length=d+3:=by rw[ahY];omega
 have l3:(wY d a t b po d).length=2*d+1:=by
  rcases(show d=1\/d=2\/d=3 by omega)with rfl|rfl|rfl
  ·rw[e1];omega
  ·rw[e2];omega
  rw[e3,ahY];omega
 have main:=aJh d a t b iG J h1 h2 J J J (fun m=>kM d m a t b) (wY d a t b po) (aGR d a t b) l3 (aPm h1 h2 J aj ha ht hb) (fun m g1 g2=>aCo h1 h2 J J ha ht hb) (fun m g1 g2=>by
  rcases(show m=1\/m=2 by omega)with rfl|rfl
  ·rw[e1,e2];exact aCu h1 h2 iG J aj aj ha ht hb aj J fe
  obtain rfl:d=3:=J;rw[e2,e3];exact aCu h1 h2 iG J aj aj ha ht hb aj J (aMi rfl))
 rw[e1]at main;exact main
theorem aH5{d:Nat}{a t b:Rat}{po:List aF}(h1:a<t)(h2:t<b)(iG:1<=d)(hd:d<=3)(hl:po.length=d+2)(hw:∀q∈po,0<q.w):
  (wY d a t b po d).take (d+1)=(lI d a t b (po.map de)).map dz/\(wY d a t b po d).drop d=(lP d a t b (po.map de)).map dz:=by
 rcases(show d=1\/d=2\/d=3 by omega)with rfl|rfl|rfl
 ·match po,hl with
  | [p0,p1,p2],_ =>
   have w0:=hw p0 aE;have w1:=hw p1 aE;have w2:=hw p2 aE;rw[aJc h1 h2 p0 p1 p2 w0 w1 w2,aEZ h1 h2 p0 p1 p2 w0 w1 w2];exact⟨rfl,rfl⟩
 ·match po,hl with
  | [p0,p1,p2,p3],_ =>
   have w0:=hw p0 aE;have w1:=hw p1 aE;have w2:=hw p2 aE;have w3:=hw p3 aE;rw[aFr h1 h2 p0 p1 p2 p3 w0 w1,aF6 h1 h2 p0 p1 p2 p3 w2 w3];have e:wY 2 a t b [p0,p1,p2,p3] 2=[p0,p1,lb (fq a t b) p1 p2,p2,p3]:=by
    unfold wY;rw[if_neg aj,if_pos rfl,aiB];exact aLl a t b p0 p1 p2 p3
   rw[e];exact⟨rfl,rfl⟩
 match po,hl with
 | [p0,p1,p2,p3,p4],_ =>
  have w0:=hw p0 aE;have w1:=hw p1 aE;have w2:=hw p2 aE;have w3:=hw p3 aE;have w4:=hw p4 aE;rw[ayk h1 h2 p0 p1 p2 p3 p4 w0 w1 w2 w3,aAY h1 h2 p0 p1 p2 p3 p4 w1 w2 w3 w4];have e:wY 3 a t b [p0,p1,p2,p3,p4] 3=[p0,p1,lb (fq a t b) p1 p2,lb (fq a t b) (lb (fq a t b) p1 p2) (lb (fq a t b) p2 p3),lb (fq a t b) p2 p3,p3,p4]:=by
   unfold wY;rw[if_neg aj,if_neg aj,aiB];show kt 3 5 2 (kM 3 2 a t b) t (kt 3 4 1 (bB 3 a t b) t [p0,p1,p2,p3,p4])=_;rw[awu a t b p0 p1 p2 p3 p4];exact aGd a t b p0 p1 (lb (fq a t b) p1 p2) (lb (fq a t b) p2 p3) p3 p4
  rw[e];exact⟨rfl,rfl⟩
theorem avD{d:Nat}{k:List Rat}{po:List aF}{a b:Rat}(h:ob d k po a b):an ai 37 [.agg [ah d,.list 3 (k.map ae),.list 12 (po.map aA)]] (.list 3 (((nO d k po).map ko).map cR)):=by
 obtain⟨D,N,c,hD,hN⟩:=h.c;obtain⟨E,e0,e1,hP⟩:=h.dr.pcs c;have hd:=h.dr.d1;have h3:=h.dr.d3;have ra:=td h.dr.ca;have rb:=td h.dr.cb;rcases h.dr.kn with⟨rfl,hl⟩|⟨t,g1,g2,ht,rfl,hl⟩
 ·have gz:=kz d a b;have ze:=aCD (a8 d a b) J (fun x hx=>aP (adG (R:=10) J J x hx) aj);rw[axR h.dr.ab]at ze;rw[adq hl];exact aHp d (a8 d a b) po a b ze
 have gz:=qB d a t b;have rt:=td ht;have ze:=aCD (bB d a t b) J (fun x hx=>by rw[<-aiB]at hx;exact aP (akb (R:=10) J J J x hx) aj);rw[auS g1 g2]at ze;have hw:∀q∈po,0<q.w:=c.p;obtain⟨eA,eZ⟩:=aH5 g1 g2 hd h3 hl hw;have xl:∀q∈nO d (bB d a t b) po,∀z∈q.po,oO 7 z:=fun q hq=>(hP q hq).c.okR (acb hN e1 h3) (acb hD e1 h3) aj;rw[ahh hl]at xl ⊢;have o7:=xl _ (su ..);have hpZ:=xl _ (List.mem_cons_of_mem _ (su ..));have hSp:=aIt (po:=po) g1 g2 hd h3 J J J hl (c.okR (sa hN) (sa hD) aj) (fun e=>by
  subst e;intro q hq
  match po,hl with
  | [p0,p1,p2,p3,p4],_ =>
   rw[aiB]at hq;rw[show kt 3 (3+1) 1 (bB 3 a t b) t [p0,p1,p2,p3,p4]=_ from awu a t b p0 p1 p2 p3 p4]at hq;have w0:=hw p0 aE;have w1:=hw p1 aE;have w2:=hw p2 aE;have w3:=hw p3 aE;have w4:=hw p4 aE;have ajJ:∀z∈(lI 3 a t b ([p0,p1,p2,p3,p4].map de)).map dz,oO 7 z:=o7;have aje:∀z∈(lP 3 a t b ([p0,p1,p2,p3,p4].map de)).map dz,oO 7 z:=hpZ;rw[ayk g1 g2 p0 p1 p2 p3 p4 w0 w1 w2 w3]at ajJ;rw[aAY g1 g2 p0 p1 p2 p3 p4 w1 w2 w3 w4]at aje;simp only[dS,jR,or_false]at hq;rcases hq with rfl|rfl|rfl|rfl|rfl|rfl
   ·exact ajJ _ aE
   ·exact ajJ _ aE
   ·exact ajJ _ aE
   ·exact aje _ aE
   ·exact aje _ aE
   exact aje _ aE)
 rw[eA,eZ,aiB]at hSp;exact aIK d (bB d a t b) po a t b (a8 d a t) (a8 d t b) _ _ ze hSp
theorem au.aK7{L:St}{t b sz:Nat}(h:L.slot t=.v (.slice none 0 0))(hb:L.heap b=none):au L ((L.bO b (some ⟨sz,[],true⟩)).put (some t) (.ref b sz 0 0)):=by
 rintro n W X Z0 a w ⟨fA,bU,μ,Z,hc,hr⟩;have ke:∀id,μ b≠some id:=fun id e=>by rw[xb hc hb]at e;cases e
 refine⟨fA,bU,μ,Z,?_,fun s=>?_⟩
 ·rw[kH];refine⟨hc.cV,hc.m9,hc.kU,hc.nc,hc.inj,hc.own,hc.x0,hc.pY,hc.x1,fun c id blk g1 g2 g3=>?_,fun c id blk g1 g2 g3=>?_,fun c id g1=>?_⟩
  ·simp only[St.bO]at g2;split at g2
   ·rename_i e;subst e;exact absurd g1 (ke id)
   exact hc.ku c id blk g1 g2 g3
  ·simp only[St.bO]at g2;split at g2
   ·rename_i e;subst e;exact absurd g1 (ke id)
   exact hc.b9 c id blk g1 g2 g3
  obtain⟨bk,j1,cc,T,part,rest,j2,j3,j4⟩:=hc.heap c id g1;simp only[St.bO];split
  ·rename_i e;subst e;exact absurd g1 (ke id)
  exact⟨bk,j1,cc,T,part,rest,j2,j3,j4⟩
 rw[iU];split
 ·rename_i ef;subst ef;have e:=hr s;rw[h]at e;have e3:=e.2 rfl;simp only[aH]at e3;exact⟨by simp[LV.isAgg],fun _=>by simp only[aH];exact .inl ⟨e3.1,trivial⟩⟩
 exact hr s
def lh(na:Nat)(x:ga):LV:=.agg [.list 6 ((x.1.take na).map ar),.list 6 ((x.1.drop na).map ar),ah x.2.1,.list 1 (x.2.2.map eE)]
theorem bvE(na:Nat):jF (lh na) 4 true:=⟨fun _=>rfl,fun _=>rfl,fun x=>by simp only[lh,LV.pure,aO,bm bj,bm jH,sf]⟩
theorem bvZ:dM ai 93 (lh 1 ([],0,[])):=⟨Tryz.t93,_,by kernel_rfl,rfl,rfl,fun Z μ w=>by
 show cP Z μ w _ _;exact⟨_,_,rfl,rfl,adr 6,_,_,rfl,rfl,adr 6,_,_,rfl,rfl,⟨rfl,rfl⟩,_,_,rfl,rfl,adr 1,rfl⟩⟩
theorem aDC(na b:Nat)(x:ga):(lh na x).kill b=lh na x:=LV.oH b _ ((bvE na).pure x)
theorem aJI{α:Type}(e:α->LV)(x:α)(st jk:List α):((st.reverse++(x::jk)).map e)[st.length]?=some (e x):=by
 rw[wj,abt aE];simp
theorem aDJ{α:Type}(e:α->LV)(st l:List α):((st.reverse++l).map e).take st.length=st.reverse.map e:=by
 rw[wj,List.take_append_of_le_length aE,cy aE]
theorem aPp(na:Nat)(x:ga)(hna:na<=x.1.length)(hx:x.1.length<=100)(ht:x.2.2.length=x.1.length)(h0:0<x.1.length)(hv:∀y∈x.2.2,0<=y/\y<=1000)(hd:x.2.1<=1000)(hs:∀s∈x.1,rl s.1<=1000/\rl s.2<=1000):
  an ai 45 [lh na x] (.aY [lh na (nJ x),lh na (n5 x)]):=by
 have hl:(x.1.take na).length=na:=aab;have h:=aLj (x.1.take na) (x.1.drop na) x.2.1 x.2.2 J (by rw[jD];omega) (by rw[hl,jD];omega) J hv hd (fun s q=>hs s (List.mem_of_mem_take q)) (fun s q=>hs s (List.mem_of_mem_drop q));have e1:∀f:Sp->Sp,(if et x.2.2 x.2.2.length<(x.1.take na).length then(x.1.take na).set (et x.2.2 x.2.2.length) (f ((x.1.take na).getD (et x.2.2 x.2.2.length) default))else x.1.take na)=(x.1.set (gG x) (f (x.1.getD (gG x) default))).take na:=fun f=>by
  rw[hl];unfold gG;rw[List.take_set];split
  ·rename_i q;rw[bq,List.getElem?_take_of_lt q,<-bq]
  rename_i q;rw[List.set_eq_of_length_le (by rw[hl];omega)]
 have e2:∀f:Sp->Sp,(if et x.2.2 x.2.2.length<(x.1.take na).length then x.1.drop na else(x.1.drop na).set (et x.2.2 x.2.2.length-(x.1.take na).length) (f ((x.1.drop na).getD (et x.2.2 x.2.2.length-(x.1.take na).length) default)))=(x.1.set (gG x) (f (x.1.getD (gG x) default))).drop na:=fun f=>by
  rw[hl];unfold gG;rw[List.drop_set];split
  ·rfl
  rename_i q;rw[bq,List.getElem?_drop,show na+(et x.2.2 x.2.2.length-na)=et x.2.2 x.2.2.length by omega,<-bq]
 rw[e1,e1,e2,e2]at h;exact h
theorem aO9(na:Nat)(x:ga)(kd D W:Nat)(wd:Rat)(hx:x.1.length<=100)(hb:∀s∈x.1,cW 1000000 s)(uX:rl wd<=1000000):
  an ai 44 [lh na x,ah kd,.agg [ah D,ah W,ae wd]] (bL ((decide (kd=3\/kd=4)&&(decide (wd=0)||!tC x.1 wd))||decide (D<=x.2.1))):=by
 have h:=aJv (x.1.take na) (x.1.drop na) x.2.1 x.2.2 kd D W wd aab (by rw[jD];omega) (by rw[ur];exact hb) uX;rw[ur]at h;exact h
def fLk(c e:dP)(lk:mC)(x:ga):Prop:=∃(X Y:dP) (bX bY:ny),
 an ai 40 [cR c,ae ((x.1.take 1).getD 0 default).1,ae ((x.1.take 1).getD 0 default).2] (.aY [cR X,iL 0])/\an ai 40 [cR e,ae ((x.1.drop 1).getD 0 default).1,ae ((x.1.drop 1).getD 0 default).2] (.aY [cR Y,iL 0]) /\
 an ai 42 [cR X] (iq bX)/\an ai 42 [cR Y] (iq bY)/\an ai 41 [iq bX,iq bY] (bL (!(lk (x.1.take 1) (x.1.drop 1)).1))/\((lk (x.1.take 1) (x.1.drop 1)).1=false->an ai 43 [cR X,cR Y] (ah (mG (lk (x.1.take 1) (x.1.drop 1))))/\kV (lk (x.1.take 1) (x.1.drop 1))=0)
theorem aKN{D W na:Nat}{wd:Rat}{lk:mC}{s:RunT}(h1:s.2.1<=W):(yk D W na wd lk s).2.1<=W :=
 (ajP (D:=D) (W:=W) (na:=na) (wd:=wd) (lk:=lk) (fun s=>s.2.1<=W) (fun x st n cs hI=>by
  have rG:n<=W:=hI;rw[qn];split
  ·exact rG
  split
  ·show n+1<=W;omega
  split<;>(show n+1<=W;omega)) (im D s.1) (bF _) h1 (ahR D W na wd lk s)).1
section
attribute [local irreducible] cR
namespace aC1
theorem aJ{p q:Prop}(k:q)(e:p=q:=by simp only[bD,bo,bp,bh,hc5,w9,abh,esc,ecb,est,ehl,aDC,ahN,ata,cC,List.drop_zero,ecw,jt,dR,fX,fD,gy,gU,ey,dO bj,dO abT,dO (bvE 1),List.getD_cons_zero,List.getD_cons_succ,dD,du,dC,reduceIte,if_true,if_false,dW,LV.kill,bC,aon,dO dG];exact rfl):p:=e.mpr k
end aC1
open aC1 in
theorem aHi(d1 d2:Nat)(k1 k2:List Rat)(bg a9:List aF)(CA CB:List dP)(hA:CA.length<=10)(hB:CB.length<=10)(d w:Nat)(wd:Rat)(hd:d<=10)(hw:w<=4096)(uX:rl wd<=100)(lk:dP->dP->mC)(dm:dP->Sp)(I:dP->dP->ga->Prop)(qY:an ai 35 [.agg [ah d,ah w,ae wd]] (bL true))(hQ1:an ai 36 [.agg [ah d1,.list 3 (k1.map ae),.list 12 (bg.map aA)]] (bL true))(hQ2:an ai 36 [.agg [ah d2,.list 3 (k2.map ae),.list 12 (a9.map aA)]] (bL true))(uS:an ai 37 [.agg [ah d1,.list 3 (k1.map ae),.list 12 (bg.map aA)]] (.list 3 (CA.map cR)))(uD:an ai 37 [.agg [ah d2,.list 3 (k2.map ae),.list 12 (a9.map aA)]] (.list 3 (CB.map cR)))(hD1:∀c∈CA,an ai 19 [cR c] (ar (dm c)))(hD2:∀c∈CB,an ai 19 [cR c] (ar (dm c)))(P0:Program)(f0:Nat)(cp0:dP->dP->List LV)(hLk:∀c∈CA,∀e∈CB,afh P0 f0 (cp0 c e) d 1 2 (lk c e) (I c e))(hI0:∀c∈CA,∀e∈CB,I c e ([dm c]++[dm e],0,av 2 0))(hF:∀c∈CA,∀e∈CB,∀x,I c e x->fLk c e (lk c e) x):an ai 11 [.agg [ah d1,.list 3 (k1.map ae),.list 12 (bg.map aA)],.agg [ah d2,.list 3 (k2.map ae),.list 12 (a9.map aA)],.agg [ah d,ah w,ae wd]] (.aY [.list 4 ((qw d w wd lk dm CA CB (0,[])).2.map fv),iL 0]):=by
 have hc5:(LV.agg [ah d,ah w,ae wd]).aq=5:=by simp[LV.aq,dg,ao.aq]
 have abr:LV.pure (.agg [ah d1,.list 3 (k1.map ae),.list 12 (bg.map aA)])=true:=eN;have aat:LV.pure (.agg [ah d2,.list 3 (k2.map ae),.list 12 (a9.map aA)])=true:=eN;have kI:LV.pure (.agg [ah d,ah w,ae wd])=true:=aAc d w wd;have apE:=eY dG 3 CA;have anh:=eY dG 3 CB;refine aL arl (ht:=(iz (by simp only[LV.pure,ab8]) rfl)) ?_;have esc:True:=trivial;have ecb:True:=trivial;have est:True:=trivial;have ehl:True:=trivial;have ecw:True:=trivial;refine bG ?_;refine al rfl amb ?_;refine dN rfl (.cons (.pure kI) .nil) qY ?_;refine bc ?_;refine al oN (.fa rfl rfl rfl rfl cs (cU cs rfl) fo) ?_;refine dN oN (.cons (.pure abr) .nil) hQ1 ?_;refine adE ?_;refine bn ?_;refine al oN (.fa rfl rfl rfl rfl cs (cU cs rfl) fo) ?_;refine dN oN (.cons (.pure aat) .nil) hQ2 ?_;refine adE ?_;refine bc ?_;refine vM ?_;refine lN ?_;refine pJ ?_;refine dN rfl (.cons (.pure abr) .nil) uS ?_;refine pJ ?_;refine dN rfl (.cons (.pure aat) .nil) uD ?_;refine bN ?_;refine iS (au.kill _ 3) ?_;refine iS (au.kill _ 4) ?_
 refine iS (au.aK7 (t:=8) (b:=900) (sz:=4) rfl rfl) ?_;refine kR (fun(i:Nat) (s:qG) L=>(mS L [(5,⟨5,[.agg [ah d,ah w,ae wd]],true⟩),(900,⟨4,s.2.map fv,true⟩)] [(9,ah (w-s.1)),(8,.ref 900 4 0 s.2.length),(12,ah i),(11,.list 3 (CB.map cR)),(10,.list 3 (CA.map cR)),(5,.aB 5 5 0 0)])) (fun i s=>i<=CA.length/\qw d w wd lk dm (CA.drop i) CB s=qw d w wd lk dm CA CB (0,[])/\s.1<=w/\s.2.length<=i*20480) (fun i s=>CA.length-i) 0 (0,[]) ⟨bW _,rfl,bW _,bW _⟩ ?_;rintro i s L1 ⟨hi,hR,mb,yE⟩;refine bM ?_;refine aD rfl ?_ ?_<;>intro aN6 h45
 ·have cM:i<CA.length:=J;have hcA:=ak2 cM;have an7:=hD1 _ hcA;refine b7 ?_;refine kR (fun(j:Nat) (r:qG) L=>(mS L [(5,⟨5,[.agg [ah d,ah w,ae wd]],true⟩),(900,⟨4,r.2.map fv,true⟩)] [(13,ah j),(9,ah (w-r.1)),(8,.ref 900 4 0 r.2.length),(12,ah i),(11,.list 3 (CB.map cR)),(10,.list 3 (CA.map cR)),(5,.aB 5 5 0 0)])) (fun j r=>j<=CB.length/\ry d w wd lk dm (CA.getD i default) (CB.drop j) r=ry d w wd lk dm (CA.getD i default) CB s/\r.1<=w/\r.2.length<=i*20480+j*2048) (fun j r=>CB.length-j) 0 s ⟨bW _,rfl,mb,J⟩ ?_;rintro j r L2 ⟨hj,hQ,fR,mw⟩;refine bM ?_;refine aD rfl ?_ ?_<;>intro aMg h51
  ·have iH:j<CB.length:=J;have hcB:=ak2 iH;have aqJ:=hD2 _ hcB;have hQ3:ry d w wd lk dm (CA.getD i default) (CB.drop (j+1)) (ti d w wd lk dm (CA.getD i default) (CB.getD j default) r)=ry d w wd lk dm (CA.getD i default) CB s:=by rw[<-auT iH];exact hQ
   obtain⟨xH,hb2⟩:=apV (wd:=wd) (lk:=lk) (dm:=dm) (c:=(CA.getD i default)) (e:=(CB.getD j default)) hd hw (show r.1<=4096 by omega) mw;have gh:(ti d w wd lk dm (CA.getD i default) (CB.getD j default) r).1<=w:=aKN fR;have hLx:=hLk _ hcA _ hcB;have aDI:im d [([dm (CA.getD i default)]++[dm (CB.getD j default)],0,av 2 0)]<=2048:=by
    have s6:2^(d-0)<=2^10:=Nat.pow_le_pow_right aj J;have e10:(2:Nat)^10=1024:=rfl;rw[ac6];show 2*2^(d-0)-1+0<=_;omega
   have hBg:=aLV [dm (CA.getD i default)] [dm (CB.getD j default)] aE aE;refine bH ?_;refine al rfl aru ?_
   try refine aJ ?_
   refine al rfl (.aco dG rfl fo) ?_
   try refine aJ ?_
   refine dN rfl (.cons (.pure (dG.pure _)) .nil) an7 ?_
   try refine aJ ?_
   refine bI ?_;refine al rfl arB ?_
   try refine aJ ?_
   refine al rfl (.aco dG rfl fo) ?_
   try refine aJ ?_
   refine dN rfl (.cons (.pure (dG.pure _)) .nil) aqJ ?_
   try refine aJ ?_
   refine bn ?_
   try refine aJ ?_
   refine afr [59,65] rfl rfl (.cons (da (l:=[dm (CA.getD i default)]) bj rfl rfl aE) (.cons (da (l:=[dm (CB.getD j default)]) bj rfl rfl aE) .nil)) hBg ?_
   try refine aJ ?_
   refine gv rfl rfl (abQ (z:=lh 1 ([],0,[])) (v:=lh 1 ([dm (CA.getD i default)]++[dm (CB.getD j default)],0,av 2 0)) af0 bvZ rfl rfl pX rfl rfl rfl ((bvE 1).pure _) aj aj) ?_;refine aK ?_;refine iS (au.kill _ 59) ?_;refine iS (au.kill _ 65) ?_;refine lp4 (fun(st jk:List ga) (m:Nat) (cw:List lW) L=>(mS L [(5,⟨5,[.agg [ah d,ah w,ae wd]],true⟩),(900,⟨4,cw.map fv,true⟩),(67,⟨4,(st.reverse++jk).map (lh 1),true⟩)] [(14,.ref 67 4 0 st.length),(13,ah j),(9,ah (w-m)),(8,.ref 900 4 0 cw.length),(12,ah i),(11,.list 3 (CB.map cR)),(10,.list 3 (CA.map cR)),(5,.aB 5 5 0 0)])) (fun st jk m cw=>abU d w 1 wd (lk (CA.getD i default) (CB.getD j default)) (st,m,cw) (yk d w 1 wd (lk (CA.getD i default) (CB.getD j default)) ([([dm (CA.getD i default)]++[dm (CB.getD j default)],0,av 2 0)],r.1,r.2))/\(∀y∈st,I (CA.getD i default) (CB.getD j default) y)/\m<=w/\cw.length+im d st<=400000000) (fun st jk m cw=>im d st) ([([dm (CA.getD i default)]++[dm (CB.getD j default)],0,av 2 0)]) ([]) r.1 r.2 ⟨ahR _ _ _ _ _ _,fun y hy=>by rw[iM.1 hy];exact hI0 _ hcA _ hcB,fR,J⟩ ?_;rintro st jk m cw L3 ⟨hE,hIy,hm9,hc9⟩;refine bH ?_;refine aD rfl ?_ ?_<;>intro aQj h70
   ·obtain⟨x,st,rfl⟩:∃x s,st=x::s:=by
     cases st with
     |nil=>simp at h70
     |cons x s=>exact⟨x,s,rfl⟩
    have esc:=atN x st jk;have xsg:=aJI (lh 1) x st jk;have est:((st.reverse++(x::jk)).map (lh 1)).take (st.length+1-1)=st.reverse.map (lh 1):=aDJ (lh 1) st (x::jk);have hln:(x::st).length=st.length+1:=rfl;have nT:=hIy x aE;have xD:∀y∈st,I _ _ y:=fun y hy=>hIy y (by simp[hy]);have hmw:=afJ d x;have hmc:=ac6 (D:=d) (x:=x) (st:=st);have vR:st.length+1<=im d (x::st):=anc (D:=d) (x::st);have zw:=hE.step;have bV:=hLx.len x nT;have vv:=hLx.sp x nT;have hdx:=hLx.dep x nT;have ecw:(cw.map fv).take cw.length=cw.map fv:=cy aE;obtain⟨X,Y,bX,bY,hCX,hCY,hBX,hBY,hMt,hTs⟩:=hF _ hcA _ hcB x nT;have lr:0<(x.1.take 1).length:=aab;have oK:0<(x.1.drop 1).length:=by rw[jD];omega
    refine bH ?_;refine jc ?_
    try refine aJ ?_
    refine al rfl (.wL rfl af0 pX rfl xZ xZ) ?_
    try refine aJ ?_
    refine al rfl (.fa (b:=67) (sz:=4) (i:=st.length) (o:=0) (x:=lh 1 x) (r:=lh 1 x) (n:=4) (ag:=true) rfl rfl rfl xsg rfl (cU rfl rfl) pX) ?_;refine bn ?_
    try refine aJ ?_
    refine cj rfl (.store rfl rfl rfl rfl rfl rfl (aa5 _ _ rfl rfl) pX ni) ?_;refine bK ?_;refine jc ?_;refine al rfl (.ahJ rfl af0 pX rfl om om) ?_;refine b7 ?_;refine aD rfl ?_ ?_<;>intro aQs h83
    ·have ahD:w<=m:=J;refine bI ?_
     try refine aJ ?_
     refine al rfl akW ?_;refine dN rfl (.cons (.pure ((bvE 1).pure x)) (.cons (.pure rfl) (.cons (.pure rfl) .nil))) (asK (x.1.take 1) (x.1.drop 1) x.2.1 x.2.2 1 0) ?_;refine gv rfl rfl (abQ (z:=fv ([],[],0,0)) (v:=(fv (rq 1 x (false,0,0)))) uW acw rfl rfl uR rfl rfl rfl (aeE _) aj aj) ?_
     try refine aJ ?_
     refine cj rfl (.eU (d:=900) (news:=[(fv (rq 1 x (false,0,0)))]) rfl rfl rfl rfl aE (.inl rfl) aj uW uW acw uR rfl B53 (.inl ⟨87,0,_,rfl,by decide,rfl,rfl,by simp,rfl,by simp only[aO,aeE,sf]⟩) aQ aQ aj) ?_;refine bK ?_;exact uv st (x::jk) m (cw++[rq 1 x (false,0,0)]) ⟨(aul (D:=d) ahD▸zw),xD,hm9,aqN⟩ (he:=(((au.kill _ 15).trans (au.kill _ 87))).trans (au.of_eq (aX (aX (aX (aX (aX (aX (aX (aX (jB vY) cl) cl) cl) cl) cl) cl) cl) cl)))
    have aQk:m<w:=J;have ahD:¬w<=m:=J;refine aW ?_;refine jc ?_;refine aK ?_;refine gE 19 [17] aG ?_;refine bc ?_;refine al rfl aru ?_
    try refine aJ ?_
    refine al rfl (.aco dG rfl fo) ?_;refine bn ?_
    try refine aJ ?_
    refine aAd ?_;refine bc ?_;refine aAd ?_;refine bn ?_
    try refine aJ ?_
    refine dN rfl (.cons (.pure (dG.pure _)) (.cons (.pure (ao.pure _)) (.cons (.pure (ao.pure _)) .nil))) hCX ?_;refine bn ?_;refine al rfl (.extract rfl rfl (LV.fh (dG.pure _))) ?_;refine bc ?_
    try refine aJ ?_
    refine cj rfl (.store rfl rfl rfl rfl rfl rfl (aa5 _ _ (dG.aq _).symm (dG.isAgg _).symm) (show bS _ _ (cR X).aq (cR X).isAgg by rw[dG.aq,dG.isAgg];exact fo) ⟨LV.fJ (dG.pure _),LV.fh (dG.pure _)⟩) ?_;refine aK ?_;refine gE 19 [17] aG ?_;refine bc ?_;refine al rfl arB ?_
    try refine aJ ?_
    refine al rfl (.aco dG rfl fo) ?_;refine bn ?_
    try refine aJ ?_
    refine axk ?_;refine bc ?_;refine axk ?_;refine bn ?_
    try refine aJ ?_
    refine dN rfl (.cons (.pure (dG.pure _)) (.cons (.pure (ao.pure _)) (.cons (.pure (ao.pure _)) .nil))) hCY ?_;refine bn ?_;refine al rfl (.extract rfl rfl (LV.fh (dG.pure _))) ?_;refine bc ?_
    try refine aJ ?_
    refine cj rfl (.store rfl rfl rfl rfl rfl rfl (aa5 _ _ (dG.aq _).symm (dG.isAgg _).symm) (show bS _ _ (cR Y).aq (cR Y).isAgg by rw[dG.aq,dG.isAgg];exact fo) ⟨LV.fJ (dG.pure _),LV.fh (dG.pure _)⟩) ?_;refine a6 ?_
    try refine aJ ?_
    refine al rfl (.fa (b:=16) (sz:=3) (i:=0) (o:=0) (x:=cR X) (r:=cR X) (n:=3) (ag:=true) rfl rfl rfl rfl (dG.aq _) (cU (dG.aq _) (dG.isAgg _)) fo) ?_;refine dN rfl (.cons (.pure (dG.pure _)) .nil) hBX ?_
    try refine aJ ?_
    refine al rfl (.fa (b:=18) (sz:=3) (i:=0) (o:=0) (x:=cR Y) (r:=cR Y) (n:=3) (ag:=true) rfl rfl rfl rfl (dG.aq _) (cU (dG.aq _) (dG.isAgg _)) fo) ?_;refine dN rfl (.cons (.pure (dG.pure _)) .nil) hBY ?_;refine dN rfl (.cons (.pure (ui.pure _)) (.cons (.pure (ui.pure _)) .nil)) hMt ?_;refine bI ?_;refine aD rfl ?_ ?_<;>intro aQu azp
    ·have ir:(lk (CA.getD i default) (CB.getD j default) (x.1.take 1) (x.1.drop 1)).1=true:=by simpa using azp
     refine aK ?_;exact uv st (x::jk) (m+1) cw ⟨(au9 (D:=d) ahD ir▸zw),xD,J,J⟩ (he:=((((au.kill _ 15).trans (au.kill _ 16)).trans (au.kill _ 18))).trans (au.of_eq (aX (aX (aX (aX (aX (aX (aX (aX (jB vY) cl) cl) cl) cl) cl) cl) cl) cl)))
    have hnd:(lk (CA.getD i default) (CB.getD j default) (x.1.take 1) (x.1.drop 1)).1=false:=by simpa using azp
    obtain⟨hTe,hkV⟩:=hTs hnd;have hNx:=aO9 1 x (mG (lk (CA.getD i default) (CB.getD j default) (x.1.take 1) (x.1.drop 1))) d w wd J (fun s hs=>(vv s hs).1.le aj) J;refine aK ?_
    try refine aJ ?_
    refine al rfl (.fa (b:=16) (sz:=3) (i:=0) (o:=0) (x:=cR X) (r:=cR X) (n:=3) (ag:=true) rfl rfl rfl rfl (dG.aq _) (cU (dG.aq _) (dG.isAgg _)) fo) ?_
    try refine aJ ?_
    refine al rfl (.fa (b:=18) (sz:=3) (i:=0) (o:=0) (x:=cR Y) (r:=cR Y) (n:=3) (ag:=true) rfl rfl rfl rfl (dG.aq _) (cU (dG.aq _) (dG.isAgg _)) fo) ?_;refine dN rfl (.cons (.pure (dG.pure _)) (.cons (.pure (dG.pure _)) .nil)) hTe ?_;refine a6 ?_
    try refine aJ ?_
    refine al rfl akW ?_;refine bn ?_;refine al rfl (.fa (b:=5) (sz:=5) (i:=0) (o:=0) (x:=.agg [ah d,ah w,ae wd]) (r:=.agg [ah d,ah w,ae wd]) (n:=5) (ag:=true) rfl rfl rfl rfl hc5 (cU hc5 rfl) T35) ?_;refine dN rfl (.cons (.pure ((bvE 1).pure x)) (.cons (.pure rfl) (.cons (.pure kI) .nil))) hNx ?_;refine bc ?_;refine aD rfl ?_ ?_<;>intro aFG aLt
    ·have ecb:rq 1 x (lk (CA.getD i default) (CB.getD j default) (x.1.take 1) (x.1.drop 1))=(x.1.take 1,x.1.drop 1,mG (lk (CA.getD i default) (CB.getD j default) (x.1.take 1) (x.1.drop 1)),0):=by unfold rq;rw[hkV]
     have ke:qx d wd x (lk (CA.getD i default) (CB.getD j default) (x.1.take 1) (x.1.drop 1))=true:=aLt;refine bI ?_
     try refine aJ ?_
     refine al rfl akW ?_;refine bn ?_;refine dN rfl (.cons (.pure ((bvE 1).pure x)) (.cons (.pure rfl) (.cons (.pure rfl) .nil))) (asK (x.1.take 1) (x.1.drop 1) x.2.1 x.2.2 (mG (lk (CA.getD i default) (CB.getD j default) (x.1.take 1) (x.1.drop 1))) 0) ?_;refine gv rfl rfl (abQ (z:=fv ([],[],0,0)) (v:=(fv (x.1.take 1,x.1.drop 1,mG (lk (CA.getD i default) (CB.getD j default) (x.1.take 1) (x.1.drop 1)),0))) uW acw rfl rfl uR rfl rfl rfl (aeE _) aj aj) ?_
     try refine aJ ?_
     refine cj rfl (.eU (d:=900) (news:=[(fv (x.1.take 1,x.1.drop 1,mG (lk (CA.getD i default) (CB.getD j default) (x.1.take 1) (x.1.drop 1)),0))]) rfl rfl rfl rfl aE (.inl rfl) aj uW uW acw uR rfl B53 (.inl ⟨144,0,_,rfl,by decide,rfl,rfl,by simp,rfl,by simp only[aO,aeE,sf]⟩) aQ aQ aj) ?_;refine bK ?_;exact uv st (x::jk) (m+1) (cw++[rq 1 x (lk (CA.getD i default) (CB.getD j default) (x.1.take 1) (x.1.drop 1))]) ⟨(ax8 (D:=d) ahD hnd ke▸zw),xD,J,aqN⟩ (he:=(((((au.kill _ 15).trans (au.kill _ 16)).trans (au.kill _ 18)).trans (au.kill _ 144))).trans (au.of_eq (aX (aX (aX (aX (aX (aX (aX (aX (jB vY) cl) cl) cl) cl) cl) cl) cl) cl)))
    have ehl:((nJ x::n5 x::st).reverse).map (lh 1)=st.reverse.map (lh 1)++[lh 1 (n5 x),lh 1 (nJ x)]:=aE;have ke:qx d wd x (lk (CA.getD i default) (CB.getD j default) (x.1.take 1) (x.1.drop 1))=false:=aFG;have mi:¬d<=x.2.1:=fun q=>by rw[amf q]at ke;cases ke
    have hmh:=akB (D:=d) (x:=x) (st:=st) mi;have hHv:=aPp 1 x J J J J (hLx.tm x nT) J (fun s hs=>⟨aP (vv s hs).1.1 aj,aP (vv s hs).1.2 aj⟩);refine aK ?_
    try refine aJ ?_
    refine al rfl akW ?_;refine dN rfl (.cons (.pure ((bvE 1).pure x)) .nil) hHv ?_;refine aW ?_
    try refine aJ ?_
    refine cj rfl (.store rfl rfl rfl rfl rfl rfl (aa5 _ _ rfl rfl) pX ni) ?_
    try refine aJ ?_
    refine cj rfl (.store rfl rfl rfl rfl rfl rfl (aa5 _ _ rfl rfl) pX ni) ?_;refine aK ?_
    try refine aJ ?_
    refine al rfl (.fa (b:=22) (sz:=4) (i:=0) (o:=0) (x:=lh 1 (n5 x)) (r:=lh 1 (n5 x)) (n:=4) (ag:=true) rfl rfl rfl rfl rfl (cU rfl rfl) pX) ?_
    try refine aJ ?_
    refine al rfl (.fa (b:=21) (sz:=4) (i:=0) (o:=0) (x:=lh 1 (nJ x)) (r:=lh 1 (nJ x)) (n:=4) (ag:=true) rfl rfl rfl rfl rfl (cU rfl rfl) pX) ?_
    try refine aJ ?_
    refine gv rfl rfl (.aqa (a:=n5 x) (b:=nJ x) (z:=([],0,[])) (bvE 1) af0 bvZ pX rfl rfl aj aj) ?_
    try refine aJ ?_
    refine cj rfl (.eU (d:=67) (news:=[lh 1 (n5 x),lh 1 (nJ x)]) rfl rfl rfl rfl aE (.inl rfl) aj af0 af0 bvZ pX rfl B93 (.inl ⟨154,0,_,rfl,by decide,rfl,rfl,by simp,rfl,by simp only[aO,(bvE 1).pure,sf]⟩) aQ aQ aj) ?_;refine aK ?_;exact uv (nJ x::n5 x::st) ([]) (m+1) cw ⟨(aj5 (D:=d) ahD hnd ke▸zw),fun y hy=>by
     simp only[dS]at hy;rcases hy with rfl|rfl|hy
     ·exact(hLx.half x nT J).1
     ·exact(hLx.half x nT J).2
     exact xD y hy,J,J⟩ (he:=(((((((au.kill _ 15).trans (au.kill _ 16)).trans (au.kill _ 18)).trans (au.kill _ 21)).trans (au.kill _ 22)).trans (au.kill _ 154))).trans (au.of_eq (aX (aX (aX (aX (aX (aX (aX (aX (jB vY) cl) cl) cl) cl) cl) cl) cl) cl)))
   obtain rfl:st=[]:=by
    cases st with
    |nil=>rfl
    |cons x s=>simp at h70
   have hR9:=hE.nil;have hP9:(ti d w wd lk dm (CA.getD i default) (CB.getD j default) r)=(m,cw):=by
    show (yk _ _ _ _ _ _).2=_;rw[hR9]
   obtain rfl:m=(ti d w wd lk dm (CA.getD i default) (CB.getD j default) r).1:=by rw[hP9]
   obtain rfl:cw=(ti d w wd lk dm (CA.getD i default) (CB.getD j default) r).2:=by rw[hP9]
   refine bH ?_;refine eP ?_;exact ja (j+1) (ti d w wd lk dm (CA.getD i default) (CB.getD j default) r) ⟨J,hQ3,gh,J⟩ (he:=((au.kill _ 67)).trans (au.of_eq (aX (aX (aX (aX (aX (aX (aX (jB vY) cl) cl) cl) cl) cl) cl) cl)))
  obtain rfl:CB.length=j:=J;have tL:r=ry d w wd lk dm (CA.getD i default) CB s:=by rw[<-hQ,abX];rfl
  have hR2:qw d w wd lk dm (CA.drop (i+1)) CB r=qw d w wd lk dm CA CB (0,[]):=by rw[tL,<-aBL cM];exact hR
  refine bH ?_;refine eP ?_;exact ja (i+1) r ⟨J,hR2,fR,J⟩
 obtain rfl:CA.length=i:=J;have hR3:s=qw d w wd lk dm CA CB (0,[]):=by rw[<-hR,abX];rfl
 refine dj ?_;subst hR3;exact adC [900] rfl rfl (da (l:=(qw d w wd lk dm CA CB (0,[])).2) abT rfl rfl rfl) rfl (.pure rfl)
end
theorem aKj(X Y:ny)(K:Nat):(!(w8 X Y K).1)=meB X Y:=by
 unfold w8;cases meB X Y<;>rfl
theorem aJn{X Y:ny}{K:Nat}(h:(w8 X Y K).1=false):w8 X Y K=(false,K,0):=by
 unfold w8 at h ⊢;split at h
 ·rename_i e;rw[if_pos e]
 cases h
theorem aMh{p q:jP}{Dp D N D' N':Nat}(hp:u9 p Dp D N)(hq:u9 q Dp D' N')(qc:Dp<=23){x:ga}(h:xM Dp p.a p.b q.a q.b x):fLk (ko p) (ko q) (xP p q) x:=by
 obtain⟨s,t,i,j,e,f,_,hd,hs,ht⟩:=h;have kF:mX Dp s:=⟨hs.1.le hd,hs.2.1.le hd,hs.2.2⟩;have ht':mX Dp t:=⟨ht.1.le hd,ht.2.1.le hd,ht.2.2⟩;have f1:=amw hp qc kF;have f2:=amw hq qc ht';have s1:=afs hp qc kF;have s2:=afs hq qc ht';have hT:=aFC hp hq qc kF ht';have hM:=aNZ _ _ 100 aj s1.box s2.box;obtain⟨X,n,m⟩:=x;obtain rfl:X=[cH p.a p.b s,cH q.a q.b t]:=e;refine⟨(p.d,a8 p.d (cH p.a p.b s).1 (cH p.a p.b s).2,fu p (cH p.a p.b s)),(q.d,a8 q.d (cH q.a q.b t).1 (cH q.a q.b t).2,fu q (cH q.a q.b t)),_,_,f1.cut,f2.cut,f1.bx,f2.bx,?_,?_⟩
 ·show an _ _ _ (bL (!(w8 _ _ _).1));rw[aKj];exact hM
 intro h1;have e:xP p q [cH p.a p.b s] [cH q.a q.b t]=_:=aJn h1;show an _ _ _ (ah (mG (xP p q [cH p.a p.b s] [cH q.a q.b t])))/\kV (xP p q [cH p.a p.b s] [cH q.a q.b t])=0;rw[e];refine⟨hT,?_⟩;unfold kV;split<;>rfl
theorem aG9{d e:Nat}{k m:List Rat}{po pq:List aF}{a b a' b':Rat}(h:ob d k po a b)(g:ob e m pq a' b')(dn w:Nat)(wd:Rat)(hd:dn<=10)(hw:w<=4096)(uX:rl wd<=100)(qY:an ai 35 [.agg [ah dn,ah w,ae wd]] (bL true)):
  an ai 11 [.agg [ah d,.list 3 (k.map ae),.list 12 (po.map aA)],.agg [ah e,.list 3 (m.map ae),.list 12 (pq.map aA)],.agg [ah dn,ah w,ae wd]] (.aY [.list 4 ((xL dn w wd (nO d k po) (nO e m pq)).2.map fv),iL 0]):=by
 have h3:=h.dr.d3;have g3:=g.dr.d3;have hl:po.length<=d+2:=by rcases h.dr.kn with⟨_,e⟩|⟨_,_,_,_,_,e⟩<;>omega
 have gl:pq.length<=e+2:=by rcases g.dr.kn with⟨_,e⟩|⟨_,_,_,_,_,e⟩<;>omega
 have l1:=afX d k po;have l2:=afX e m pq;have hKA:=h.pk (Dp:=dn) J;have hKB:=g.pk (Dp:=dn) J;have wR:∀(l:List jP),(∀q∈l,∃D N,u9 q dn D N)->∀c∈l.map ko,an ai 19 [cR c] (ar ((iK c).a,(iK c).b)):=fun l hK c hc=>by
  obtain⟨q,hq,rfl⟩:=cZ.1 hc;obtain⟨D,N,h⟩:=hK q hq;have h5:=h.d5;have ha:=h.ra;have hb:=h.rb;rw[aaV];exact af3 q.d q.a q.b q.po J J h.ab J
 refine aHi d e k m po pq ((nO d k po).map ko) ((nO e m pq).map ko) fW fW dn w wd hd hw uX (fun c e=>xP (iK c) (iK e)) (fun c=>((iK c).a,(iK c).b)) (fun c e=>xM dn (iK c).a (iK c).b (iK e).a (iK e).b) qY (amC d k po J h.z) (amC e m pq J g.z) (avD h) (avD g) (wR _ hKA) (wR _ hKB) ai 30 (fun c e=>[.cx (cR (ko (iK c))),.cx (cR (ko (iK e)))]) (fun c hc e he=>?_) (fun c hc e he=>aqS ..) (fun c hc e he x hx=>?_)
 ·obtain⟨p,hp,rfl⟩:=cZ.1 hc;obtain⟨q,hq,rfl⟩:=cZ.1 he;obtain⟨D,N,h⟩:=hKA p hp;obtain⟨D',N',h'⟩:=hKB q hq;simp only[aaV];exact ar3 h h' J
 obtain⟨p,hp,rfl⟩:=cZ.1 hc;obtain⟨q,hq,rfl⟩:=cZ.1 he;obtain⟨D,N,h⟩:=hKA p hp;obtain⟨D',N',h'⟩:=hKB q hq;simp only[aaV]at hx ⊢;exact aMh h h' J hx
theorem aEi{α β:Type}[Inhabited α](f:α->β)(l:List α)(d:α){i:Nat}(h:i<l.length):(l.map f).take i++[f (l.getD i d)]=(l.map f).take (i+1):=by
 rw[List.take_add_one,jY,bq,ck h];rfl
namespace ar2
theorem aJ{p q:Prop}(k:q)(e:p=q:=by simp only[bD,bo,bp,bh,fw,fg,cC,jt,dR,fX,fD,gy,gU,ey,dO ao,dD,du,dC,reduceIte,if_true,if_false,dW,LV.kill,bC];exact rfl):p:=e.mpr k
end ar2
open ar2 in
theorem aLs(l:List Int)(hl:l.length<=1000)(hb:∀x∈l,-1000<=x/\x<=1000):an ai 47 [.list 1 (l.map eE)] (.list 3 ((l.map fun x:Int=>(x:Rat)).map ae)):=by
 refine aL Tryz.func47 ?_;have fw:True:=trivial;have fg:True:=trivial;refine nh ?_;refine iS (au.own (t:=3) 18 3 rfl rfl) ?_;refine dy (fun(k:Nat) L=>(mS L [(18,⟨3,((l.map fun x:Int=>(x:Rat)).take k).map ae,true⟩)] [(4,ah k),(3,.ref 18 3 0 k),(0,.list 1 (l.map eE))])) (fun k=>k<=l.length) (fun k=>l.length-k) 0 (bW _) ?_;rintro k L1 hk;refine bM ?_;refine aD rfl ?_ ?_<;>intro nX h8
 ·have kK:k<l.length:=J;have mn:=hb (l.getD k 0) (by rw[bq,ck kK];exact qX kK);have fg:=aEi (fun x:Int=>(x:Rat)) l 0 kK;have fw:(((l.map fun x:Int=>(x:Rat)).take k).map ae).take k=((l.map fun x:Int=>(x:Rat)).take k).map ae:=cy wB;have hlr:(l.map fun x:Int=>(x:Rat)).length=l.length:=cC ..;refine bf (nZ (l.getD k 0) J J) ?_;refine bn ?_;refine cj rfl (.eU (d:=18) (news:=[ae ((l.getD k 0):Rat)]) rfl rfl rfl rfl aQ (.inl rfl) aj dp dp jg cS rfl jq (.inl ⟨17,0,_,rfl,by decide,rfl,rfl,by simp,rfl,by simp[aO,ao.pure]⟩) aQ aQ aj) ?_;refine aK ?_;refine cO (au.kill _ 17) ?_;refine nL ?_;exact ji (k+1) J
 obtain rfl:k=l.length:=J;have hE:(l.map fun x:Int=>(x:Rat)).take l.length=(l.map fun x:Int=>(x:Rat)):=cy (by rw[cC];exact bF _);simp only[hE];refine bG ?_;exact lZ [18] rfl rfl (da (l:=(l.map fun x:Int=>(x:Rat))) ao rfl rfl (by rw[cC]))
open fc in
theorem ayU(p:V3):an ai 48 [aR p,iL 1] (aA ⟨p,1⟩):=by
 have rG:an ai 9 [iL 1] (ae 1):=nZ 1 aj aj;refine aL Tryz.func48 (ht:=(fun g=>LV.db g _ (ez.pure _))) ?_;refine bf (rG) ?_;refine tj (ahz (p:=p) (r:=1) rfl rfl) ?_;refine aK ?_;exact iJ [] rfl rfl rfl cs (cU cs rfl) oT (.pure pu)
def qE(a b:V3):List aF:=[⟨a,1⟩,⟨b,1⟩]
open oS in
theorem akK(x y:Int)(hx:-1000<=x/\x<=1000)(hy:-1000<=y/\y<=1000):an ai 14 [iL x,iL y] (aR ⟨(x:Rat),(y:Rat),0⟩):=by
 refine aL Tryz.func14 (ht:=(fun r=>LV.db r _ (cu.pure _))) ?_;refine bf (nZ x J J) ?_;refine bf (nZ y J J) ?_;refine tj (aiP rfl rfl) ?_;refine aK ?_;exact vG
namespace att
theorem aJ{p q:Prop}(k:q)(e:p=q:=by simp only[bD,bo,bp,bh,aeG,w9,abh,List.getD_cons_zero,List.getD_cons_succ,dD,du,dC,reduceIte,if_true,if_false,dW,LV.kill,bC];exact rfl):p:=e.mpr k
end att
open att in
theorem atS(a b:V3):an ai 13 [aR a,aR b] (.agg [ah 1,.list 3 ((a8 1 0 1).map ae),.list 12 ((qE a b).map aA)]):=by
 have pG:=eY ao 3 (a8 1 0 1);have hI4:an ai 47 [.list 1 (([0,0,1,1]:List Int).map eE)] (.list 3 ((a8 1 0 1).map ae)):=by
  have:=aLs [0,0,1,1] aj aj;rwa[show (([0,0,1,1]:List Int).map fun x:Int=>(x:Rat))=a8 1 0 1 from by decide +kernel]at this
 refine aL Tryz.func13 (ht:=(fun g=>LV.db g _ eN)) ?_;refine bM ?_;refine gv rfl rfl (.aIH (a:=0) (b:=0) (c:=1) (f:=1) jH Tryz.underlying102 (show dM _ _ (eE 0) from Z2) T2 rfl rfl rfl rfl aj aj) ?_;refine aJ ?_;refine afr [5] rfl rfl (.cons (da (l:=[0,0,1,1]) jH rfl rfl rfl) .nil) (hI4) ?_;refine bn ?_;refine dN rfl (.cons (.pure (cu.pure a)) (.cons (.pure rfl) .nil)) (ayU a) ?_;refine bn ?_;refine dN rfl (.cons (.pure (cu.pure b)) (.cons (.pure rfl) .nil)) (ayU b) ?_;refine gv rfl rfl (.aqa (a:=⟨a,1⟩) (b:=⟨b,1⟩) (z:=⟨⟨0,0,0⟩,0⟩) ez mg (show dM _ _ (aA ⟨⟨0,0,0⟩,0⟩) from xu) oT rfl rfl aj aj) ?_;refine aW ?_;exact iJ [11] rfl rfl rfl cs (cU cs rfl) fo (.agg (.cons (.pure rfl) (.cons (.pure pG) (.cons (da (l:=qE a b) ez rfl rfl rfl) .nil))))
theorem aKb{x:Rat}(h:0<=x):cq x>=0:=by
 unfold cq;split
 ·decide
 rw[if_neg ba];decide
def qR(n:Int):Rat:=if n%3=2 then((1:Int):Rat)/((1+n%5:Int):Rat)else 0
open aeO in
theorem aks(d w:Nat)(wd:Rat)(hd:d<=24)(hw:w<=4096)(h0:0<=wd)(hr:rl wd<=100):an ai 25 [.agg [ah d,ah w,ae wd]] (bL true):=by
 have qY:=au2 wd J;have vE:=wF wd J;have hp:LV.pure (.agg [ah d,ah w,ae wd])=true:=tA;refine aL avr ?_;refine bG ?_;refine agW ?_;refine aj4 ?_;rw[show decide (cq wd>=0)=true from decide_eq_true (aKb h0)];exact .pure rfl
open fc in
theorem aPn(depth work width:Int)(dn wn:Nat)(ke:depth%7=(dn:Int))(hwn:work%40=(wn:Int)):an ai 7 [iL depth,iL work,iL width] (.agg [ah dn,ah wn,ae (qR width)]):=by
 have hM1:an ai 8 [iL depth,iL 7] (ah dn):=by
  have:=acg depth 7 aj aj;rwa[ke]at this
 have hM2:an ai 8 [iL work,iL 40] (ah wn):=by
  have:=acg work 40 aj aj;rwa[hwn]at this
 have h5a:=aaQ width (show (5:Int)≠0 by decide);have h5b:=aaE width (show (0:Int)<5 by decide);refine aL Tryz.func7 (ht:=(fun g=>LV.db g _ tA)) ?_;refine aN (hM1) ?_;refine aN (hM2) ?_;refine al rfl (show aM _ _ _ _ (.agg [ah dn,ah wn,ae 0]) from .build (zs:=[.v (.int .i64 0),.v (.int .i64 0),ae 0]) (by simpa[lay,LV.aq,dg,agl,ao.aq,ao.isAgg]using amd) Z35 (by simp only[am4];exact⟨⟨_,rfl,rfl,ni⟩,⟨_,rfl,rfl,ni⟩,fun _ h=>by cases h⟩)) ?_;refine aN (acg width 3 aj aj) ?_;refine bI ?_;refine aD rfl ?_ ?_<;>intro rB n9
 ·have hV:qR width=((1:Int):Rat)/((1+width%5:Int):Rat):=if_pos (by simpa using n9);refine aN (acg width 5 aj aj) ?_;refine al rfl acz ?_;refine cp aC (aey 1 (1+width%5) J J J J J) ?_;refine bN ?_;rw[hV];exact iJ [] rfl rfl rfl cs (cU cs rfl) T35 (.pure tA)
 have hV:qR width=0:=if_neg (by simpa using n9);refine bM ?_;rw[hV];exact iJ [] rfl rfl rfl cs (cU cs rfl) T35 (.pure tA)
theorem aNI(n:Int):0<=qR n/\rl (qR n)<=1:=by
 have h1:=aaQ n (show (5:Int)≠0 by decide);have h2:=aaE n (show (0:Int)<5 by decide);unfold qR;split
 ·exact⟨arF aj J,acO aj J⟩
 exact⟨jM,by decide +kernel⟩
theorem rI.ends{d:Nat}{k:List Rat}{po:List aF}{a b:Rat}(h:rI d k po a b):0<k.length/\k.length<=1000/\k.getD 0 0=a/\k.getD (k.length-1) 0=b:=by
 have h3:=h.d3;rcases h.kn with⟨rfl,hl⟩|⟨t,g1,g2,ht,rfl,hl⟩
 ·have hk:=kz d a b;exact⟨J,J,by rw[jz _ _ _ _ J,if_pos J],by rw[hk,jz _ _ _ _ J,if_neg J]⟩
 have hk:=qB d a t b;exact⟨J,J,by rw[fI _ _ _ _ _ J,if_pos J],by rw[hk,fI _ _ _ _ _ J,if_neg J,if_neg J]⟩
theorem az2(x y z w:Int)(hx:x.natAbs<=6)(hy:y.natAbs<=6)(hz:z.natAbs<=6)(hw:w.natAbs<=6):ob 1 (a8 1 0 1) (qE ⟨(x:Rat),(y:Rat),0⟩ ⟨(z:Rat),(w:Rat),0⟩) 0 1:=by
 have g:∀u v:Int,u.natAbs<=6->v.natAbs<=6->smP ⟨⟨(u:Rat),(v:Rat),0⟩,1⟩:=fun u v hu hv=>by
  refine⟨fun j=>?_,aeH (z:=1) aj,(by show (0:Rat)<1;decide +kernel),rfl⟩
  match j with
  |0=>exact((aeH hu).scale (E:=12)).mono aj
  |1=>exact((aeH hv).scale (E:=12)).mono aj
  |j+2=>exact anE _ _
 refine ob.of ⟨by decide,by decide,by decide +kernel,anE _ _,aAy.mono aj,.inl ⟨rfl,rfl⟩⟩ fun q hq=>?_;unfold qE at hq;simp only[dS,jR,or_false]at hq;rcases hq with rfl|rfl
 ·exact g _ _ hx hy
 exact g _ _ hz hw
theorem aw1:(xL 0 9 0 [(⟨1,0,1,qE (⟨((0:Int):Rat),((0:Int):Rat),0⟩:V3) (⟨((2:Int):Rat),((2:Int):Rat),0⟩:V3)⟩:jP)] [(⟨1,0,1,qE (⟨((0:Int):Rat),((2:Int):Rat),0⟩:V3) (⟨((2:Int):Rat),((0:Int):Rat),0⟩:V3)⟩:jP)]).2=[(([uq],[uq],3,0):lW)]:=aG
theorem aw2:∃x r,(xL 2 100 0 [(⟨1,0,1,qE (⟨((0:Int):Rat),((0:Int):Rat),0⟩:V3) (⟨((2:Int):Rat),((2:Int):Rat),0⟩:V3)⟩:jP)] [(⟨1,0,1,qE (⟨((0:Int):Rat),((0:Int):Rat),0⟩:V3) (⟨((2:Int):Rat),((2:Int):Rat),0⟩:V3)⟩:jP)]).2=x::r/\x.2.2.1=1:=by
 have h:0<((xL 2 100 0 [(⟨1,0,1,qE (⟨((0:Int):Rat),((0:Int):Rat),0⟩:V3) (⟨((2:Int):Rat),((2:Int):Rat),0⟩:V3)⟩:jP)] [(⟨1,0,1,qE (⟨((0:Int):Rat),((0:Int):Rat),0⟩:V3) (⟨((2:Int):Rat),((2:Int):Rat),0⟩:V3)⟩:jP)]).2).length/\(((xL 2 100 0 [(⟨1,0,1,qE (⟨((0:Int):Rat),((0:Int):Rat),0⟩:V3) (⟨((2:Int):Rat),((2:Int):Rat),0⟩:V3)⟩:jP)] [(⟨1,0,1,qE (⟨((0:Int):Rat),((0:Int):Rat),0⟩:V3) (⟨((2:Int):Rat),((2:Int):Rat),0⟩:V3)⟩:jP)]).2).getD 0 default).2.2.1=1:=aG;generalize (xL 2 100 0 [(⟨1,0,1,qE (⟨((0:Int):Rat),((0:Int):Rat),0⟩:V3) (⟨((2:Int):Rat),((2:Int):Rat),0⟩:V3)⟩:jP)] [(⟨1,0,1,qE (⟨((0:Int):Rat),((0:Int):Rat),0⟩:V3) (⟨((2:Int):Rat),((2:Int):Rat),0⟩:V3)⟩:jP)]).2=l at h
 match l,h with
 |x::r,h=>exact⟨x,r,rfl,h.2⟩
open oS in
theorem auF:an ai 5 [] (bL true):=by
 have rR:LV.pure (.agg [ah 1,.list 3 ((a8 1 0 1).map ae),.list 12 ((qE (⟨((0:Int):Rat),((0:Int):Rat),0⟩:V3) (⟨((2:Int):Rat),((2:Int):Rat),0⟩:V3)).map aA)])=true:=eN;have hq2:LV.pure (.agg [ah 1,.list 3 ((a8 1 0 1).map ae),.list 12 ((qE (⟨((0:Int):Rat),((2:Int):Rat),0⟩:V3) (⟨((2:Int):Rat),((0:Int):Rat),0⟩:V3)).map aA)])=true:=eN;have mj:LV.pure (.agg [iL 0,iL 9,ae 0])=true:=tA;have tq:LV.pure (.agg [iL 2,iL 100,ae 0])=true:=tA;have hA1:=aw1;obtain⟨x,r,hA2,hx⟩:=aw2;have g1:=az2 0 0 2 2 aj aj aj aj;have g2:=az2 0 2 2 0 aj aj aj aj;have r0:rl 0<=100:=aG;have hM1:an ai 10 [.agg [ah 1,.list 3 ((a8 1 0 1).map ae),.list 12 ((qE (⟨((0:Int):Rat),((0:Int):Rat),0⟩:V3) (⟨((2:Int):Rat),((2:Int):Rat),0⟩:V3)).map aA)],.agg [ah 1,.list 3 ((a8 1 0 1).map ae),.list 12 ((qE (⟨((0:Int):Rat),((2:Int):Rat),0⟩:V3) (⟨((2:Int):Rat),((0:Int):Rat),0⟩:V3)).map aA)],.agg [iL 0,iL 9,ae 0]] (.aY [.list 4 [fv (([uq],[uq],3,0):lW)],iL 0]):=by
  have:=anj g1 g2 0 9 0 aj aj r0 (aks 0 9 0 aj aj jM r0);rw[adq rfl,adq rfl,hA1]at this;exact this
 have hM2:an ai 10 [.agg [ah 1,.list 3 ((a8 1 0 1).map ae),.list 12 ((qE (⟨((0:Int):Rat),((0:Int):Rat),0⟩:V3) (⟨((2:Int):Rat),((2:Int):Rat),0⟩:V3)).map aA)],.agg [ah 1,.list 3 ((a8 1 0 1).map ae),.list 12 ((qE (⟨((0:Int):Rat),((0:Int):Rat),0⟩:V3) (⟨((2:Int):Rat),((2:Int):Rat),0⟩:V3)).map aA)],.agg [iL 2,iL 100,ae 0]] (.aY [.list 4 ((x::r).map fv),iL 0]):=by
  have:=anj g1 g1 2 100 0 aj aj r0 (aks 2 100 0 aj aj jM r0);rw[adq rfl,hA2]at this;exact this
 refine aL Tryz.func5 ?_;refine aN (akK 0 0 aj aj) ?_;refine cp aC (akK 2 2 aj aj) ?_;refine cp aC (atS (⟨((0:Int):Rat),((0:Int):Rat),0⟩:V3) (⟨((2:Int):Rat),((2:Int):Rat),0⟩:V3)) ?_;refine cp aC (akK 0 2 aj aj) ?_;refine cp aC (akK 2 0 aj aj) ?_;refine cp aC (atS (⟨((0:Int):Rat),((2:Int):Rat),0⟩:V3) (⟨((2:Int):Rat),((0:Int):Rat),0⟩:V3)) ?_;refine b7 ?_;refine al rfl (show aM _ _ _ _ (.agg [iL 0,iL 9,ae 0]) from .build (zs:=[.v (.int .i64 0),.v (.int .i64 0),ae 0]) (by simpa[lay,LV.aq,dg,agl,ao.aq,ao.isAgg]using amd) Z35 (by simp only[am4];exact⟨⟨_,rfl,rfl,ni⟩,fun _ h=>by cases h⟩)) ?_
 try refine aJ ?_
 refine dN rfl (.cons (.pure rR) (.cons (.pure hq2) (.cons (.pure mj) .nil))) (hM1) ?_;refine bN ?_;refine al rfl (show aM _ _ _ _ (.agg [iL 2,iL 100,ae 0]) from .build (zs:=[.v (.int .i64 0),.v (.int .i64 0),ae 0]) (by simpa[lay,LV.aq,dg,agl,ao.aq,ao.isAgg]using amd) Z35 (by simp only[am4];exact⟨⟨_,rfl,rfl,ni⟩,⟨_,rfl,rfl,ni⟩,fun _ h=>by cases h⟩)) ?_
 try refine aJ ?_
 refine dN rfl (.cons (.pure rR) (.cons (.pure rR) (.cons (.pure tq) .nil))) (hM2) ?_;refine bG ?_;refine al nQ (.move _) ?_;refine al nQ zj ?_;refine agQ ?_;refine bn ?_;refine al nQ (.move _) ?_;refine al nQ (.qt (n:=0) (r:=(.agg [.list 6 (((([uq],[uq],3,0):lW)).1.map ar),.list 6 (((([uq],[uq],3,0):lW)).2.1.map ar),ah ((([uq],[uq],3,0):lW)).2.2.1,ah ((([uq],[uq],3,0):lW)).2.2.2])) rfl uW uR rfl aj rfl (aod _)) ?_;refine al nQ l5 ?_;refine al nQ gJ ?_;refine agQ ?_;refine bn ?_;refine al nQ (.move _) ?_;refine agQ ?_;refine bn ?_;refine al nQ (.move _) ?_;refine al nQ zj ?_;refine agQ ?_;refine bn ?_;refine al aiw (.move _) ?_;refine al aiw (.qt (n:=0) (r:=(.agg [.list 6 ((x).1.map ar),.list 6 ((x).2.1.map ar),ah (x).2.2.1,ah (x).2.2.2])) rfl uW uR rfl aj rfl (aod _)) ?_;refine al aiw l5 ?_;refine al aiw gJ ?_;refine al aiw (.bin rfl rfl rfl) ?_
 refine al rfl (.sR rfl ((decide_eq_true arM))) ?_;refine aK ?_;exact eG (x:=bL true) (by refine Eq.trans (b:=LV.v (Value.bool (((x.2.2.1:Nat):Int)==1))) rfl ?_;rw[hx];rfl) (.pure rfl)
theorem ar7{x:Rat}(h:x<0):¬cq x>=0:=by
 rcases abq x with⟨e,f⟩|⟨e,f⟩|⟨e,f⟩<;>first|omega|(exfalso;grind)
open aeO in
theorem aOP(d w:Nat)(wd:Rat)(hd:d<=24)(hw:w<=4096)(h0:wd<0)(hr:rl wd<=100):an ai 25 [.agg [ah d,ah w,ae wd]] (bL false):=by
 have qY:=au2 wd J;have vE:=wF wd J;have hp:LV.pure (.agg [ah d,ah w,ae wd])=true:=tA;refine aL avr ?_;refine bG ?_;refine agW ?_;refine aj4 ?_;rw[show decide (cq wd>=0)=false from decide_eq_false (ar7 h0)];exact .pure rfl
open aeO in
theorem aHl(d w:Nat)(wd:Rat)(hd:d<=24)(hw:w<=4096)(h0:wd<0)(hr:rl wd<=100):an ai 35 [.agg [ah d,ah w,ae wd]] (bL false):=by
 have qY:=aAM wd J;have vE:=abw wd;have hp:LV.pure (.agg [ah d,ah w,ae wd])=true:=tA;refine aL Tryz.func35 ?_;refine bG ?_;refine agW ?_;refine aj4 ?_;rw[show decide (cq wd>=0)=false from decide_eq_false (ar7 h0)];exact .pure rfl
open oS in
theorem aOg(d1 d2:Nat)(k1 k2:List Rat)(bg a9:List aF)(d w:Nat)(wd:Rat)(qY:an ai 25 [.agg [ah d,ah w,ae wd]] (bL false)):an ai 10 [.agg [ah d1,.list 3 (k1.map ae),.list 12 (bg.map aA)],.agg [ah d2,.list 3 (k2.map ae),.list 12 (a9.map aA)],.agg [ah d,ah w,ae wd]] (.aY [.list 4 [],iL 1]):=by
 have xo:LV.pure (.agg [ah d,ah w,ae wd])=true:=tA;refine aL asR (ht:=(iz rfl rfl)) ?_;refine alu ?_;refine bI ?_;refine qO (b:=_) rfl (rfl) ?_;refine bH ?_;exact uC rfl (.nil 4) rfl (.pure rfl)
open oS in
theorem aEe(d1 d2:Nat)(k1 k2:List Rat)(bg a9:List aF)(d w:Nat)(wd:Rat)(qY:an ai 35 [.agg [ah d,ah w,ae wd]] (bL false)):an ai 11 [.agg [ah d1,.list 3 (k1.map ae),.list 12 (bg.map aA)],.agg [ah d2,.list 3 (k2.map ae),.list 12 (a9.map aA)],.agg [ah d,ah w,ae wd]] (.aY [.list 4 [],iL 1]):=by
 have xo:LV.pure (.agg [ah d,ah w,ae wd])=true:=tA;have dZ:LV.pure (.agg [ah d1,.list 3 (k1.map ae),.list 12 (bg.map aA)])=true:=eN;have tW:LV.pure (.agg [ah d2,.list 3 (k2.map ae),.list 12 (a9.map aA)])=true:=eN;refine aL arl (ht:=(iz rfl rfl)) ?_;refine alu ?_;refine bc ?_;refine xn nQ ?_;refine xn nQ ?_;refine xn nQ ?_;refine al rfl (.sR rfl ((rfl))) ?_;refine lN ?_;exact uC rfl (.nil 4) rfl (.pure rfl)
open oS in
theorem aPi(d1 d2:Nat)(k1 k2:List Rat)(bg a9:List aF)(d w:Nat)(wd:Rat)(qY:an ai 35 [.agg [ah d,ah w,ae wd]] (bL true))(o7:an ai 36 [.agg [ah d1,.list 3 (k1.map ae),.list 12 (bg.map aA)]] (bL true))(sH:an ai 36 [.agg [ah d2,.list 3 (k2.map ae),.list 12 (a9.map aA)]] (bL false)):an ai 11 [.agg [ah d1,.list 3 (k1.map ae),.list 12 (bg.map aA)],.agg [ah d2,.list 3 (k2.map ae),.list 12 (a9.map aA)],.agg [ah d,ah w,ae wd]] (.aY [.list 4 [],iL 1]):=by
 have xo:LV.pure (.agg [ah d,ah w,ae wd])=true:=tA;have dZ:LV.pure (.agg [ah d1,.list 3 (k1.map ae),.list 12 (bg.map aA)])=true:=eN;have tW:LV.pure (.agg [ah d2,.list 3 (k2.map ae),.list 12 (a9.map aA)])=true:=eN;refine aL arl (ht:=(iz rfl rfl)) ?_;refine alu ?_;refine bc ?_;refine al oN (.fa rfl rfl rfl rfl cs (cU cs rfl) fo) ?_;refine dN oN (.cons (.pure dZ) .nil) o7 ?_;refine adE ?_;refine bn ?_;refine al oN (.fa rfl rfl rfl rfl cs (cU cs rfl) fo) ?_;refine dN oN (.cons (.pure tW) .nil) sH ?_;refine adE ?_;refine bc ?_;refine qO (b:=_) rfl (rfl) ?_;refine bH ?_;exact uC rfl (.nil 4) rfl (.pure rfl)
namespace atV
theorem aJ{p q:Prop}(k:q)(e:p=q:=by simp only[bD,bo,bp,bh,cg,cC,Int.toNat_zero,dD,du,dC,reduceIte,if_true,if_false,dW,LV.kill,bC];exact rfl):p:=e.mpr k
end atV
open atV in
theorem aNl(d:Nat)(kn:List Rat)(po:List aF)(h0:0<po.length)(hl:po.length<=1000)(hz:(po.getD 0 default).p.z≠0):an ai 36 [.agg [ah d,.list 3 (kn.map ae),.list 12 (po.map aA)]] (bL false):=by
 have dZ:LV.pure (.agg [ah d,.list 3 (kn.map ae),.list 12 (po.map aA)])=true:=eN;have hsg:¬cq (po.getD 0 default).p.z=0:=by
  rcases abq (po.getD 0 default).p.z with⟨e,f⟩|⟨e,f⟩|⟨e,f⟩
  ·omega
  ·exact absurd f hz
  omega
 refine aL Tryz.func36 ?_;refine dj ?_;refine xV ?_;refine b7 ?_;refine qO (b:=_) rfl (decide_eq_true J) ?_;refine bf (abw (po.getD 0 default).p.z) ?_;refine bI ?_;refine qO (b:=_) rfl (by simpa using hsg) ?_;refine bN ?_;exact iB
namespace azv
theorem aJ{p q:Prop}(k:q)(e:p=q:=by simp only[bD,bo,bp,bh,hc5,cg,Int.toNat_zero,cC,List.getD_cons_zero,List.getD_cons_succ,dD,du,dC,reduceIte,if_true,if_false,dW,LV.kill,bC];exact rfl):p:=e.mpr k
end azv
open azv in
theorem aFq(d1 d2:Nat)(k1 k2:List Rat)(bg a9:List aF)(d w:Nat)(wd:Rat)(qY:an ai 25 [.agg [ah d,ah w,ae wd]] (bL true))(hA0:bg.length<=1000)(lr:a9.length<=1000)(ri:∀q∈bg,q.p.z=0)(hB0:0<a9.length)(yG:(a9.getD 0 default).p.z≠0)(hzr:rl (a9.getD 0 default).p.z<=1000000):an ai 10 [.agg [ah d1,.list 3 (k1.map ae),.list 12 (bg.map aA)],.agg [ah d2,.list 3 (k2.map ae),.list 12 (a9.map aA)],.agg [ah d,ah w,ae wd]] (.aY [.list 4 [],iL 1]):=by
 have xo:LV.pure (.agg [ah d,ah w,ae wd])=true:=tA;have dZ:LV.pure (.agg [ah d1,.list 3 (k1.map ae),.list 12 (bg.map aA)])=true:=eN;have tW:LV.pure (.agg [ah d2,.list 3 (k2.map ae),.list 12 (a9.map aA)])=true:=eN;have hc5:LV.aq (.agg [ah d,ah w,ae wd])=5:=by simp[LV.aq,dg,ao.aq]
 have hS0:∀x:aF,x.p.z=0->an ai 26 [ae x.p.z] (iL 0):=fun x h=>by
  rw[h];have:=wF 0 (by have:rl 0=1:=rfl;omega);rwa[show cq 0=0 from by decide +kernel]at this
 have aNi:=wF (a9.getD 0 default).p.z J;have hsg:¬cq (a9.getD 0 default).p.z=0:=by
  rcases abq (a9.getD 0 default).p.z with⟨e,f⟩|⟨e,f⟩|⟨e,f⟩
  ·omega
  ·exact absurd f yG
  omega
 refine aL asR (ht:=(iz rfl rfl)) ?_;refine alu ?_;refine bI ?_;refine vM ?_;refine bK ?_;refine al rfl (abl (v0:=.agg [ah d1,.list 3 (k1.map ae),.list 12 (bg.map aA)]) (v1:=.agg [ah d2,.list 3 (k2.map ae),.list 12 (a9.map aA)]) zF fo Z73 lz rfl rfl lz lz dZ tW) ?_;refine nR ?_;refine a6 ?_
 first|refine al rfl (.yj rfl zF fo rfl rfl aj rfl dZ) ?_|refine al rfl (.yj rfl zF fo rfl rfl aj rfl tW) ?_
 refine asN ?_;rintro i L2 hi;refine a6 ?_;refine aD rfl ?_ ?_<;>intro abK yq
 ·have cM:i<bg.length:=J;have vE:=hS0 _ (ri _ (qo cM));refine bf (vE) ?_;refine bI ?_;refine vM ?_;refine bI ?_;refine cO (au.kill _ 11) ?_;refine eP ?_;exact gM
 refine a6 ?_;refine cO (au.kill _ 9) ?_;refine nR ?_;refine a6 ?_
 first|refine al rfl (.yj rfl zF fo rfl rfl aj rfl dZ) ?_|refine al rfl (.yj rfl zF fo rfl rfl aj rfl tW) ?_
 refine dj ?_;refine iS (au.kill _ 9) ?_;refine dy (fun(i:Nat) L=>(mS L [(3,⟨3,[.agg [ah d1,.list 3 (k1.map ae),.list 12 (bg.map aA)]],true⟩),(4,⟨3,[.agg [ah d2,.list 3 (k2.map ae),.list 12 (a9.map aA)]],true⟩),(5,⟨5,[.agg [ah d,ah w,ae wd]],true⟩)] [(29,ah i),(28,ah a9.length),(27,.list 12 (a9.map aA)),(23,ah 1),(22,.agg [.agg [ah d1,.list 3 (k1.map ae),.list 12 (bg.map aA)],.agg [ah d2,.list 3 (k2.map ae),.list 12 (a9.map aA)]]),(5,.aB 5 5 0 0),(4,.aB 4 3 0 0),(3,.aB 3 3 0 0)])) (fun i=>i=0) (fun i=>a9.length-i) 0 rfl ?_;rintro i L2 hi;refine a6 ?_;refine qO (b:=_) rfl (decide_eq_true J) ?_;refine nh ?_;refine cp cr ((by first|exact vE|(have h9:i=0:=hi;subst h9;exact aNi))) ?_;refine bI ?_;refine qO (b:=_) rfl (by simpa using hsg) ?_;refine lN ?_;exact uC rfl (.nil 4) rfl (.pure rfl)
namespace az6
theorem aJ{p q:Prop}(k:q)(e:p=q:=by simp only[bD,bo,bp,bh,cg,cC,dO bj,dD,du,dC,reduceIte,if_true,if_false,dW,LV.kill,bC];exact rfl):p:=e.mpr k
end az6
open az6 in
theorem azV(l:List Sp)(hl:l.length<=1000)(hq:∀s∈l,rl s.1<=1000/\rl s.2<=1000):an ai 46 [.list 6 (l.map ar),.list 6 (l.map ar)] (bL true):=by
 refine aL Tryz.func46 ?_;refine iR ?_;refine aD rfl ?_ ?_<;>intro nj pC
 ·first|exact absurd rfl pC|(exfalso;simp at pC;done)|(exfalso;simp at nj;done)
 refine bM ?_;refine dy (fun(i:Nat) L=>(mS L [] [(5,ah i),(1,.list 6 (l.map ar)),(0,.list 6 (l.map ar))])) (fun i=>i<=l.length) (fun i=>l.length-i) 0 (bW _) ?_;rintro i L1 hi;refine bM ?_;refine aD rfl ?_ ?_<;>intro pU jI
 ·have cM:i<l.length:=J;obtain⟨o1,o2⟩:=hq (l.getD i default) (by rw[bq,ck cM];exact qX _);refine aN (aGr (l.getD i default) J J) ?_;refine bI ?_;refine vM ?_;refine aW ?_;refine eP ?_;exact gM
 refine bN ?_;exact iB
namespace awl
theorem aJ{p q:Prop}(k:q)(e:p=q:=by simp only[bD,bo,bp,bh,cg,cC,dO abT,dO bj,dD,du,dC,reduceIte,if_true,if_false,dW,LV.kill,bC];exact rfl):p:=e.mpr k
end awl
open awl in
theorem aKo(cls:List lW)(hl:cls.length<=1000000)(hq:∀c∈cls,alD c):an ai 12 [.list 4 (cls.map fv),.list 4 (cls.map fv)] (bL true):=by
 refine aL Tryz.func12 ?_;refine iR ?_;refine aD rfl ?_ ?_<;>intro nj pC
 ·first|exact absurd rfl pC|(exfalso;simp at pC;done)|(exfalso;simp at nj;done)
 refine bM ?_;refine dy (fun(jj:Nat) L=>(mS L [] [(5,ah jj),(1,.list 4 (cls.map fv)),(0,.list 4 (cls.map fv))])) (fun jj=>jj<=cls.length) (fun jj=>cls.length-jj) 0 (bW _) ?_;rintro jj L1 hi;refine bM ?_;refine aD rfl ?_ ?_<;>intro pU jI
 ·have iH:jj<cls.length:=J;obtain⟨s,r,es,er,k1,k2,k3,k4,_,_⟩:=hq (cls.getD jj default) (by rw[bq,ck iH];exact qX _);have ecj:cls.getD jj default=cls[jj]:=by rw[bq,ck iH];rfl
  have hcj:(cls.map fv)[((jj:Nat):Int).toNat]?=some (.agg [.list 6 ([s].map ar),.list 6 ([r].map ar),ah (cls.getD jj default).2.2.1,ah (cls.getD jj default).2.2.2]):=by
   rw[Int.toNat_natCast,jY,ck iH,<-ecj];show some (fv (cls.getD jj default))=_;unfold fv;rw[es,er]
  have hSA:=azV [s] aE (fun q hq=>by rw[iM.1 hq];omega);have hSB:=azV [r] aE (fun q hq=>by rw[iM.1 hq];omega);refine bH ?_;refine al rfl azS ?_;refine aK ?_;refine al rfl azS ?_;refine aK ?_;refine ajt ?_;refine ajt ?_;refine al ac2 (.bin rfl rfl rfl) ?_;refine al rfl (.r7 rfl ((bne_self_eq_false _))) ?_;refine bn ?_;refine ajt ?_
  refine ajt ?_;refine dN ac2 (.cons eu (.cons eu .nil)) (hSA) ?_;refine al ac2 (.not rfl) ?_;refine al rfl (.r7 rfl ((bne_self_eq_false _))) ?_;refine bn ?_;refine aBX ?_;refine aBX ?_;refine dN oN (.cons eu (.cons eu .nil)) (hSB) ?_;refine adE ?_;refine bc ?_;refine vM ?_;refine aW ?_
  refine eP ?_;exact ji (jj+1) J
 refine bN ?_;exact iB
theorem aIs(l:List Int)(i j:Int)(hl5:l.length<=500)(hi:-9223372036854775808<=i/\i<=9223372036854775807)(hj:-9223372036854775808<=j/\j<=9223372036854775807):∃(d:Nat) (k:List Rat) (po:List aF) (a b:Rat) (e:Nat) (m:List Rat) (pf:List aF) (a2 b2 tt uu:Rat) (mt:Bool),
  ob d k po a b/\ob e m pf a2 b2/\mW ai 6 [.list 1 (l.map eE),iL i,iL j] (.aY [.agg [ah d,.list 3 (k.map ae),.list 12 (po.map aA)],.agg [ah e,.list 3 (m.map ae),.ref 1 12 0 pf.length],ae tt,ae uu,bL mt]) [⟨12,pf.map aA,true⟩]:=by
 have k1:=pE (l:=l) hl5 (bW 500);have k2:xE l (cf l 0) 3 1<=500:=avx hl5 _ _ (avy l (cf l 0) (n:=3) (m:=1) hl5 k1 aj aj aj).2.2.1;have dc:=aAW l (cf l 0) 3 aj aj (xF l (cf l 0) 3 1) (akY ..);have dx:=aAW l (xE l (cf l 0) 3 1) 3 aj aj (xF l (xE l (cf l 0) 3 1) 3 1) (akY ..);have sc:∀q∈xF l (cf l 0) 3 1,smP q:=anN l _ _;have sx:∀q∈xF l (xE l (cf l 0) 3 1) 3 1,smP q:=anN l _ _;have hN:=zI l 0 5 hl5 (bW _) aj aj;have hC1:=aKF (aCc l (cf l 0) hl5 3 aj aj 1 aj k1) rfl (eY ao 3 _) (bm ez _) (by rw[cC,akY]) (gC l _);have hC2:=aCc l (xE l (cf l 0) 3 1) hl5 3 aj aj 1 aj k2;rw[<-akY l (xE l (cf l 0) 3 1) 3 1]at hC2;generalize gZ l 0 5=v at hN;generalize xE l (xE l (cf l 0) 3 1) 3 1=k3 at hC2;generalize cD l (xE l (cf l 0) 3 1) 3=e at dx hC2;generalize xK l (xE l (cf l 0) 3 1) 3 1=m at dx hC2;generalize xF l (xE l (cf l 0) 3 1) 3 1=pq at dx sx hC2;generalize xA l (xE l (cf l 0) 3 1)=a2 at dx;generalize xB l (xE l (cf l 0) 3 1) 3=b2 at dx;generalize xE l (cf l 0) 3 1=k2 at hC1 hC2;generalize cD l (cf l 0) 3=d at dc hC1;generalize xK l (cf l 0) 3 1=k at dc hC1;generalize xF l (cf l 0) 3 1=po at dc sc hC1;generalize xA l (cf l 0)=a at dc;generalize xB l (cf l 0) 3=b at dc;generalize cf l 0=k1 at hN hC1;have it:=ag0 dc.ab i
 have iu:=ag0 dx.ab j;have rt:=ajM dc.ca dc.cb i;have ru:=ajM dx.ca dx.cb j;have gc:=ob.of dc sc;have gx:=ob.of dx sx;obtain⟨g9,gm,bT,bP,bQ⟩:=ob.sh dc dx sc sx i j;obtain⟨nN,hk9,hka,wE⟩:=dc.ends;obtain⟨iw,hm9,hma,hmb⟩:=dx.ends;have zx:=asp gc it.1 it.2 J;have w7:=asp gx iu.1 iu.2 J;have hW1:=awB (a,b) i 10 aj ⟨by have:=td dc.ca;show rl a<=10;omega,by have:=td dc.cb;show rl b<=10;omega⟩ hi;have hW2:=awB (a2,b2) j 10 aj ⟨by have:=td dx.ca;show rl a2<=10;omega,by have:=td dx.cb;show rl b2<=10;omega⟩ hj;have hxl:pq.length<=100:=by have h3:=dx.d3;rcases dx.kn with⟨_,h⟩|⟨_,_,_,_,_,h⟩<;>omega
 have vR:m.length<=100:=by
  have h3:=dx.d3;rcases dx.kn with⟨h,_⟩|⟨_,_,_,_,h,_⟩
  ·rw[h,kz];omega
  rw[h,qB];omega
 have hSh:=aKI (mf e m pq (lg (a2,b2) j)) (mf d k po (lg (a,b) i)) 10 aj bQ bP;have lH:0<pq.length:=by rcases dx.kn with⟨_,h⟩|⟨_,_,_,_,_,h⟩<;>omega
 have hMv:=aFx e m (vq (rk (mf d k po (lg (a,b) i)) (mf e m pq (lg (a2,b2) j)))) pq 10 aj (aLL aj bT) hxl vR (fun q hq=>by have h:=(ah0 sx).okR (k:=1) aj aj aj q hq;exact⟨h.1.le aj,aP h.2.1 aj,h.2.2⟩);have main:=aKB l i j v k1 k2 k3 d e k m po pq (if v > 0 then pq.map (vw (vq (rk (mf d k po (lg (a,b) i)) (mf e m pq (lg (a2,b2) j)))))else pq) a b a2 b2 (lg (a,b) i) (lg (a2,b2) j) (mf d k po (lg (a,b) i)) (mf e m pq (lg (a2,b2) j)) nN hk9 iw hm9 hka wE hma hmb hN hC1 hC2 hW1 hW2 zx w7 hSh hMv lH (fun h=>if_pos h) (fun h=>if_neg h);have gf:(if v > 0 then pq.map (vw (vq (rk (mf d k po (lg (a,b) i)) (mf e m pq (lg (a2,b2) j)))))else pq).length=pq.length:=by
  split
  ·exact cC ..
  rfl
 rw[<-gf]at main;refine⟨d,k,po,a,b,e,m,_,a2,b2,_,_,_,gc,?_,main⟩;split
 ·rw[aGX];exact gm
 exact gx
namespace aze
theorem aJ{p q:Prop}(k:q)(e:p=q:=by simp only[bD,bo,bp,bh,aEj,xst,fy0,fyc,aeG,aiD,dO abT,cC,dD,du,dC,reduceIte,if_true,if_false,dW,LV.kill,bC];exact rfl):p:=e.mpr k
end aze
open aze in
theorem aH8(l:List Int)(i j depth work width:Int)(hl:l.length<=9223372036854775807/\∀n∈l,-9223372036854775808<=n/\n<=9223372036854775807)(hi:-9223372036854775808<=i/\i<=9223372036854775807)(hj:-9223372036854775808<=j/\j<=9223372036854775807)(hdp:-9223372036854775808<=depth/\depth<=9223372036854775807)(hwk:-9223372036854775808<=work/\work<=9223372036854775807)(hwi:-9223372036854775808<=width/\width<=9223372036854775807):an ai 3 [.list 1 (l.map eE),iL i,iL j,iL depth,iL work,iL width] (bL true):=by
 have bV:=hl.1;have s6:=aNI width;have xst:True:=trivial;obtain⟨dn,ke⟩:∃dn:Nat,depth%7=(dn:Int):=⟨(depth%7).toNat,J⟩;obtain⟨wn,hwn⟩:∃wn:Nat,work%40=(wn:Int):=⟨(work%40).toNat,J⟩;have mi:dn<=6:=J;have aEj:(LV.agg [.v (.int .i64 0),.v (.int .i64 0),ae 0]).aq=5:=by simp[LV.aq,dg,ao.aq]
 have gL:wn<=39:=J;have hPr:=aPn depth work width dn wn ke hwn;have rG:an ai 9 [iL 1] (ae 1):=nZ 1 aj aj;have hN1:an ai 9 [iL (-1)] (ae (-1)):=nZ (-1) aj aj;refine aL Tryz.func3 ?_;refine bf (aON l bV) ?_;refine bI ?_;refine aD rfl ?_ ?_<;>intro acR qT
 ·refine yc0 (auF) ?_;refine aW ?_;exact iB
 have hl5:l.length<=500:=by simpa using qT
 obtain⟨d,k,po,a,b,e,m,pf,aa,bb,tt,uu,mt,hG,hH,hTw⟩:=aIs l i j hl5 hi hj;have gf:0<pf.length/\pf.length<=100:=by have h3:=hH.dr.d3;rcases hH.dr.kn with⟨_,h⟩|⟨_,_,_,_,_,h⟩<;>omega
 have jG:po.length<=100:=by have h3:=hG.dr.d3;rcases hG.dr.kn with⟨_,h⟩|⟨_,_,_,_,_,h⟩<;>omega
 have vH:=hG.z;have sL:((pf.set 0 ⟨⟨(pf.getD 0 default).p.x,(pf.getD 0 default).p.y,1⟩,(pf.getD 0 default).w⟩)).getD 0 default=⟨⟨(pf.getD 0 default).p.x,(pf.getD 0 default).p.y,1⟩,(pf.getD 0 default).w⟩:=by simp[auw,gf.1]
 have ri:(((pf.set 0 ⟨⟨(pf.getD 0 default).p.x,(pf.getD 0 default).p.y,1⟩,(pf.getD 0 default).w⟩)).getD 0 default).p.z=1:=by rw[sL]
 have mK:(pf.map aA)[0]?=some (aA (pf.getD 0 default)):=by simp[auw,gf.1]
 have xst:(pf.map aA).set 0 (aA ⟨⟨(pf.getD 0 default).p.x,(pf.getD 0 default).p.y,1⟩,(pf.getD 0 default).w⟩)=((pf.set 0 ⟨⟨(pf.getD 0 default).p.x,(pf.getD 0 default).p.y,1⟩,(pf.getD 0 default).w⟩)).map aA:=List.map_set.symm;have mJ:((pf.set 0 ⟨⟨(pf.getD 0 default).p.x,(pf.getD 0 default).p.y,1⟩,(pf.getD 0 default).w⟩)).length=pf.length:=lQ;have uS:=aFq d e k m po (pf.set 0 ⟨⟨(pf.getD 0 default).p.x,(pf.getD 0 default).p.y,1⟩,(pf.getD 0 default).w⟩) dn wn (qR width) (aks dn wn (qR width) J J s6.1 (by have:=s6.2;omega)) J J vH J (by rw[ri];decide +kernel) (by rw[ri];decide +kernel);have uD:=aPi d e k m po (pf.set 0 ⟨⟨(pf.getD 0 default).p.x,(pf.getD 0 default).p.y,1⟩,(pf.getD 0 default).w⟩) dn wn (qR width) (avX dn wn (qR width) J J s6.1 (by have:=s6.2;omega)) (amC d k po J vH) (aNl e m (pf.set 0 ⟨⟨(pf.getD 0 default).p.x,(pf.getD 0 default).p.y,1⟩,(pf.getD 0 default).w⟩) J J (by rw[ri];decide +kernel));have hM:=anj hG hH dn wn (qR width) J J (by have:=s6.2;omega) (aks dn wn (qR width) J J s6.1 (by have:=s6.2;omega));have hF:=aG9 hG hH dn wn (qR width) J J (by have:=s6.2;omega) (avX dn wn (qR width) J J s6.1 (by have:=s6.2;omega));have hK:=ob.cells hG hH (dn:=dn) (w:=wn) (wd:=qR width) J
 have hLn:=aJM (d:=dn) (w:=wn) (wd:=qR width) (lA:=nO d k po) (lB:=nO e m pf) J J (aP (afX d k po) aj) (aP (afX e m pf) aj);generalize (xL dn wn (qR width) (nO d k po) (nO e m pf)).2=aMz at hM hF hK hLn;have hB1:=aOg d e k m po pf dn wn (-1) (aOP dn wn (-1) J J aG aG);have hB2:=aEe d e k m po pf dn wn (-1) (aHl dn wn (-1) J J aG aG);have dZ:LV.pure (.agg [ah d,.list 3 (k.map ae),.list 12 (po.map aA)])=true:=eN;have xy:=eY ao 3 m;have hnR:(LV.aY [.agg [ah d,.list 3 (k.map ae),.list 12 (po.map aA)],.agg [ah e,.list 3 (m.map ae),.ref 1 12 0 pf.length],ae tt,ae uu,bL mt]).b8 (dv 31)=.aY [.agg [ah d,.list 3 (k.map ae),.list 12 (po.map aA)],.agg [ah e,.list 3 (m.map ae),.ref 1000497 12 0 pf.length],ae tt,ae uu,bL mt]:=by simp only[LV.b8,dL,my _ _ (bm ao _),my _ _ (bm ez _),LV.db _ _ (ao.pure _)];rfl
 clear hG hH;refine bK ?_;refine wU [] rfl rfl (.cons eu (.cons (.pure rfl) (.cons (.pure rfl) .nil))) hTw (bm ez _) rfl ?_;rw[hnR];refine rC (hPr) ?_;refine aN (acg work 60 aj aj) ?_;refine bM ?_;refine iZ (fun L=>∃(cls:List lW) (er:Int) (pw:Rat) (q:List aF) (L1:St),(q.length=pf.length/\(an ai 10 [.agg [ah d,.list 3 (k.map ae),.list 12 (po.map aA)],.agg [ah e,.list 3 (m.map ae),.list 12 (q.map aA)],.agg [ah dn,ah wn,ae pw]] (.aY [.list 4 (cls.map fv),iL er]))/\(an ai 11 [.agg [ah d,.list 3 (k.map ae),.list 12 (po.map aA)],.agg [ah e,.list 3 (m.map ae),.list 12 (q.map aA)],.agg [ah dn,ah wn,ae pw]] (.aY [.list 4 (cls.map fv),iL er]))/\(∀c∈cls,alD c)/\cls.length<=1000000)/\L=(mS L1 [(1000497,⟨12,q.map aA,true⟩),(13,⟨3,[.agg [ah d,.list 3 (k.map ae),.list 12 (po.map aA)]],true⟩),(14,⟨3,[.agg [ah e,.list 3 (m.map ae),.ref 1000497 12 0 pf.length]],true⟩),(15,⟨3,[ae tt],true⟩),(16,⟨3,[ae uu],true⟩),(18,⟨5,[.agg [ah dn,ah wn,ae pw]],true⟩)] [(18,.aB 18 5 0 0),(14,.aB 14 3 0 0),(13,.aB 13 3 0 0)])) ?_ ?_
 ·refine aD rfl ?_ ?_<;>intro akt h43
  ·refine bf (hN1) ?_;refine aK ?_;exact⟨[],1,(-1),pf,_,⟨rfl,hB1,hB2,(fun c h=>by cases h),by decide⟩,eW⟩
  refine a6 ?_;refine aD rfl ?_ ?_<;>intro afH h47
  ·refine bf (rG) ?_;refine al rfl (.wL rfl mg oT rfl J J) ?_;refine bc ?_;refine cj rfl (.store (b:=1000497) (sz:=12) (i:=0) (o:=6) (y:=aA (pf.getD 0 default)) (y':=aA ⟨⟨(pf.getD 0 default).p.x,(pf.getD 0 default).p.y,1⟩,(pf.getD 0 default).w⟩) rfl rfl rfl rfl mK (ez.aq _) (by show LV.put (aA _) 6 (ae 1)=some _;exact ptp) (by show bS _ _ (LV.aq (ae 1)) (LV.isAgg (ae 1));rw[ao.aq,ao.isAgg];exact cS) ⟨LV.fJ (ao.pure _),LV.fh (ao.pure _)⟩) ?_;refine bc ?_;exact⟨[],1,(qR width),(pf.set 0 ⟨⟨(pf.getD 0 default).p.x,(pf.getD 0 default).p.y,1⟩,(pf.getD 0 default).w⟩),_,⟨mJ,uS,uD,(fun c h=>by cases h),by decide⟩,eW⟩
  refine bc ?_;exact⟨aMz,0,(qR width),pf,_,⟨rfl,hM,hF,hK,J⟩,eW⟩
 rintro _ ⟨cls,er,pw,q,aRu,⟨tB,hM,hF,hK,hLn⟩,rfl⟩;refine bI ?_;have ju:LV.pure (.list 4 (cls.map fv))=true:=by simp only[LV.pure,ab8]
 have uw:LV.pure (.agg [ah dn,ah wn,ae pw])=true:=tA;have tW:LV.pure (.agg [ah e,.list 3 (m.map ae),.list 12 (q.map aA)])=true:=eN;refine cO ((au.aoA 14 [1000497] rfl rfl (.agg (.cons (.pure rfl) (.cons (.pure xy) (.cons (da (l:=q) ez rfl rfl tB.symm) .nil))))).trans (au.kill _ 1000497)) ?_;refine aJ ?_;refine pJ ?_;refine pJ ?_;refine al rfl amb ?_;refine dN rfl (.cons (.pure dZ) (.cons (.pure tW) (.cons (.pure uw) .nil))) hM ?_;refine bM ?_;refine pJ ?_;refine pJ ?_;refine al rfl amb ?_;refine dN rfl (.cons (.pure dZ) (.cons (.pure tW) (.cons (.pure uw) .nil))) hF ?_;refine dj ?_;refine al acL (.move _) ?_;refine al acL (.move _) ?_;refine dN acL (.cons (.pure ju) (.cons (.pure ju) .nil)) (aKo cls hLn hK) ?_;refine al rfl (.sR rfl ((decide_eq_true rfl))) ?_;refine yc0 (auF) ?_;refine aW ?_;exact iB
end Go.Proofs.YtbkmfcmgilhaaaaGreat
end
