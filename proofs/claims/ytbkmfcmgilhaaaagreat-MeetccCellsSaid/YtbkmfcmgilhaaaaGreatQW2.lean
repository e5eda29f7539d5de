/- Texts LgK, LgO of this proof, joined. -/
import Derived.Test.YtbkmfcmgilhaaaaGreatQW1
import Derived.Deep.Upon
import Derived.Lib.Overlaps
set_option linter.unusedVariables false
set_option linter.unusedSimpArgs false
open Array renaming all_eq_true_iff_forall_mem->aCj,ext'->y6,getD_eq_getD_getElem?->dQ,getElem?_eq_getElem->oX,getElem?_eq_some_iff->lX,getElem?_modify->aAN,getElem?_setIfInBounds_ne->lU,getElem?_setIfInBounds_self_of_lt->p7,length_toList->pT,map->ahG,mapM_eq_mapM_toList->aBf,mem_of_getElem?->aBV,mem_toList_iff->aib,range->aAs,replicate->uo,size_append->anK,toList_append->avl
open Bool renaming and_eq_true->jS,false_eq_true->afF,not_eq_true'->yK,or_eq_true->pI
open Classical renaming byContradiction->rE,not_forall->aIa,not_imp->aIV
open List renaming all_eq_true->nU,append_nil->ey,contains_iff_mem->qJ,drop_drop->rZ,drop_left->acB,drop_of_length_le->mE,drop_zero->jv,eq_nil_of_length_eq_zero->pQ,ext_getElem->aaW,flatten_append->avP,flatten_cons->anC,getD_eq_getElem?_getD->bq,getElem?_append_left->ab6,getElem?_append_right->abt,getElem?_cons_succ->adO,getElem?_cons_zero->o8,getElem?_eq_getElem->ck,getElem?_eq_some_iff->qi,getElem?_map->jY,getElem?_toArray->ajw,length_append->jx,length_cons->dR,length_drop->jD,length_map->cC,length_nil->fX,length_set->lQ,length_take->fH,mapM_cons->aAA,map_cons->nK,map_drop->abj,map_nil->gy,map_take->va,map_toArray->afm,mem_append->nC,mem_filterMap->aaF,mem_map->cZ,mem_mapIdx->aA9,mem_of_getElem?->vI,mem_range->rm,mem_replicate->uK,mem_singleton->iM,nil_append->fD,nodup_nil->abp,range->cN,replicate->av,replicate_succ->ap0,set_cons_succ->du,set_cons_zero->dD,size_toArray->acZ,take_append_drop->ur,take_left->ajE,take_nil->gU
open List.cons renaming injEq->iF
open Nat renaming add_mul->iV,add_zero->nW,beq->oV,le_refl->bF,le_trans->aP,lt_or_ge->g7,min->aiZ,min_eq_left->nM,min_self->aw3,mod_eq_of_lt->jU,mul_assoc->iD,mul_eq_zero->asm,mul_le_mul_right->jd,reduceAdd->bp,reduceBEq->bh,reduceEqDiff->dC,reduceMul->bo,strongRecOn->afc,sub_self->uz,succ_mul->yz,testBit_or->aC8,zero_add->fZ,zero_le->bW,zero_mul->afY
open Option renaming getD_some->acE,isNone_iff_eq_none->zX,map_eq_some_iff->abz,map_some->uh,ne_none_iff_exists'->anY
open Option.some renaming injEq->gj
open Prod.mk renaming injEq->xw
section
set_option linter.unusedVariables false
set_option linter.unusedSimpArgs false
namespace Go.Lg
mutual
def LV.b8(f:Nat->Nat):LV->LV
 | .any=>.any
 | .v x=>.v x
 | .list sz l=>.list sz (dL f l)
 | .agg l=>.agg (dL f l)
 | .ref b sz off len=>.ref (f b) sz off len
 | .lj b sz off len cap=>.lj (f b) sz off len cap
 | .aB b sz i o=>.aB (f b) sz i o
 | .cx c=>.cx (c.b8 f)
 | .dT g l=>.dT g (dL f l)
 | .aY l=>.aY (dL f l)
def dL(f:Nat->Nat):List LV->List LV
 | []=>[]
 |x::xs=>x.b8 f::dL f xs
end
mutual
theorem LV.db(f:Nat->Nat):∀(x:LV),x.pure=true->x.b8 f=x
 | .any,_=>rfl
 | .v _,_=>rfl
 | .list sz l,h=>by simp only[LV.b8,my f l (by simpa[LV.pure]using h)]
 | .agg l,h=>by simp only[LV.b8,my f l (by simpa[LV.pure]using h)]
 | .ref ..,h=>by simp[LV.pure]at h
 | .lj ..,h=>by simp[LV.pure]at h
 | .aB ..,h=>by simp[LV.pure]at h
 | .cx c,h=>by simp only[LV.b8,LV.db f c (by simpa[LV.pure]using h)]
 | .dT g l,h=>by simp only[LV.b8,my f l (by simpa[LV.pure]using h)]
 | .aY l,h=>by simp[LV.pure]at h
theorem my(f:Nat->Nat):∀(l:List LV),aO l=true->dL f l=l
 | [],_=>rfl
 |x::xs,h=>by simp only[dL,LV.db f x (pure_cons h).1,my f xs (pure_cons h).2]
end
mutual
theorem LV.alU(f:Nat->Nat):∀(x:LV),(x.b8 f).aq=x.aq
 | .any=>rfl | .v _=>rfl | .list ..=>rfl | .ref ..=>rfl | .lj ..=>rfl | .aB ..=>rfl | .cx _=>rfl | .dT ..=>rfl | .aY _=>rfl
 | .agg l=>by simp only[LV.b8,LV.aq,asw f l]
theorem asw(f:Nat->Nat):∀(l:List LV),dg (dL f l)=dg l
 | []=>rfl
 |x::xs=>by simp only[dL,dg,LV.alU f x,asw f xs]
end
theorem LV.ajs(f:Nat->Nat)(x:LV):(x.b8 f).isAgg=x.isAgg:=by cases x<;>rfl
section
variable {Z:Nat->Prop} {μ bE:Nat->Option Nat} {w:World}
mutual
theorem aH.b8(f:Nat->Nat)(hm:∀b id,μ b=some id->bE (f b)=some id):∀(lv:LV) (cs:List Value),aH Z μ w lv cs->aH Z bE w (lv.b8 f) cs
 | .any,_,h=>by simpa[aH,LV.b8]using h
 | .v x,cs,h=>by simpa[aH,LV.b8]using h
 | .list sz l,cs,h=>by
   simp only[aH,LV.b8]at h ⊢;obtain⟨a,len,cap,h1,h2,h3,h4,h9⟩:=h;have hl:(dL f l).length=l.length:=by
    clear h2 h4 h9;induction l with
    |nil=>rfl
    |cons x xs ih=>simp[dL,ih]
   refine⟨a,len,cap,h1,by rw[hl];exact h2,h3,?_,by rw[my f l h9];exact h9⟩;rcases h4 with h4|⟨blk,off,c,T,fz,part,rest,e1,e2,e3,e4,e5⟩
   ·left;subst h4;rfl
   exact .inr ⟨blk,off,c,T,fz,part,rest,e1,e2,e3,e4,aT.b8 f hm sz l part e5⟩
 | .agg l,cs,h=>by
   simp only[aH,LV.b8]at h ⊢;exact cP.b8 f hm l cs h
 | .ref b sz off len,cs,h=>by
   simp only[aH,LV.b8]at h ⊢;rcases h with h|⟨id,cap,c,T,fz,h1,h2,h3⟩
   ·exact qN
   exact .inr ⟨id,cap,c,T,fz,h1,hm _ _ h2,h3⟩
 | .lj b sz off len cap,cs,h=>by
   simp only[aH,LV.b8]at h ⊢;obtain⟨id,c,T,fz,h1,h2,h3⟩:=h;exact⟨id,c,T,fz,h1,hm _ _ h2,h3⟩
 | .aB b sz i o,cs,h=>by
   simp only[aH,LV.b8]at h ⊢;obtain⟨id,h1,h2⟩:=h;exact⟨id,h1,hm _ _ h2⟩
 | .cx c,cs,h=>by
   simp only[aH,LV.b8]at h ⊢;obtain⟨blk,off,cc,T,fz,part,rest,h1,h2,h3,h4,h5,h6,h7⟩:=h;exact⟨blk,off,cc,T,fz,part,rest,h1,h2,h3,h4,by rw[LV.alU];exact h5,aH.b8 f hm c part h6,by rw[LV.db f c h7];exact h7⟩
 | .dT g cap,cs,h=>by
   simp only[aH,LV.b8]at h ⊢;obtain⟨vs,h1,h2,h3⟩:=h;exact⟨vs,h1,aT.b8 f hm 1 cap vs.toList h2,by rw[my f cap h3];exact h3⟩
 | .aY _,_,h=>by simp[aH]at h
theorem aT.b8(f:Nat->Nat)(hm:∀b id,μ b=some id->bE (f b)=some id)(sz:Nat):∀(l:List LV) (cs:List Value),aT Z μ w sz l cs->aT Z bE w sz (dL f l) cs
 | [],cs,h=>by simpa[aT,dL]using h
 |x::xs,cs,h=>by
   simp only[aT,dL]at h ⊢;obtain⟨c1,c2,h1,h2,h3,h4⟩:=h;exact⟨c1,c2,h1,h2,aH.b8 f hm x c1 h3,aT.b8 f hm sz xs c2 h4⟩
theorem cP.b8(f:Nat->Nat)(hm:∀b id,μ b=some id->bE (f b)=some id):∀(l:List LV) (cs:List Value),cP Z μ w l cs->cP Z bE w (dL f l) cs
 | [],cs,h=>by simpa[cP,dL]using h
 |x::xs,cs,h=>by
   simp only[cP,dL]at h ⊢;obtain⟨c1,c2,h1,h2,h3,h4⟩:=h;exact⟨c1,c2,h1,by rw[LV.alU];exact h2,aH.b8 f hm x c1 h3,cP.b8 f hm xs c2 h4⟩
end
theorem g8.b8(f:Nat->Nat)(hm:∀b id,μ b=some id->bE (f b)=some id){lv:LV}{v:Value}(h:g8 Z μ w lv v):g8 Z bE w (lv.b8 f) v :=
 ⟨fun e=>let ⟨cs,h1,h2⟩:=h.1 (by rwa[LV.ajs]at e);⟨cs,h1,aH.b8 f hm _ _ h2⟩,fun e=>aH.b8 f hm _ _ (h.2 (by rwa[LV.ajs]at e))⟩
theorem il.b8(f:Nat->Nat)(hm:∀b id,μ b=some id->bE (f b)=some id):∀(l:List LV) (vs:List Value),il Z μ w l vs->il Z bE w (dL f l) vs
 | [],_,h=>h
 |_::xs,_,⟨v,l7,h1,h2,h3⟩=>⟨v,l7,h1,h2.b8 f hm,il.b8 f hm xs l7 h3⟩
theorem bJ.b8(f:Nat->Nat)(hm:∀b id,μ b=some id->bE (f b)=some id){lv:LV}{v:Value}(h:bJ Z μ w lv v):bJ Z bE w (lv.b8 f) v:=by
 cases lv with
 |aY l=>obtain⟨vs,h1,h2⟩:=h;exact⟨vs,h1,il.b8 f hm _ _ h2⟩
 |any=>trivial
 |_=>exact g8.b8 f hm h
end
def vd(bs:List aV):cd:=fun n=>if n=0 then none else bs[n-1]?
def akX(P:Program)(f:FuncId):Prop:=∃fn,P.funcs[f]?=some fn/\fn.body.isNone=false/\(fn.name== "runtime.NumGoroutine")=false
def mW(P:Program)(f:FuncId)(args:List LV)(r:LV)(bs:List aV):Prop :=
 akX P f/\∀(W:World) (Z0:Nat->Prop) (vs:List Value),(∀id,Z0 id->id<W.heap.size)->il Z0 (fun _=>none) W args vs ->
  Calls P f vs.toArray W fun e w'=>∃v μ Z,e=.returned v/\Core W XS.no Z0 μ Z (vd bs) w'/\bJ Z μ w' r v
def dv(d k:Nat):Nat:=1000000+d*16+k
def zL(μ fi:Nat->Option Nat)(d:Nat):Nat->Option Nat:=fun b =>
 if 1000000+d*16<=b/\b<1000000+d*16+16 then(fi (b-(1000000+d*16))).or (μ b)else μ b
section
variable {W w w':World} {X:XS} {Z0 Z Zr:Nat->Prop} {μ fi:Nat->Option Nat} {H:cd} {bs:List aV} {d:Nat}
theorem Core.call(hc:Core W X Z0 μ Z H w)(hr:Core w XS.no Z fi Zr (vd bs) w')(hlen:bs.length<16)(km:∀blk∈bs,aO blk.vals=true)
  (hH:∀i blk,bs[i]?=some blk->∃m,H (dv d (i+1))=some ⟨blk.sz,blk.vals,m⟩/\(blk.mt=false->m=false)/\μ (dv d (i+1))=none) :
  ∃Z',Core W X Z0 (zL μ fi d) Z' H w'/\(∀id,Zr id->Z' id)/\(∀id,Z id->Z' id)/\(∀b id,μ b=some id->zL μ fi d b=some id)/\Frame Z μ w w' /\
   (∀k id,fi k=some id->zL μ fi d (dv d k)=some id):=by
 have hk:∀k id,fi k=some id->∃blk,1<=k/\k<=bs.length/\bs[k-1]?=some blk/\vd bs k=some blk:=fun k id h=>by
  obtain⟨blk,h1,_⟩:=hr.heap k id h;have h0:k≠0:=by rintro rfl;simp[vd]at h1
  have h2:bs[k-1]?=some blk:=by simpa[vd,h0]using h1
  have:=(qi.1 h2).1;exact⟨blk,J,J,h2,h1⟩
 have hHk:∀k id,fi k=some id->∃blk m,bs[k-1]?=some blk/\H (dv d k)=some ⟨blk.sz,blk.vals,m⟩/\(blk.mt=false->m=false)/\μ (dv d k)=none/\vd bs k=some blk/\k<16:=fun k id h=>by
  obtain⟨blk,h1,h2,h3,h4⟩:=hk k id h;obtain⟨m,g1,g2,g3⟩:=hH (k-1) blk h3;have:k-1+1=k:=J;rw[this]at g1 g3;exact⟨blk,m,h3,g1,g2,g3,h4,J⟩
 have nS:∀k id,fi k=some id->zL μ fi d (dv d k)=some id:=fun k id h=>by
  obtain⟨blk,m,_,_,_,_,_,h6⟩:=hHk k id h;unfold zL dv;rw[if_pos J];have:1000000+d*16+k-(1000000+d*16)=k:=J;rw[this,h];rfl
 have hinv:∀b id,zL μ fi d b=some id->(∃k,b=dv d k/\fi k=some id)\/μ b=some id:=fun b id h=>by
  unfold zL at h;split at h
  ·rename_i hb
   cases hq:fi (b-(1000000+d*16))with
   |none=>rw[hq]at h;exact .inr mA
   |some id' =>
    rw[hq]at h;simp only[Option.some_or,gj]at h;subst h;exact .inl ⟨b-(1000000+d*16),by unfold dv;omega,hq⟩
  exact .inr h
 have hold:∀b id,μ b=some id->zL μ fi d b=some id:=fun b id h=>by
  unfold zL;split
  ·rename_i hb
   cases hq:fi (b-(1000000+d*16))with
   |none=>simpa using h
   |some id' =>
    obtain⟨blk,m,_,_,_,g,_⟩:=hHk _ _ hq;have:dv d (b-(1000000+d*16))=b:=by unfold dv;omega
    rw[this,h]at g;cases g
  exact h
 have cI:∀k id,fi k=some id->w.heap.size<=id:=fun k id h=>(hr.own k id h).resolve_right XS.ag5;have tN:∀k,k<w.heap.size->w'.heap[k]?=w.heap[k]?:=fun k hk=>hr.cV.block k hk XS.ag5;have eM:=hc.aAK tN;refine⟨fun id=>Zr id\/∃k blk,fi k=some id/\H (dv d k)=some blk/\blk.mt=false,⟨?_,?_,fun id h=>.inl (hr.kU id (hc.kU id h)),?_,?_,?_,?_,hc.pY,fun id h=>hold 0 id (hc.x1 id h),?_,?_,?_⟩,
  fun id h=>.inl h,fun id h=>.inl (hr.kU id h),hold,eM,nS⟩
 ·exact⟨hr.cV.os.trans hc.cV.os,hr.cV.tape.trans hc.cV.tape,hr.cV.output.trans hc.cV.output,aP hc.cV.size hr.cV.size,
   fun k hk hx=>(tN k (by have:=hc.cV.size;omega)).trans (hc.cV.block k hk hx),
   fun k hx c T fz h=>let ⟨c',g1,g2⟩:=hc.cV.yl k hx c T fz h;⟨c',(tN k (lX.1 g1).1).trans g1,g2⟩⟩
 ·rintro id (h|⟨k,blk,h,_⟩)
  ·exact hr.m9 id h
  exact hr.lt h
 ·rintro id (h|⟨k,blk,h,_⟩)
  ·rcases hr.nc id h with h|h|h
   ·exact hc.nc id h
   ·exact .inr (.inl (aP hc.cV.size h))
   exact h.elim
  exact .inr (.inl (aP hc.cV.size (cI k id h)))
 ·intro b b' id h h';rcases hinv b id h with⟨k,rfl,h1⟩|h1<;>rcases hinv b' id h' with⟨k',rfl,h2⟩|h2
  ·rw[hr.inj k k' id h1 h2]
  ·have:=cI k id h1;have:=hc.lt h2;omega
  ·have:=cI k' id h2;have:=hc.lt h1;omega
  exact hc.inj b b' id h1 h2
 ·intro b id h;rcases hinv b id h with⟨k,rfl,h1⟩|h1
  ·exact .inl (aP hc.cV.size (cI k id h1))
  exact hc.own b id h1
 ·intro b id h hx;rcases hinv b id h with⟨k,rfl,h1⟩|h1
  ·have:=cI k id h1;have:=hc.pY id (.inl hx);have:=hc.cV.size;omega
  exact hc.x0 b id h1 hx
 ·intro b id blk h hb hm hz;rcases hinv b id h with⟨k,rfl,h1⟩|h1
  ·obtain⟨xf,m,_,g2,g3,_,g5,_⟩:=hHk k id h1;rw[g2]at hb;cases hb;simp only at hm;subst hm;have iw:xf.mt=true:=by
    cases e:xf.mt with
    |true=>rfl
    |false=>exact absurd (g3 e) aE
   rcases hz with hz|⟨k',blk',j1,j2,j3⟩
   ·exact hr.ku k id xf h1 g5 iw hz
   have:=hr.inj k k' id h1 j1;subst this;rw[g2]at j2;cases j2;simp at j3
  rcases hz with hz|⟨k',blk',j1,j2,j3⟩
  ·rcases hr.nc id hz with h|h|h
   ·exact hc.ku b id blk h1 hb hm h
   ·have:=hc.lt h1;omega
   exact h.elim
  have:=cI k' id j1;have:=hc.lt h1;omega
 ·intro b id blk h hb hm;rcases hinv b id h with⟨k,rfl,h1⟩|h1
  ·exact .inr ⟨k,blk,h1,hb,hm⟩
  exact .inl (hr.kU id (hc.b9 b id blk h1 hb hm))
 intro b id h;rcases hinv b id h with⟨k,rfl,h1⟩|h1
 ·obtain⟨xf,m,g1,g2,g3,_,g5,_⟩:=hHk k id h1;obtain⟨ald,j1,c,T,part,rest,j2,j3,j4⟩:=hr.heap k id h1;rw[g5]at j1;cases j1;exact⟨_,g2,c,T,part,rest,j2,j3,aT.lS (fun id h=>.inl h) (fun _ _=>rfl) _ _ _ (km xf (vI g1)) j4⟩
 obtain⟨blk,g1,g2⟩:=hc.heap b id h1;exact⟨blk,g1,g2.mono (fun id h=>.inl (hr.kU id h)) hold eM (tN id (hc.lt h1))⟩
def adi(blk:aV):cd:=fun n=>if n=0 then some blk else none
def uP(id:Nat):Nat->Option Nat:=fun n=>if n=0 then some id else none
def pe(P:Program)(f:FuncId)(blk:aV)(args:List LV)(r:LV)(blk':aV):Prop :=
 akX P f/\∀(W:World) (Z0:Nat->Prop) (vs:List Value) (i0:Nat),(∀id,Z0 id->id<W.heap.size)->¬Z0 i0->xd Z0 (uP i0) W blk i0->il Z0 (uP i0) W args vs ->
  Calls P f vs.toArray W fun e w'=>∃v μ Z,e=.returned v/\Core W (XS.one i0) Z0 μ Z (adi blk') w'/\bJ Z μ w' r v
theorem Core.aHI{b i0:Nat}{blk blk':aV}(hc:Core W X Z0 μ Z H w)(hb:μ b=some i0)(hH:H b=some blk)(hm:blk.mt=true)(r8:blk'.mt=true)(mZ:aO blk'.vals=true)
  (hr:Core w (XS.one i0) Z fi Zr (adi blk') w') :
  ∃Z',Core W X Z0 μ Z' (fun k=>if k=b then some blk' else H k) w'/\(∀id,Zr id->Z' id)/\(∀id,Z id->Z' id)/\Frame Z μ w w'/\∀k id,fi k=some id->k=0/\id=i0:=by
 have tY:=hr.x1 i0 rfl;have nN:∀k id,fi k=some id->k=0/\id=i0:=fun k id h=>by
  obtain⟨ald,h1,_⟩:=hr.heap k id h;have:k=0:=by
   unfold adi at h1;split at h1
   ·assumption
   cases h1
  subst this;rw[tY]at h;cases h;exact⟨rfl,rfl⟩
 have aQX:=hc.lt hb;have tN:∀k,k<w.heap.size->k≠i0->w'.heap[k]?=w.heap[k]?:=fun k hk hx=>hr.cV.block k hk (fun e=>hx (XS.aCH e));have uI:¬Z i0:=hc.ku b i0 blk hb hH hm;have eM:Frame Z μ w w':=by
  refine⟨fun id h=>tN id (hc.m9 id h) (fun e=>uI (e▸h)),fun c id h cc T fz wx=>?_⟩;by_cases e:id=i0
  ·subst e;exact hr.cV.yl id (.inl rfl) cc T fz wx
  exact⟨cc,(tN id (hc.lt h) e).trans wx,rfl⟩
 refine⟨Zr,⟨?_,hr.m9,fun id h=>hr.kU id (hc.kU id h),?_,hc.inj,hc.own,hc.x0,hc.pY,hc.x1,?_,?_,?_⟩,fun _ h=>h,hr.kU,eM,nN⟩
 ·refine⟨hr.cV.os.trans hc.cV.os,hr.cV.tape.trans hc.cV.tape,hr.cV.output.trans hc.cV.output,aP hc.cV.size hr.cV.size,fun k hk hx=>?_,fun k hx c T fz h=>?_⟩
  ·have:k≠i0:=by
    rintro rfl;rcases hc.own b k hb with h|h
    ·omega
    exact hx h
   exact(tN k (by have:=hc.cV.size;omega) this).trans (hc.cV.block k hk hx)
  obtain⟨c',g1,g2⟩:=hc.cV.yl k hx c T fz h;by_cases e:k=i0
  ·subst e;obtain⟨c2,g3,g4⟩:=hr.cV.yl k (.inl rfl) c' T fz g1;exact⟨c2,g3,g4.trans g2⟩
  exact⟨c',(tN k (lX.1 g1).1 e).trans g1,g2⟩
 ·intro id h;rcases hr.nc id h with h|h|h
  ·exact hc.nc id h
  ·exact .inr (.inl (aP hc.cV.size h))
  exact h.elim
 ·intro c id bk h g gX hz;rcases hr.nc id hz with hz'|hz'|hz'
  ·by_cases e:c=b
   ·subst e;rw[hb]at h;cases h;exact uI hz'
   rw[if_neg e]at g;exact hc.ku c id bk h g gX hz'
  ·have:=hc.lt h;omega
  exact hz'.elim
 ·intro c id bk h g gX;by_cases e:c=b
  ·rw[if_pos e]at g;cases g;rw[r8]at gX;cases gX
  rw[if_neg e]at g;exact hr.kU id (hc.b9 c id bk h g gX)
 intro c id h;by_cases e:c=b
 ·subst e;rw[hb]at h;cases h;obtain⟨bk,g1,cc,T,part,rest,g2,g3,g4⟩:=hr.heap 0 i0 tY;simp only[adi,if_true]at g1
  cases g1
  exact⟨blk',if_pos rfl,cc,T,part,rest,g2,g3,aT.lS (fun _ h=>h) (fun _ _=>rfl) _ _ _ mZ g4⟩
 obtain⟨bk,g1,g2⟩:=hc.heap c id h;have aZ:id≠i0:=fun e'=>e (hc.inj c b id h (e'▸hb));exact⟨bk,by rw[if_neg e];exact g1,g2.mono hr.kU (fun _ _ h=>h) eM (tN id (hc.lt h) aZ)⟩
end
end Go.Lg
namespace Go.Lg
def ow(P:Program)(T:TypeId)(n:Nat):Prop:=∃i,P.info? T=some i/\i.bytes=n
inductive dV (P:Program) (ρ:Operand->LV) (d:Nat):Op->LV->aV->Prop
 |make {T E l c kl kc z sz eH n m} (hT:P.underlying T=some (.slice E)) (hz:dM P E z) (hE:bS P E sz z.isAgg) (fk:z.aq=sz) (hb:ow P E eH)
   (hl:ρ l=.v (.int kl (n:Nat))) (hc:ρ c=.v (.int kc (m:Nat))) (lK:n<=m) (hm:eH*m<=281474976710656) (fC:m<=9223372036854775807) :
   dV P ρ d (.makeSlice T l c) (.ref d sz 0 n) ⟨sz,av n z,true⟩
 |lit {T E n ps z sz} (hT:P.underlying T=some (.slice E)) (hz:dM P E z) (hE:bS P E sz z.isAgg) (fk:z.aq=sz) (hn:n*sz<=16777216) (h0:0<n) (fb:0<sz)
   (hp:∀p∈ps.toList,p.1<n/\lay (ρ p.2)=lay z/\ρ p.2≠.any/\∀m,ρ p.2≠.aY m) :
   dV P ρ d (.buildSlice T n ps) (.ref d sz 0 n) ⟨sz,kP (av n z) (ps.toList.map fun p=>(p.1,ρ p.2)),true⟩
 |aee {T E sz ag} (hT:P.underlying T=some (.slice E)) (hE:bS P E sz ag):dV P ρ d (.buildSlice T 0 #[]) (.ref d sz 0 0) ⟨sz,[],true⟩
 |box {T x} (aZ:ρ x≠.any/\∀m,ρ x≠.aY m):dV P ρ d (.box T x) (.aB d (ρ x).aq 0 0) ⟨(ρ x).aq,[ρ x],true⟩
 |alloc {T z} (hz:dM P T z):dV P ρ d (.alloc T) (.aB d z.aq 0 0) ⟨z.aq,[z],true⟩
inductive OpC (P:Program) (H:cd) (ρ:Operand->LV) (d:Nat):Op->LV->List aV->Prop
 |func {f xs as args r bs} (ha:gR H (xs.toList.map ρ) args) (hk:mW P f args r bs) (hlen:bs.length<16) (km:∀blk∈bs,aO blk.vals=true) :
   OpC P H ρ d (.call ⟨.value (.func f),xs,as⟩) (r.b8 (dv d)) bs
 |acP {f x as a b k sz off len r bs} (hx:ρ x=.agg [a,b,.ref k sz off len]) (ha:a.pure=true) (hb:b.pure=true) (hk:mW P f [.agg [a,b,.any]] r bs) (hlen:bs.length<16) (km:∀blk∈bs,aO blk.vals=true) :
   OpC P H ρ d (.call ⟨.value (.func f),#[x],as⟩) (r.b8 (dv d)) bs
 |dT {t f cap xs as args r bs} (ht:ρ (.tmp t)=.dT f cap) (ha:gR H (xs.toList.map ρ) args) (abR:aO cap=true/\∀x∈cap,x.aq=1/\x.isAgg=false) (hk:mW P f (args++cap) r bs)
   (hlen:bs.length<16) (km:∀blk∈bs,aO blk.vals=true) :
   OpC P H ρ d (.call ⟨.value (.tmp t),xs,as⟩) (r.b8 (dv d)) bs
 |mk {f xs caps} (ha:gR H (xs.toList.map ρ) caps) (h1:∀x∈caps,x.aq=1/\x.isAgg=false):OpC P H ρ d (.makeFunc (.func f) #[] xs) (.dT f caps) []
inductive nB (P:Program) (H:cd) (ρ:Operand->LV) (d:Nat):Op->LV->List (Nat×aV)->Prop
 |pure {op r} (h:aM P H ρ op r):nB P H ρ d op r []
 |alloc {op r blk} (h:dV P ρ d op r blk):nB P H ρ d op r [(d,blk)]
 |call {op r bs} (h:OpC P H ρ d op r bs):nB P H ρ d op r (bs.mapIdx fun i blk=>(dv d (i+1),blk))
section
variable {P:Program} {W w:World} {X:XS} {Z0 Z:Nat->Prop} {μ:Nat->Option Nat} {H H':cd} {ρ:Operand->LV} {a:Act}
theorem aM.le{op:Op}{r:LV}(hle:H.le H')(h:aM P H ρ op r):aM P H' ρ op r:=by
 cases h with
 |fa hp hb hs hi hx hr hT =>
  obtain⟨m,g1,_⟩:=hle _ _ hb;exact .fa (blk:=⟨_,_,m⟩) hp g1 hs hi hx hr hT
 |move x=>exact .move x
 |assign x=>exact .assign x
 |pick h=>exact .pick h
 |bin hx hy h=>exact .bin hx hy h
 |sh hx hy h=>exact .sh hx hy h
 |beq hx hy hT=>exact .beq hx hy hT
 |bne hx hy hT=>exact .bne hx hy hT
 |not hx=>exact .not hx
 |neg hx=>exact .neg hx
 |conv hS hD hx=>exact .conv hS hD hx
 |extract ht hr aZ=>exact .extract ht hr aZ
 |field hx hT hr aZ=>exact .field hx hT hr aZ
 |aax hp hT hr=>exact .aax hp hT hr
 |acW hp hT hk=>exact .acW hp hT hk
 |abx hp hT hc=>exact .abx hp hT hc
 |ahF hx=>exact .ahF hx
 |yj hx hT hE hf hi h0 hr hp=>exact .yj hx hT hE hf hi h0 hr hp
 |ado hx hT hE hi h0 hm=>exact .ado hx hT hE hi h0 hm
 |ac3 hx hT hE hf hi h0 hr=>exact .ac3 hx hT hE hf hi h0 hr
 |aci hT hE hf hz hp=>exact .aci hT hE hf hz hp
 |ag8 hx=>exact .ag8 hx
 |qt hx hT hE hi h0 hr hc=>exact .qt hx hT hE hi h0 hr hc
 |wL hx hT hE hi h0 hn=>exact .wL hx hT hE hi h0 hn
 |acV hx hT hE a b c d e f=>exact .acV hx hT hE a b c d e f
 |zg hx hT hE a b c d e f g=>exact .zg hx hT hE a b c d e f g
 |aic hx hT hE a b c d e f g i=>exact .aic hx hT hE a b c d e f g i
 |abC hx has hT=>exact .abC hx has hT
 |acx hx has hT=>exact .acx hx has hT
 |ab9 hx has hT=>exact .ab9 hx has hT
 |acD hx has hT=>exact .acD hx has hT
 |ags hx has hT=>exact .ags hx has hT
 |af8 hx hT hE a b c d e f g=>exact .af8 hx hT hE a b c d e f g
 |min2 hx hy=>exact .min2 hx hy
 |max2 hx hy=>exact .max2 hx hy
 |akc hx hT hi h0 hb=>exact .akc hx hT hi h0 hb
 |acN hf ta hb hn he hx hr h1 h2=>exact .acN hf ta hb hn he hx hr h1 h2
 |build hT hz hp=>exact .build hT hz hp
theorem nB.le{op:Op}{r:LV}{d:Nat}{fr:List (Nat×aV)}(hle:H.le H')(h:nB P H ρ d op r fr):nB P H' ρ d op r fr:=by
 cases h with
 |pure h=>exact .pure (h.le hle)
 |alloc h=>exact .alloc h
 |call h =>
  refine .call ?_
  cases h with
  |func ha hk hlen km=>exact .func (gR.le hle ha) hk hlen km
  |acP hx ha hb hk hlen km=>exact .acP hx ha hb hk hlen km
  |dT ht ha abR hk hlen km=>exact .dT ht (gR.le hle ha) abR hk hlen km
  |mk ha h1=>exact .mk (gR.le hle ha) h1
theorem ajp(hc:Core W X Z0 μ Z H w):∀(xs:List Operand) (args:List LV),gR H (xs.map ρ) args->(∀x∈xs,bJ Z μ w (ρ x) (a.eval x)) ->
  il Z (fun _=>none) w args (xs.map a.eval)
 | [],_,h,_=>by cases h;rfl
 |x::xs,_,h,hr=>by
   cases h with
   |cons h t =>
    exact⟨_,_,rfl,dt.agD hc h (hr x aE),ajp hc xs _ t (fun y hy=>hr y (by simp[hy]))⟩
theorem il.append:∀(l m:List LV) (vs us:List Value),il Z μ w l vs->il Z μ w m us->il Z μ w (l++m) (vs++us)
 | [],m,vs,us,h,h'=>by cases h;exact h'
 |x::xs,m,_,us,⟨v,l7,e,h1,h2⟩,h'=>by
   subst e;exact⟨v,l7++us,by simp,h1,il.append xs m l7 us h2 h'⟩
theorem aAR{bE:Nat->Option Nat}:∀(l:List LV) (cs:List Value),aO l=true->(∀x∈l,x.aq=1/\x.isAgg=false)->aT Z μ w 1 l cs->il Z bE w l cs
 | [],cs,_,_,h=>by simp only[aT]at h;exact h
 |x::xs,cs,hp,h1,h=>by
   simp only[aT]at h;obtain⟨c1,c2,rfl,h2,h3,h4⟩:=h
   match c1,h2 with
   | [y],_ =>
    refine⟨y,c2,rfl,⟨fun e=>?_,fun _=>aH.lS (fun _ h=>h) (fun _ _=>rfl) _ _ (pure_cons hp).1 h3⟩,aAR xs c2 (pure_cons hp).2 (fun z hz=>h1 z (by simp[hz])) h4⟩;rw[(h1 x aE).2]at e;cases e
theorem aAg{bE:Nat->Option Nat}:∀(l:List LV) (vs:List Value),aO l=true->(∀x∈l,x.aq=1/\x.isAgg=false)->il Z μ w l vs->aT Z bE w 1 l vs
 | [],vs,_,_,h=>by simp only[aT];exact h
 |x::xs,_,hp,h1,⟨v,l7,e,h2,h3⟩=>by
   subst e;simp only[aT];exact⟨[v],l7,rfl,rfl,aH.lS (fun _ h=>h) (fun _ _=>rfl) _ _ (pure_cons hp).1 (h2.2 (h1 x aE).2),aAg xs l7 (pure_cons hp).2 (fun z hz=>h1 z (by simp[hz])) h3⟩
theorem ahV{f:FuncId}{args:Array Value}(h:akX P f):(callFunc f args).run P w=.ok (.enter f args) w:=by
 obtain⟨fn,h1,h2,h3⟩:=h;simp only[callFunc,Sem.run_bind,run_program,Result.andThen_ok,h1,h3,afF,if_false,h2,Sem.run_pure]
theorem anw(z:Array Value)(hz:0<z.size):∀n,(madeCells z (n*z.size)).toList=(av n z.toList).flatten
 |0=>by simp[madeCells]
 |n+1=>by
   have ih:=anw z hz n;simp only[madeCells,Array.toList_map,Array.toList_range]at ih ⊢;rw[yz,List.range_add,List.map_append,ih,List.replicate_succ',avP,List.map_map];congr 1;simp only[anC,List.flatten_nil,ey];apply aaW
   ·simp
   intro j h1 h2;simp at h1;simp[jU h1,h1]
theorem aLq{sz:Nat}{z:LV}{ch:List Value}(h:aH Z μ w z ch)(hl:ch.length=sz)(n m:Nat)(lK:n<=m):
  ∃part rest,(av m ch).flatten=part++rest/\aT Z μ w sz (av n z) part:=by
 refine⟨(av n ch).flatten,(av (m-n) ch).flatten,?_,aT.replicate h hl n⟩;rw[<-avP,List.replicate_append_replicate,Nat.add_sub_cancel' lK]
theorem aHy{fi:Nat->Option Nat}{d:Nat}{b:Nat}(h:zL μ fi d b≠none):μ b≠none\/∃k,b=dv d k/\fi k≠none:=by
 unfold zL at h;split at h
 ·cases hq:fi (b-(1000000+d*16))with
  |none=>rw[hq]at h;exact .inl mA
  |some id=>exact .inr ⟨b-(1000000+d*16),by unfold dv;omega,by rw[hq];simp⟩
 exact qN
structure ajF (W:World) (X:XS) (Z0:Nat->Prop) (μ:Nat->Option Nat) (Z:Nat->Prop) (H:cd) (w:World) (r:LV) (fr:List (Nat×aV)) (v:Value) (w':World) (bE:Nat->Option Nat) (Z':Nat->Prop):Prop where
 core:Core W X Z0 bE Z' H w'
 hz:∀id,Z id->Z' id
 hm:∀b id,μ b=some id->bE b=some id
 hf:Frame Z μ w w'
 rep:bJ Z' bE w' r v
 new:∀b,bE b≠none->μ b≠none\/b∈fr.map (·.1)
theorem aqu{f:FuncId}{vs:Array Value}{d:Nat}{args:List LV}{r:LV}{bs:List aV}{o:Oper}{K:Act->World->Prop}{Q:Exit->Act->World->Prop}
  (hc:Core W X Z0 μ Z H w) (hk:mW P f args r bs) (hlen:bs.length<16) (km:∀blk∈bs,aO blk.vals=true)
  (hargs:il Z (fun _=>none) w args vs.toList)
  (eM:∀i blk,bs[i]?=some blk->∃m,H (dv d (i+1))=some ⟨blk.sz,blk.vals,m⟩/\(blk.mt=false->m=false)/\μ (dv d (i+1))=none)
  (iA:(execOp a.eval o).run P w=.ok (.enter f vs) w)
  (hK:∀v w' bE Z',ajF W X Z0 μ Z H w (r.b8 (dv d)) (bs.mapIdx fun i blk=>(dv d (i+1),blk)) v w' bE Z'->K (a.put o.dst v) w'):o.wp P a w K Q:=by
 unfold Oper.wp;rw[iA,Oper.upon_enter];have:=hk.2 w Z vs.toList hc.m9 hargs;rw[Array.toArray_toList]at this;refine this.mono ?_;rintro e w' ⟨v,fi,Zr,rfl,hr,hv⟩;obtain⟨Z',h1,h2,h3,h4,h5,h6⟩:=hc.call hr hlen km eM;refine hK v w' _ Z' ⟨h1,h3,h4,h5,?_,?_⟩
 ·exact(hv.mono h2 (fun _ _ h=>h) ⟨fun _ _=>rfl,(Frame.refl Zr fi w').m⟩).b8 (dv d) h6
 intro b hb;rcases aHy hb with h|⟨k,rfl,h⟩
 ·exact qN
 right;obtain⟨id,hid⟩:=anY.1 h;obtain⟨blk,g1,_⟩:=hr.heap k id hid;have h0:k≠0:=by rintro rfl;simp[vd]at g1
 have g2:bs[k-1]?=some blk:=by simpa[vd,h0]using g1
 simp only[cZ,aA9];refine⟨_,⟨k-1,(qi.1 g2).1,rfl⟩,?_⟩;show dv d (k-1+1)=dv d k;congr 1;omega
theorem awd{sz:Nat}:∀(l:List LV) (cs:List Value),(∀x∈l,x.aq=sz)->aT Z μ w sz l cs->cP Z μ w l cs
 | [],cs,_,h=>by simpa[aT,cP]using h
 |x::xs,cs,hx,h=>by
   simp only[aT,cP]at h ⊢;obtain⟨c1,c2,h1,h2,h3,h4⟩:=h;exact⟨c1,c2,h1,by rw[h2,hx x aE],h3,awd xs c2 (fun y hy=>hx y (by simp[hy])) h4⟩
theorem aBA{sz:Nat}:∀(l:List LV) (cs:List Value),(∀x∈l,x.aq=sz)->cP Z μ w l cs->aT Z μ w sz l cs
 | [],cs,_,h=>by simpa[aT,cP]using h
 |x::xs,cs,hx,h=>by
   simp only[aT,cP]at h ⊢;obtain⟨c1,c2,h1,h2,h3,h4⟩:=h;exact⟨c1,c2,h1,by rw[h2,hx x aE],h3,aBA xs c2 (fun y hy=>hx y (by simp[hy])) h4⟩
theorem ayc(x:Nat×Bool):∀n,pK (av n x)=n*x.1
 |0=>by simp[pK]
 |n+1=>by simp[ap0,pK,ayc x n,yz];omega
theorem atl:∀(qs:List (Nat×LV)) (zs:List LV) (n:Nat×Bool),(∀x∈zs,lay x=n)->(∀q∈qs,lay q.2=n)->∀x∈kP zs qs,lay x=n
 | [],zs,n,h,_=>h
 |q::qs,zs,n,h,hq=>by
   refine atl qs (zs.set q.1 q.2) n (fun x hx=>?_) (fun q' h'=>hq q' (by simp[h']));rcases List.mem_or_eq_of_mem_set hx with hx|rfl
   ·exact h x hx
   exact hq q aE
theorem aJR{T E:TypeId}{n:Nat}{ps:Array (Nat×Operand)}{z:LV}{sz:Nat}(hT:P.underlying T=some (.slice E))(hz:dM P E z)(hE:bS P E sz z.isAgg)(fk:z.aq=sz)
  (hn:n*sz<=16777216) (h0:0<n) (fb:0<sz) (hp:∀p∈ps.toList,p.1<n/\lay (ρ p.2)=lay z/\ρ p.2≠.any/\∀m,ρ p.2≠.aY m)
  (dE:∀p∈ps.toList,bJ Z μ w (ρ p.2) (a.eval p.2)) :
  ∃cs,(Instr.buildSlice T n (ps.map fun(i,x)=>(i,a.eval x))).run P w=.ok (.slice (some ⟨w.heap.size,0,none⟩) n n) (w.alloc (.cells cs E)) /\
   aT Z μ w sz (kP (av n z) (ps.toList.map fun p=>(p.1,ρ p.2))) cs.toList:=by
 obtain⟨i,zv,z1,z2,z3,z4⟩:=hz;have aZ:=LV.fJ z3;have bU:i.size=sz:=by have:=hE.1;rw[z1]at this;simpa using this
 have p9:=aH.len (z4 Z μ w) aZ;have amz:zv.cells.size=sz:=by rw[<-pT,p9,fk]
 have aGb:(madeCells zv.cells (n*sz)).toList=(av n zv.cells.toList).flatten:=by
  have:=anw zv.cells J n;rwa[amz]at this
 have fM:aT Z μ w sz (av n z) (madeCells zv.cells (n*sz)).toList:=by
  rw[aGb];exact aT.replicate (z4 Z μ w) (by rw[p9,fk]) n
 have hcz:∀x∈av n z,x.aq=sz:=fun x hx=>by rw[(uK.1 hx).2,fk]
 obtain⟨cs,f1,f2⟩:=ak8 (Z:=Z) (μ:=μ) (w:=w) (ls:=av n (lay z)) (fun k=>some (k*sz,sz))
  (fun k m hk=>by
   obtain⟨h1,h2⟩:=qi.1 hk;simp at h1 h2;subst h2;rw[List.take_replicate,ayc,nM J];simp[lay,fk])
  (ps.toList.map fun p=>(p.1,a.eval p.2)) (ps.toList.map fun p=>(p.1,ρ p.2)) (av n z) (madeCells zv.cells (n*sz)) aE (awd _ _ hcz fM) aE
  (fun j p q mj rR=>by
   simp only[jY,abz]at mj rR;obtain⟨x,hx,rfl⟩:=mj;obtain⟨y,hy,rfl⟩:=rR;rw[hx]at hy;cases hy;have hm:=vI hx;obtain⟨_,_,h3,h4⟩:=hp x hm;exact⟨bJ.to1 h4 h3 (dE x hm),h3⟩)
  (fun q hq=>by
   simp only[cZ]at hq;obtain⟨x,hx,rfl⟩:=hq;obtain⟨h1,h2,_⟩:=hp x hx;exact⟨lay z,by simp[h1],h2⟩)
 refine⟨cs,?_,aBA _ _ (fun x hx=>?_) f2⟩
 ·have hzv:(zeroValue E).run P w=.ok zv w:=by simp[zeroValue,typeInfo,z1,z2]
  have hso:(sizeOf E).run P w=.ok sz w:=run_sizeOf hE;have hns:¬n*sz=0:=by
   intro h;rcases asm.1 h with h|h<;>omega
  have hle:¬2^24<n*sz:=by
   have:(2:Nat)^24=16777216:=aj;omega
  have wg:(ahG (fun x=>match x with|(i,x)=>(i,a.eval x)) ps).toList=ps.toList.map fun p=>(p.1,a.eval p.2):=aE;simp only[Instr.buildSlice,Sem.run_bind,run_underlying hT,Result.andThen_ok,hso,gt_iff_lt,hle,if_false,Sem.run_ite,hns,hzv,Sem.run_pure,wg];have xy:(aAs (n*sz)).map (fun x=>zv.cells[x%zv.cells.size]!)=madeCells zv.cells (n*sz):=rfl;rw[xy,f1];rfl
 have hb:=atl (ps.toList.map fun p=>(p.1,ρ p.2)) (av n z) (lay z) (fun x hx=>by rw[(uK.1 hx).2]) (fun q hq=>by
  simp only[cZ]at hq;obtain⟨y,hy,rfl⟩:=hq;exact(hp y hy).2.1) x hx
 have:=congrArg Prod.fst hb;simpa[lay,fk]using this
theorem ayB(z:Array Value)(n:Nat):(Builtin.zeroCells z n).toList=(av n z.toList).flatten:=by
 have hl:((av n z.toList).flatten).length=n*z.size:=by
  induction n with
  |zero=>simp
  |succ n ih=>simp only[ap0,anC,jx,ih,yz];simp;omega
 refine aaW (by rw[hl];simp[Builtin.zeroCells]) (fun i h1 h2=>?_);have hi:i<n*z.size:=by rw[hl]at h2;exact h2
 have hz:0<z.size:=Nat.pos_of_ne_zero fun e=>by rw[e]at hi;simp at hi
 have key:∀(n i:Nat),i<n*z.size->(av n z.toList).flatten[i]?=z.toList[i%z.size]?:=by
  intro n
  induction n with
  |zero=>intro i h;simp at h
  |succ n ih =>
   intro i h;rw[ap0,anC];rcases g7 i z.size with h3|h3
   ·rw[ab6 (by simpa using h3),jU h3]
   rw[abt (by simpa using h3)];have e:z.toList.length=z.size:=aE;rw[e,ih (i-z.size) (by rw[yz]at h;omega),<-Nat.mod_eq_sub_mod h3]
 have h3:=key n i hi;rw[ck h2]at h3;have hm:i%z.size<z.size:=Nat.mod_lt _ hz;rw[ck (by simpa using hm)]at h3;simp only[gj]at h3;rw[h3];simp[Builtin.zeroCells,hm]
theorem aIg{op:Op}{r:LV}{d:Nat}{blk:aV}(hc:Core W X Z0 μ Z H w)(ho:dV P ρ d op r blk)(dE:∀x∈op.operands,bJ Z μ w (ρ x) (a.eval x))
  {m:Bool} (hH:H d=some ⟨blk.sz,blk.vals,m⟩) (vT:μ d=none) (dst:Option Tmp) (ty:TypeId) (pos:String) (after:Array Edge) (g:Option (Nat×Bool)) :
  ∃v w' bE Z',(execOp a.eval ⟨dst,op,ty,pos,after,g⟩).run P w=.ok (.value v) w'/\ajF W X Z0 μ Z H w r [(d,blk)] v w' bE Z':=by
 have nS:∀id b,sQ μ d id b≠none->μ b≠none\/b∈[(d,blk)].map (·.1):=fun id b h=>by
  unfold sQ at h;split at h
  ·subst_vars;right;simp
  exact qN
 cases ho with
 | @make T E l c kl kc z sz eH n cp hT hz hE fk hb hl dZ lK iX fC =>
  obtain⟨i,zv,z1,z2,z3,z4⟩:=hz;have e1:=dE l cX;rw[hl]at e1;have e1:=e1.iO;have e2:=dE c cX;rw[dZ]at e2;have e2:=e2.iO;have aZ:=LV.fJ z3;have bU:i.size=sz:=by have:=hE.1;rw[z1]at this;simpa using this
  have lD:i.bytes=eH:=by obtain⟨i',g1,g2⟩:=hb;rw[z1]at g1;cases g1;exact g2
  have p9:=aH.len (z4 Z μ w) aZ;have amz:zv.cells.size=sz:=by rw[<-pT,p9,fk]
  have hr:=run_make (P:=P) w T E i zv hT z1 z2 kl kc (n:Int) (cp:Int) J J (by rw[lD];omega) J;simp only[Int.toNat_natCast,bU]at hr;obtain⟨part,rest,p1,p2⟩:=aLq (sz:=sz) (z4 Z μ w) (by rw[p9,fk]) n cp lK;have anJ:(madeCells zv.cells (cp*sz)).toList=part++rest:=by
   by_cases nt:0<zv.cells.size
   ·rw[<-amz,anw _ nt,p1]
   have:sz=0:=J;rw[<-p1,this];have h0:zv.cells.toList=[]:=by
    apply pQ;rw[pT];omega
   simp[madeCells,h0]
  obtain⟨Z',h1,h2,h3,h4,h5,h6⟩:=hc.push hH vT (vZ.alloc w (.cells (madeCells zv.cells (cp*sz)) E)) anJ p2;refine⟨_,_,_,Z',by simp only[execOp,e1,e2];rw[Sem.run_bind,hr];rfl,h1,h2,h3,h4,⟨by simp[LV.isAgg],fun _=>?_⟩,nS _⟩;simp only[aH];exact .inr ⟨w.heap.size,cp,_,E,(0,0),by simp,h5,lK,h6,by rw[size_madeCells];simp⟩
 | @lit T E n ps z sz hT hz hE fk hn h0 fb hp =>
  have hpm:∀p∈ps.toList,bJ Z μ w (ρ p.2) (a.eval p.2):=fun p hp=>dE p.2 (by simp[Op.operands];exact⟨p.1,by simpa using hp⟩);obtain⟨cs,r1,r2⟩:=aJR (P:=P) (Z:=Z) (μ:=μ) (w:=w) (a:=a) hT hz hE fk hn h0 fb hp hpm;obtain⟨Z',h1,h2,h3,h4,h5,h6⟩:=hc.push hH vT (vZ.alloc w (.cells cs E)) (ey _).symm r2;refine⟨_,_,_,Z',by simp only[execOp];rw[Sem.run_bind,r1];rfl,h1,h2,h3,h4,⟨by simp[LV.isAgg],fun _=>?_⟩,nS _⟩;simp only[aH];have hl:=aT.length _ _ r2;have ve:(kP (av n z) (ps.toList.map fun p=>(p.1,ρ p.2))).length=n:=by
   have:∀(qs:List (Nat×LV)) (zs:List LV),(kP zs qs).length=zs.length:=fun qs=>by
    induction qs with
    |nil=>intro zs;rfl
    |cons q qs ih=>intro zs;exact(ih _).trans aE
   rw[this];simp
  exact .inr ⟨w.heap.size,n,cs,E,(0,0),by simp,h5,bF _,h6,by rw[<-pT,hl,ve];simp⟩
 | @aee T E sz ag hT hE =>
  obtain⟨Z',h1,h2,h3,h4,h5,h6⟩:=hc.push hH vT (vZ.alloc w (.cells #[] E)) (part:=[]) (rest:=[]) rfl (by simp[aT]);refine⟨_,_,_,Z',by simp[execOp,Instr.buildSlice,run_underlying hT,run_sizeOf hE,Instr.fill,newRow,show (ahG (fun _:Nat=>(default:Value)) (aAs 0))=#[] from by apply y6;simp];exact rfl,h1,h2,h3,h4,⟨by simp[LV.isAgg],fun _=>?_⟩,nS _⟩;simp only[aH];exact .inr ⟨w.heap.size,0,#[],E,(0,0),by rw[afY],h5,bF _,h6,by simp⟩
 | @box T x aZ =>
  have e1:=dE x cX;obtain⟨c1,c2,_,_⟩:=(bJ.to1 aZ.2 aZ.1 e1).cells aZ.1;have zC:aT Z μ w (ρ x).aq [ρ x] (a.eval x).cells.toList:=by
   simp only[aT];exact⟨_,[],by simp,by simp[c2],c1,rfl⟩
  obtain⟨Z',h1,h2,h3,h4,h5,h6⟩:=hc.push (T:=T) (c:=(a.eval x).cells) hH vT (vZ.alloc w _) (ey _).symm zC;refine⟨_,_,_,Z',by simp only[execOp,Instr.box,newVar,newRow,Sem.run_bind,run_newObj,Result.andThen_ok,Sem.run_pure];rfl,h1,h2,h3,h4,⟨by simp[LV.isAgg],fun _=>?_⟩,nS _⟩;simp only[aH];exact⟨w.heap.size,by simp,h5⟩
 | @alloc T z hz =>
  obtain⟨i,zv,z1,z2,z3,z4⟩:=hz;have aZ:=LV.fJ z3;have p9:=aH.len (z4 Z μ w) aZ;have zC:aT Z μ w z.aq [z] zv.cells.toList:=by
   simp only[aT];exact⟨_,[],by simp,by simpa using p9,z4 Z μ w,rfl⟩
  obtain⟨Z',h1,h2,h3,h4,h5,h6⟩:=hc.push (T:=T) (c:=zv.cells) hH vT (vZ.alloc w _) (ey _).symm zC;have hzv:(zeroValue T).run P w=.ok zv w:=by simp[zeroValue,typeInfo,z1,z2]
  refine⟨_,_,_,Z',by simp only[execOp,Instr.alloc,newVar,newRow,Sem.run_bind,hzv,run_newObj,Result.andThen_ok,Sem.run_pure];rfl,h1,h2,h3,h4,⟨by simp[LV.isAgg],fun _=>?_⟩,nS _⟩;simp only[aH];exact⟨w.heap.size,by simp,h5⟩
theorem aLB{op:Op}{r:LV}{d:Nat}{bs:List aV}(hc:Core W X Z0 μ Z H w)(ho:OpC P H ρ d op r bs)(dE:∀x∈op.operands,bJ Z μ w (ρ x) (a.eval x))
  (eM:∀i blk,bs[i]?=some blk->∃m,H (dv d (i+1))=some ⟨blk.sz,blk.vals,m⟩/\(blk.mt=false->m=false)/\μ (dv d (i+1))=none)
  (dst:Option Tmp) (ty:TypeId) (pos:String) (after:Array Edge) (g:Option (Nat×Bool)) {K:Act->World->Prop} {Q:Exit->Act->World->Prop}
  (hK:∀v w' bE Z',ajF W X Z0 μ Z H w r (bs.mapIdx fun i blk=>(dv d (i+1),blk)) v w' bE Z'->K (a.put dst v) w') :
  (⟨dst,op,ty,pos,after,g⟩:Oper).wp P a w K Q:=by
 cases ho with
 | @func f xs as args r bs ha hk hlen km =>
  have hargs:=ajp (a:=a) hc xs.toList args ha (fun x hx=>dE x (by simp[Op.operands,Call.operands];right;simpa using hx));refine aqu (vs:=xs.map a.eval) hc hk hlen km (by simpa using hargs) eM ?_ hK;simp only[execOp,resolve,Act.eval,Deferred.ofValue,Sem.run_bind,Sem.run_pure,Result.andThen_ok,invoke];have:=ahV (P:=P) (w:=w) (args:=xs.map a.eval) hk.1;simpa using this
 | @acP f x as u v k sz off len r bs hx ha hb hk hlen km =>
  have h1:=dE x mB;rw[hx]at h1;obtain⟨cs,e0,h⟩:=h1.1 rfl;have hargs:il Z (fun _=>none) w [.agg [u,v,.any]] [a.eval x]:=by
   refine⟨a.eval x,[],rfl,⟨fun _=>⟨cs,e0,?_⟩,fun e=>by simp[LV.isAgg]at e⟩,rfl⟩;simp only[aH,cP]at h ⊢;obtain⟨c1,c2,e1,l1,g1,c3,c4,e2,l2,g2,c5,c6,e3,l3,g3,e4⟩:=h;exact⟨c1,c2,e1,l1,aH.lS (fun _ h=>h) (fun _ _=>rfl) _ _ ha g1,c3,c4,e2,l2,aH.lS (fun _ h=>h) (fun _ _=>rfl) _ _ hb g2,c5,c6,e3,l3,aH.one (Z:=Z) (μ:=μ) (w:=w) (.ref k sz off len) c5 (by simp only[aH];exact g3),e4⟩
  refine aqu (vs:=#[a.eval x]) hc hk hlen km (by simpa using hargs) eM ?_ hK;simp only[execOp,resolve,Act.eval,Deferred.ofValue,Sem.run_bind,Sem.run_pure,Result.andThen_ok,invoke];have:=ahV (P:=P) (w:=w) (args:=#[a.eval x]) hk.1;simpa[Act.eval]using this
 | @dT t f cap xs as args r bs ht ha abR hk hlen km =>
  have hargs:=ajp (a:=a) hc xs.toList args ha (fun x hx=>dE x (by simp[Op.operands,Call.operands];right;simpa using hx));have e1:=dE (.tmp t) mB;rw[ht]at e1;have e2:=e1.2 rfl;simp only[aH]at e2;obtain⟨cv,q1,q2,_⟩:=e2;simp only[iF,and_true]at q1;have sD:=aAR (bE:=fun _=>none) cap cv.toList abR.1 abR.2 q2;refine aqu (vs:=xs.map a.eval++cv) hc hk hlen km (by simpa using il.append _ _ _ _ hargs sD) eM ?_ hK;have:=ahV (P:=P) (w:=w) (args:=xs.map a.eval++cv) hk.1;simp only[execOp,resolve,q1,Deferred.ofValue,Sem.run_bind,Sem.run_pure,Result.andThen_ok,invoke];simpa using this
 | @mk f xs caps ha h1 =>
  have hargs:=ajp (a:=a) hc xs.toList caps ha (fun x hx=>dE x (by simp[Op.operands];simpa using hx));have hp:=(gR.lay ha).2;have iA:(execOp a.eval ⟨dst,.makeFunc (.func f) #[] xs,ty,pos,after,g⟩).run P w=.ok (.value (.func (.func f) #[] (xs.map a.eval))) w:=by
   simp[execOp,Instr.makeFunc]
  unfold Oper.wp;rw[iA,Oper.upon_value];refine hK _ w μ Z ⟨hc,fun _ h=>h,fun _ _ h=>h,Frame.refl _ _ _,⟨by simp[LV.isAgg],fun _=>?_⟩,fun b h=>.inl h⟩;simp only[aH];exact⟨_,rfl,aAg caps _ hp h1 (by simpa using hargs),hp⟩
theorem nB.sound{op:Op}{r:LV}{d:Nat}{fr:List (Nat×aV)}(hc:Core W X Z0 μ Z H w)(ho:nB P H ρ d op r fr)(dE:∀x∈op.operands,bJ Z μ w (ρ x) (a.eval x))
  (eM:∀b blk,(b,blk)∈fr->∃m,H b=some ⟨blk.sz,blk.vals,m⟩/\(blk.mt=false->m=false)/\μ b=none)
  (dst:Option Tmp) (ty:TypeId) (pos:String) (after:Array Edge) (g:Option (Nat×Bool)) {K:Act->World->Prop} {Q:Exit->Act->World->Prop}
  (hK:∀v w' bE Z',ajF W X Z0 μ Z H w r fr v w' bE Z'->K (a.put dst v) w') :
  (⟨dst,op,ty,pos,after,g⟩:Oper).wp P a w K Q:=by
 cases ho with
 |pure h =>
  obtain⟨v,h1,h2⟩:=h.sound dE hc.heap dst ty pos after g;unfold Oper.wp;rw[h1,Oper.upon_value];exact hK v w μ Z ⟨hc,fun _ h=>h,fun _ _ h=>h,Frame.refl _ _ _,h2,fun b h=>.inl h⟩
 | @alloc blk h =>
  obtain⟨m,g1,_,g3⟩:=eM d blk aE;obtain⟨v,w',bE,Z',h1,h2⟩:=aIg hc h dE g1 g3 dst ty pos after g;unfold Oper.wp;rw[h1,Oper.upon_value];exact hK v w' bE Z' h2
 | @call bs h =>
  refine aLB hc h dE (fun i blk hb=>eM _ blk ?_) dst ty pos after g hK;rw[aA9];obtain⟨h1,h2⟩:=qi.1 hb;exact⟨i,h1,by rw[h2]⟩
end
end Go.Lg
namespace Go.Lg
mutual
def LV.kill(b:Nat):LV->LV
 | .ref c sz off len=>if c=b then .any else .ref c sz off len
 | .lj c sz off len cap=>if c=b then .any else .lj c sz off len cap
 | .aB c sz i o=>if c=b then .any else .aB c sz i o
 | .agg l=>.agg (bC b l)
 | .aY l=>.aY (bC b l)
 | .any=>.any
 | .v x=>.v x
 | .list sz l=>.list sz l
 | .cx c=>.cx c
 | .dT f l=>.dT f l
def bC(b:Nat):List LV->List LV
 | []=>[]
 |x::xs=>x.kill b::bC b xs
end
mutual
theorem LV.ax4(b:Nat):∀(x:LV),(x.kill b).aq=x.aq
 | .any=>rfl | .v _=>rfl | .list ..=>rfl | .cx _=>rfl | .dT ..=>rfl
 | .aY _=>rfl
 | .ref c sz off len=>by simp only[LV.kill];split<;>rfl
 | .lj c sz off len cap=>by simp only[LV.kill];split<;>rfl
 | .aB c sz i o=>by simp only[LV.kill];split<;>rfl
 | .agg l=>by simp only[LV.kill,LV.aq,atH b l]
theorem atH(b:Nat):∀(l:List LV),dg (bC b l)=dg l
 | []=>rfl
 |x::xs=>by simp only[bC,dg,LV.ax4 b x,atH b xs]
end
theorem LV.aur(b:Nat)(x:LV):(x.kill b).isAgg=x.isAgg:=by
 cases x with
 |ref c sz off len=>simp only[LV.kill];split<;>rfl
 |lj c sz off len cap=>simp only[LV.kill];split<;>rfl
 |aB c sz i o=>simp only[LV.kill];split<;>rfl
 |_=>rfl
mutual
theorem LV.oH(b:Nat):∀(x:LV),x.pure=true->x.kill b=x
 | .any,_=>rfl
 | .v _,_=>rfl
 | .list sz l,_=>rfl
 | .agg l,h=>by simp only[LV.kill,adI b l (by simpa[LV.pure]using h)]
 | .ref ..,h=>by simp[LV.pure]at h
 | .lj ..,h=>by simp[LV.pure]at h
 | .aB ..,h=>by simp[LV.pure]at h
 | .cx c,_=>rfl
 | .dT g l,_=>rfl
 | .aY l,h=>by simp[LV.pure]at h
theorem adI(b:Nat):∀(l:List LV),aO l=true->bC b l=l
 | [],_=>rfl
 |x::xs,h=>by simp only[bC,LV.oH b x (pure_cons h).1,adI b xs (pure_cons h).2]
end
section
variable {Z Z':Nat->Prop} {μ bE:Nat->Option Nat} {w w':World} {b:Nat}
mutual
theorem aH.kill(hz:∀id,Z id->Z' id)(hm:∀c id,c≠b->μ c=some id->bE c=some id)(hf:Frame Z μ w w'):
  ∀(lv:LV) (cs:List Value),aH Z μ w lv cs->aH Z' bE w' (lv.kill b) cs
 | .any,_,h=>by simpa[aH,LV.kill]using h
 | .v x,cs,h=>by simpa[aH,LV.kill]using h
 | .list sz l,cs,h=>by
   have hp:(LV.list sz l).pure=true:=by
    simp only[aH]at h;obtain⟨a,len,cap,_,_,_,_,h9⟩:=h;simpa[LV.pure]using h9
   exact aH.lS hz hf.z _ _ hp h
 | .agg l,cs,h=>by
   simp only[aH,LV.kill]at h ⊢;exact cP.kill hz hm hf l cs h
 | .ref c sz off len,cs,h=>by
   simp only[LV.kill];split
   ·exact fun u hu=>aH.one _ _ h u hu
   rename_i aZ;simp only[aH]at h ⊢;rcases h with h|⟨id,cap,c',T,fz,h1,h2,h3,h4,h5⟩
   ·exact qN
   obtain⟨c2,h6,h7⟩:=hf.m c id h2 c' T fz h4;exact .inr ⟨id,cap,c2,T,fz,h1,hm _ _ aZ h2,h3,h6,J⟩
 | .lj c sz off len cap,cs,h=>by
   simp only[LV.kill];split
   ·exact fun u hu=>aH.one _ _ h u hu
   rename_i aZ;simp only[aH]at h ⊢;obtain⟨id,c',T,fz,h1,h2,h3,h4,h5⟩:=h;obtain⟨c2,h6,h7⟩:=hf.m c id h2 c' T fz h4;exact⟨id,c2,T,fz,h1,hm _ _ aZ h2,h3,h6,J⟩
 | .aB c sz i o,cs,h=>by
   simp only[LV.kill];split
   ·exact fun u hu=>aH.one _ _ h u hu
   rename_i aZ;simp only[aH]at h ⊢;obtain⟨id,h1,h2⟩:=h;exact⟨id,h1,hm _ _ aZ h2⟩
 | .cx c,cs,h=>by
   have hp:(LV.cx c).pure=true:=by
    simp only[aH]at h;obtain⟨blk,off,cc,T,fz,part,rest,_,_,_,_,_,_,h7⟩:=h;simpa[LV.pure]using h7
   exact aH.lS hz hf.z _ _ hp h
 | .dT f cap,cs,h=>by
   have hp:(LV.dT f cap).pure=true:=by
    simp only[aH]at h;obtain⟨vs,_,_,h3⟩:=h;simpa[LV.pure]using h3
   exact aH.lS hz hf.z _ _ hp h
 | .aY _,_,h=>by simp[aH]at h
theorem cP.kill(hz:∀id,Z id->Z' id)(hm:∀c id,c≠b->μ c=some id->bE c=some id)(hf:Frame Z μ w w'):
  ∀(l:List LV) (cs:List Value),cP Z μ w l cs->cP Z' bE w' (bC b l) cs
 | [],cs,h=>by simpa[cP,bC]using h
 |x::xs,cs,h=>by
   simp only[cP,bC]at h ⊢;obtain⟨c1,c2,h1,h2,h3,h4⟩:=h;exact⟨c1,c2,h1,by rw[LV.ax4];exact h2,aH.kill hz hm hf x c1 h3,cP.kill hz hm hf xs c2 h4⟩
end
theorem aT.kill{sz:Nat}(hz:∀id,Z id->Z' id)(hm:∀c id,c≠b->μ c=some id->bE c=some id)(hf:Frame Z μ w w'):
  ∀(l:List LV) (cs:List Value),aT Z μ w sz l cs->aT Z' bE w' sz (bC b l) cs
 | [],cs,h=>by simpa[aT,bC]using h
 |x::xs,cs,h=>by
   simp only[aT,bC]at h ⊢;obtain⟨c1,c2,h1,h2,h3,h4⟩:=h;exact⟨c1,c2,h1,h2,aH.kill hz hm hf x c1 h3,aT.kill hz hm hf xs c2 h4⟩
theorem g8.kill(hz:∀id,Z id->Z' id)(hm:∀c id,c≠b->μ c=some id->bE c=some id)(hf:Frame Z μ w w'){lv:LV}{v:Value}
  (h:g8 Z μ w lv v):g8 Z' bE w' (lv.kill b) v :=
 ⟨fun e=>let ⟨cs,h1,h2⟩:=h.1 (by rwa[LV.aur]at e);⟨cs,h1,aH.kill hz hm hf _ _ h2⟩,fun e=>aH.kill hz hm hf _ _ (h.2 (by rwa[LV.aur]at e))⟩
theorem il.kill(hz:∀id,Z id->Z' id)(hm:∀c id,c≠b->μ c=some id->bE c=some id)(hf:Frame Z μ w w'):
  ∀(l:List LV) (vs:List Value),il Z μ w l vs->il Z' bE w' (bC b l) vs
 | [],_,h=>h
 |_::xs,_,⟨v,l7,h1,h2,h3⟩=>⟨v,l7,h1,h2.kill hz hm hf,il.kill hz hm hf xs l7 h3⟩
theorem bJ.kill(hz:∀id,Z id->Z' id)(hm:∀c id,c≠b->μ c=some id->bE c=some id)(hf:Frame Z μ w w'){lv:LV}{v:Value}
  (h:bJ Z μ w lv v):bJ Z' bE w' (lv.kill b) v:=by
 cases lv with
 |aY l=>obtain⟨vs,h1,h2⟩:=h;exact⟨vs,h1,il.kill hz hm hf _ _ h2⟩
 |any=>trivial
 |_ =>
  refine bJ.xO (fun l e=>?_) (g8.kill hz hm hf h);simp only[LV.kill]at e
  first
   |cases e
   |(split at e<;>cases e)
end
structure St where
 slot:Nat->LV
 heap:cd
def St.ev(L:St):Operand->LV
 | .tmp t=>L.slot t
 | .const v=>if v.oneCell' then .v v else .any
 | .func f=>.dT f []
 | .global _=>.any
def St.put(L:St)(d:Option Nat)(r:LV):St :=
 match d with
 |some t=>⟨fun s=>bif oV s t then r else L.slot s,L.heap⟩
 |none=>L
theorem iU(L:St)(t:Nat)(r:LV)(s:Nat):(L.put (some t) r).slot s=if s=t then r else L.slot s:=by
 show (bif oV s t then r else L.slot s)=_;by_cases h:s=t
 ·subst h;simp
 have:oV s t=false:=by rw[<-Bool.not_eq_true,Nat.beq_eq];exact h
 rw[this,if_neg h];rfl
def St.bO(L:St)(b:Nat)(x:Option aV):St:=⟨L.slot,fun c=>if c=b then x else L.heap c⟩
def St.kill(L:St)(b:Nat):St :=
 ⟨fun t=>(L.slot t).kill b,fun c=>if c=b then none else(L.heap c).map fun blk=>⟨blk.sz,bC b blk.vals,blk.mt⟩⟩
def ic(n:Nat)(W:World)(X:XS)(Z0:Nat->Prop)(L:St)(a:Act)(w:World):Prop :=
 a.defers=[]/\a.tmps.size=n/\∃μ Z,Core W X Z0 μ Z L.heap w/\∀t,bJ Z μ w (L.slot t) (a.tmps.getD t undef)
inductive zD (H:cd) (b:Nat):LV->LV->Prop
 |dH {x y} (h:dt H x y):zD H b x y
 |ref {sz off len}:zD H b (.ref b sz off len) (.ref 0 sz off len)
 |ptr {sz i o}:zD H b (.aB b sz i o) (.aB 0 sz i o)
inductive aag (H:cd) (b:Nat):List LV->List LV->Prop
 |nil:aag H b [] []
 |cons {x y xs ys} (h:zD H b x y) (t:aag H b xs ys):aag H b (x::xs) (y::ys)
inductive Names (b:Nat):List LV->Prop
 |ref {sz off len xs} (h:0<len):Names b (.ref b sz off len::xs)
 |ptr {sz i o xs}:Names b (.aB b sz i o::xs)
 |tl {x xs} (h:Names b xs):Names b (x::xs)
inductive OpM (P:Program) (L:St) (dst:Option Tmp):Op->St->Prop
 |call {f xs as args r b blk blk'} (hb:L.heap b=some blk) (hm:blk.mt=true) (hp:aO blk.vals=true) (ha:aag L.heap b (xs.toList.map L.ev) args) (hn:Names b (xs.toList.map L.ev)) (hk:pe P f blk args r blk')
   (r8:blk'.mt=true) (mZ:aO blk'.vals=true) :
   OpM P L dst (.call ⟨.value (.func f),xs,as⟩) ((L.bO b (some blk')).put dst (r.b8 fun _=>b))
 |aiA {T U E x y z k kl sz eH len cp n d b blk} (hT:P.underlying T=some (.slice E)) (hU:P.underlying U=some (.int k)) (hz:dM P E z) (hE:bS P E sz z.isAgg) (fk:z.aq=sz) (hb:ow P E eH)
   (hx:L.ev x=.lj b sz 0 len cp) (mn:L.heap b=some blk) (hs:blk.sz=sz) (hlen:len<=blk.vals.length) (hy:L.ev y=.v (.int kl (n:Nat))) (gY:L.heap d=none) (hg:cp<len+n) (fb:0<sz) (hm:(len+n)*eH<=140737488355328) (jl:len+n<=4611686018427387904) :
   OpM P L dst (.call ⟨.builtin .append,#[x,y],#[T,U]⟩) ((L.bO d (some ⟨sz,blk.vals.take len++av n z,true⟩)).put dst (.ref d sz 0 (len+n)))
 |ovl {f x y Tx Ty fn b c sz o1 n1 o2 n2 ag tS tR e} (hf:P.funcs[f]?=some fn) (ta:(fn.name== "runtime.NumGoroutine")=false) (hb:fn.body.isNone=true) (hn:Extern.findNext fn=none) (he:Extern.find fn=some (Extern.SlicesOverlaps.overlaps #[tS,tS] #[tR]))
   (ht:P.underlying tS=some (.slice e)) (hE:bS P e sz ag) (hx:L.ev x=.ref b sz o1 n1) (hy:L.ev y=.ref c sz o2 n2) (yb:b≠c) (h1:0<n1) (h2:0<n2) (fb:0<sz) :
   OpM P L dst (.call ⟨.value (.func f),#[x,y],#[Tx,Ty]⟩) (L.put dst (.v (.bool false)))
inductive iI (P:Program) (L:St) (dst:Option Tmp):Op->St->Prop
 |store {T p x b sz i o blk y y'} (hp:L.ev p=.aB b sz i o) (hb:L.heap b=some blk) (hs:blk.sz=sz) (hm:blk.mt=true) (hi:blk.vals[i]?=some y) (hy:y.aq=sz)
   (nG:y.put o (L.ev x)=some y') (hT:bS P T (L.ev x).aq (L.ev x).isAgg) (aZ:L.ev x≠.any/\∀l,L.ev x≠.aY l) :
   iI P L dst (.store T p x) ((L.bO b (some ⟨sz,blk.vals.set i y',true⟩)).put dst .any)
 |eU {T U E E' d b sz len blk x y news z eH} (hx:L.ev x=.ref b sz 0 len) (hb:L.heap b=some blk) (hs:blk.sz=sz) (hm:blk.mt=true) (hlen:len<=blk.vals.length) (gY:d=b\/L.heap d=none) (gh:b≠0)
   (hT:P.underlying T=some (.slice E)) (hU:P.underlying U=some (.slice E')) (hz:dM P E z) (hE:bS P E sz z.isAgg) (fk:z.aq=sz) (lD:ow P E eH)
   (hy:(∃c off eQ,L.ev y=.ref c sz off news.length/\c≠b/\L.heap c=some eQ/\eQ.sz=sz/\off+news.length<=eQ.vals.length/\news=(eQ.vals.drop off).take news.length/\aO news=true) \/
    L.ev y=.list sz news\/(L.ev y=.v (.slice none 0 0)/\news=[]))
   (bU:(len+news.length)*eH<=140737488355328) (jl:len+news.length<=4611686018427387904) (fb:0<sz) :
   iI P L dst (.call ⟨.builtin .append,#[x,y],#[T,U]⟩) (((L.kill b).bO d (some ⟨sz,bC b (blk.vals.take len++news),true⟩)).put dst (.ref d sz 0 (len+news.length)))
 |zG {T U E E' d sz x y news z eH} (hx:L.ev x=.v (.slice none 0 0)) (gY:L.heap d=none)
   (hT:P.underlying T=some (.slice E)) (hU:P.underlying U=some (.slice E')) (hz:dM P E z) (hE:bS P E sz z.isAgg) (fk:z.aq=sz) (lD:ow P E eH)
   (hy:(∃c off eQ,L.ev y=.ref c sz off news.length/\L.heap c=some eQ/\eQ.sz=sz/\off+news.length<=eQ.vals.length/\news=(eQ.vals.drop off).take news.length/\aO news=true) \/
    L.ev y=.list sz news)
   (hn:0<news.length) (bU:news.length*eH<=140737488355328) (jl:news.length<=4611686018427387904) (fb:0<sz) :
   iI P L dst (.call ⟨.builtin .append,#[x,y],#[T,U]⟩) ((L.bO d (some ⟨sz,news,true⟩)).put dst (.ref d sz 0 news.length))
 |clr {T E x b sz off n blk z} (hx:L.ev x=.ref b sz off n) (hb:L.heap b=some blk) (hs:blk.sz=sz) (hm:blk.mt=true) (hl:off+n<=blk.vals.length) (hT:P.underlying T=some (.slice E)) (hz:dM P E z) (fk:z.aq=sz) :
   iI P L dst (.call ⟨.builtin .clear,#[x],#[T]⟩) ((L.bO b (some ⟨sz,blk.vals.take off++av n z++blk.vals.drop (off+n),true⟩)).put dst .any)
 |cpy {T U E E' x y b sz off news blk ag} (hx:L.ev x=.ref b sz off news.length) (hb:L.heap b=some blk) (hs:blk.sz=sz) (hm:blk.mt=true) (hl:off+news.length<=blk.vals.length) (hT:P.underlying T=some (.slice E)) (hU:P.underlying U=some (.slice E')) (hE:bS P E sz ag)
   (hy:(∃c off2 eQ,L.ev y=.ref c sz off2 news.length/\L.heap c=some eQ/\eQ.sz=sz/\off2+news.length<=eQ.vals.length/\news=(eQ.vals.drop off2).take news.length)\/L.ev y=.list sz news) :
   iI P L dst (.call ⟨.builtin .copy,#[x,y],#[T,U]⟩) ((L.bO b (some ⟨sz,blk.vals.take off++news++blk.vals.drop (off+news.length),true⟩)).put dst .any)
 |afg {T U E E' x y b sz off n1 blk c off2 n2 eQ news ag} (hx:L.ev x=.ref b sz off n1) (hb:L.heap b=some blk) (hs:blk.sz=sz) (hm:blk.mt=true) (hl:off<=blk.vals.length) (hT:P.underlying T=some (.slice E)) (hU:P.underlying U=some (.slice E')) (hE:bS P E sz ag)
   (hy:L.ev y=.ref c sz off2 n2) (hc:L.heap c=some eQ) (yE:eQ.sz=sz) (hn:news.length=aiZ n2 n1) (h0:0<news.length) (oK:off2+news.length<=eQ.vals.length) (rQ:news=(eQ.vals.drop off2).take news.length) :
   iI P L dst (.call ⟨.builtin .copy,#[x,y],#[T,U]⟩) ((L.bO b (some ⟨sz,blk.vals.take off++news++blk.vals.drop (off+news.length),true⟩)).put dst .any)
theorem iI.app{P:Program}{L:St}{dst:Option Tmp}{T:TypeId}{U:TypeId}{E:TypeId}{E':TypeId}{d:Nat}{b:Nat}{sz:Nat}{len:Nat}{blk:aV}{x:Operand}{y:Operand}{news:List LV}{z:LV}{eH:Nat}(hd:dst=some d)(hx:L.ev x=.ref b sz 0 len)(hb:L.heap b=some blk)(hs:blk.sz=sz)(hm:blk.mt=true)(hlen:len<=blk.vals.length)(gY:d=b\/L.heap d=none)(gh:b≠0)
   (hT:P.underlying T=some (.slice E)) (hU:P.underlying U=some (.slice E')) (hz:dM P E z) (hE:bS P E sz z.isAgg) (fk:z.aq=sz) (lD:ow P E eH)
   (hy:(∃c off eQ,L.ev y=.ref c sz off news.length/\c≠b/\L.heap c=some eQ/\eQ.sz=sz/\off+news.length<=eQ.vals.length/\news=(eQ.vals.drop off).take news.length/\aO news=true) \/
    L.ev y=.list sz news\/(L.ev y=.v (.slice none 0 0)/\news=[]))
   (bU:(len+news.length)*eH<=140737488355328) (jl:len+news.length<=4611686018427387904) (fb:0<sz) :
  iI P L dst (.call ⟨.builtin .append,#[x,y],#[T,U]⟩) (((L.kill b).bO d (some ⟨sz,bC b (blk.vals.take len++news),true⟩)).put dst (.ref d sz 0 (len+news.length))):=.eU hx hb hs hm hlen gY gh hT hU hz hE fk lD hy bU jl fb
section
variable {P:Program} {W w w':World} {X:XS} {Z0 Z:Nat->Prop} {μ:Nat->Option Nat} {H:cd} {a:Act} {L L':St} {n:Nat}
theorem n7(h:∀t,bJ Z μ w (L.slot t) (a.tmps.getD t undef))(x:Operand):bJ Z μ w (L.ev x) (a.eval x):=by
 cases x with
 |tmp t=>exact h t
 |const v =>
  simp only[St.ev,Act.eval];split
  ·exact bJ.v (by assumption)
  trivial
 |func f =>
  simp only[St.ev,Act.eval];exact⟨by simp[LV.isAgg],fun _=>by simp[aH,aT,aO]⟩
 |global g=>simp only[St.ev];trivial
theorem uN{d:Option Nat}{r:LV}{v:Value}(hd:∀t,d=some t->t<a.tmps.size)(h:∀t,bJ Z μ w (L.slot t) (a.tmps.getD t undef))(hv:bJ Z μ w r v):
  ∀t,bJ Z μ w ((L.put d r).slot t) ((a.put d v).tmps.getD t undef):=by
 intro t
 cases d with
 |none=>exact h t
 |some s =>
  rw[iU];simp only[Act.put];by_cases hts:t=s
  ·subst hts;have:=hd t rfl;simp[this];exact hv
  have:=h t;simp only[hts,if_false,dQ,lU (Ne.symm hts)]at this ⊢;exact this
theorem uL(a:Act)(d:Option Nat)(v:Value):(a.put d v).tmps.size=a.tmps.size:=by cases d<;>simp[Act.put]
theorem put_defers(a:Act)(d:Option Nat)(v:Value):(a.put d v).defers=a.defers:=by cases d<;>rfl
theorem kH(L:St)(d:Option Nat)(r:LV):(L.put d r).heap=L.heap:=by cases d<;>rfl
end
end Go.Lg
namespace Go.Lg
section
variable {P:Program} {W w w':World} {X:XS} {Z0 Z:Nat->Prop} {μ:Nat->Option Nat} {H:cd} {a:Act} {L L':St} {n:Nat}
theorem Core.rewrite{b id:Nat}{blk blk':aV}{c c':Array Value}{T:TypeId}{part rest:List Value}(hc:Core W X Z0 μ Z H w)(hb:μ b=some id)(hH:H b=some blk)(hm:blk.mt=true)(r8:blk'.mt=true)
  (hcell:w.heap[id]?=some (.cells c T (0,0))) (bU:c'.size=c.size) (h1:c'.toList=part++rest) (h2:aT Z μ w blk'.sz blk'.vals part)
  (hw:w'=w.setRow id c') :
  Core W X Z0 μ Z (fun k=>if k=b then some blk' else H k) w'/\Frame Z μ w w':=by
 subst hw;have adV:(w.setRow id c').heap[id]?=some (.cells c' T (0,0)):=setRow_heap w id c c' T (0,0) hcell;have z9:∀k,k≠id->(w.setRow id c').heap[k]?=w.heap[k]?:=fun k hk=>by
  simp only[World.setRow,aAN,if_neg (Ne.symm hk)]
 have ahC:(w.setRow id c').heap.size=w.heap.size:=by simp[World.setRow]
 have uI:¬Z id:=hc.ku b id blk hb hH hm;have eM:Frame Z μ w (w.setRow id c'):=by
  refine⟨fun k hk=>z9 k (fun e=>uI (e▸hk)),fun b' k hk cc T' fz wx=>?_⟩;by_cases e:k=id
  ·subst e;rw[hcell]at wx;cases wx;exact⟨c',adV,bU⟩
  exact⟨cc,(z9 k e).trans wx,rfl⟩
 refine⟨⟨?_,fun k hk=>by rw[ahC];exact hc.m9 k hk,hc.kU,hc.nc,hc.inj,hc.own,hc.x0,hc.pY,hc.x1,?_,?_,?_⟩,eM⟩
 ·refine⟨hc.cV.os,hc.cV.tape,hc.cV.output,by rw[ahC];exact hc.cV.size,fun k hk hx=>?_,fun k hx c0 T0 w9 h0=>?_⟩;have:k≠id:=by
   rintro rfl;rcases hc.own b k hb with h|h
   ·omega
   exact hx h
  exact(z9 k this).trans (hc.cV.block k hk hx);obtain⟨c1,g1,g2⟩:=hc.cV.yl k hx c0 T0 w9 h0;by_cases e:k=id
  ·subst e;rw[hcell]at g1;cases g1;exact⟨c',adV,bU.trans g2⟩
  exact⟨c1,(z9 k e).trans g1,g2⟩
 ·intro b' k bk h g gX;by_cases e:b'=b
  ·subst e;rw[hb]at h;cases h;exact uI
  rw[if_neg e]at g;exact hc.ku b' k bk h g gX
 ·intro b' k bk h g gX;by_cases e:b'=b
  ·subst e;rw[if_pos rfl]at g;cases g;rw[r8]at gX;cases gX
  rw[if_neg e]at g;exact hc.b9 b' k bk h g gX
 intro b' k h;by_cases e:b'=b
 ·subst e;rw[hb]at h;cases h;exact⟨blk',if_pos rfl,c',T,part,rest,adV,h1,h2.mono (fun _ h=>h) (fun _ _ h=>h) eM⟩
 obtain⟨bk,g1,g2⟩:=hc.heap b' k h;have aZ:k≠id:=fun e'=>e (hc.inj b' b k h (e'▸hb));exact⟨bk,by rw[if_neg e];exact g1,g2.mono (fun _ h=>h) (fun _ _ h=>h) eM (z9 k aZ)⟩
theorem aFf{T:TypeId}{id off:Nat}{c:Array Value}{U:TypeId}{v:Value}{sz:Nat}{ag:Bool}(hT:bS P T sz ag)(hcell:w.heap[id]?=some (.cells c U (0,0)))
  (hv:v.cells.size=sz) (h1:∀u∈v.cells.toList,u.oneCell'=true) (uO:off+sz<=c.size) :
  (storeVar T ⟨id,off,none⟩ v).run P w=.ok () (w.setRow id (c.toList.take off++v.cells.toList++c.toList.drop (off+sz)).toArray):=by
 have:=run_storeCells_at P id off U v.cells.toList 0 c w hcell aQ h1;simp only[storeVar,Sem.run_bind,run_sizeOf hT,Result.andThen_ok,hv,ne_eq,not_true_eq_false,if_false,Sem.run_ite];simpa[hv]using this
theorem aKz{T:TypeId}{p x:Operand}{b sz i o:Nat}{blk:aV}{y y':LV}(hc:Core W X Z0 μ Z L.heap w)(hr:∀t,bJ Z μ w (L.slot t) (a.tmps.getD t undef))
  (hp:L.ev p=.aB b sz i o) (hb:L.heap b=some blk) (hs:blk.sz=sz) (hm:blk.mt=true) (hi:blk.vals[i]?=some y) (hy:y.aq=sz)
  (nG:y.put o (L.ev x)=some y') (hT:bS P T (L.ev x).aq (L.ev x).isAgg) (aZ:L.ev x≠.any/\∀l,L.ev x≠.aY l)
  (dst:Option Tmp) (ty:TypeId) (pos:String) (after:Array Edge) (g:Option (Nat×Bool)) :
  ∃w',(execOp a.eval ⟨dst,.store T p x,ty,pos,after,g⟩).run P w=.ok .skip w'/\Core W X Z0 μ Z (L.bO b (some ⟨sz,blk.vals.set i y',true⟩)).heap w'/\Frame Z μ w w':=by
 have e1:=n7 (L:=L) hr p;rw[hp]at e1;have e2:=e1.2 rfl;simp only[aH]at e2;obtain⟨id,h1,h2⟩:=e2;simp only[iF,and_true]at h1;obtain⟨blk',rM,c,U,part,rest,q1,q2,q3⟩:=hc.heap b id h2;rw[hb]at rM;cases rM;obtain⟨c1,c2,c3,_⟩:=(bJ.to1 aZ.2 aZ.1 (n7 (L:=L) hr x)).cells aZ.1;obtain⟨pre,ch,post,g1,g2,g3,g4,g5⟩:=aT.get blk.vals part i y q3 hi;obtain⟨abm,yp,yR,j1,j2,j3,j4,j5⟩:=LV.ax1 (L.ev x) (a.eval x).cells.toList c1 (by simpa using c2) y o y' ch nG g4 (by rw[g3,hs,hy]);have kf:=g5 y' _ j4 (by
  have:=congrArg List.length j1;simp only[jx]at this ⊢;omega)
 have hlen:c.toList.length=pre.length+(abm.length+(yp.length+yR.length)+post.length)+rest.length:=by
  rw[q2,g1,j1];simp;omega
 have uO:i*sz+o+(L.ev x).aq<=c.size:=by
  rw[<-pT,hlen];rw[hs]at g2;have:yp.length=(L.ev x).aq:=by rw[j3];simpa using c2
  omega
 have iA:=aFf (P:=P) (id:=id) (off:=i*sz+o) hT q1 c2 c3 uO;have nS:(c.toList.take (i*sz+o)++(a.eval x).cells.toList++c.toList.drop (i*sz+o+(L.ev x).aq))=(pre++((abm++((a.eval x).cells.toList++yR))++post))++rest:=by
  rw[q2,g1,j1];have lr:i*sz+o=(pre++abm).length:=by rw[hs]at g2;simp;omega
  have oK:(L.ev x).aq=yp.length:=by rw[j3];simpa using c2.symm
  rw[lr,oK];have e:(pre++(abm++(yp++yR)++post))++rest=(pre++abm)++(yp++(yR++(post++rest))):=aE;rw[e,ajE];have e2:List.drop ((pre++abm).length+yp.length) ((pre++abm)++(yp++(yR++(post++rest))))=yR++(post++rest):=by
   rw[<-rZ,acB,acB]
  rw[e2];simp
 rw[nS]at iA;have hcs:c.size=c.toList.length:=pT.symm;have hA:(a.eval x).cells.toList.length=yp.length:=j3.symm;obtain⟨k1,k2⟩:=Core.rewrite (w':=w.setRow id ((pre++((abm++((a.eval x).cells.toList++yR))++post))++rest).toArray) (blk':=⟨sz,blk.vals.set i y',true⟩)
  (part:=pre++((abm++((a.eval x).cells.toList++yR))++post)) (rest:=rest) hc h2 hb hm rfl q1
  (by rw[hcs,hlen];simp only[acZ,jx,hA]) aE (by rw[<-hs];exact kf) rfl
 exact⟨_,by simp only[execOp,h1,Instr.storeAt,Instr.sureAddr,Sem.run_bind,Sem.run_pure,Result.andThen_ok,iA],k1,k2⟩
theorem zD.sound{b i0:Nat}(hc:Core W X Z0 μ Z H w)(hb:μ b=some i0){x y:LV}{v:Value}(h:zD H b x y)(hr:bJ Z μ w x v):g8 Z (uP i0) w y v:=by
 cases h with
 |dH h=>exact dt.agD hc h hr
 |ref =>
  have:=hr.2 rfl;refine⟨by simp[LV.isAgg],fun _=>?_⟩;simp only[aH]at this ⊢;rcases this with h|⟨id,cap,c,T,fz,h1,h2,h3⟩
  ·exact qN
  rw[hb]at h2;cases h2;exact .inr ⟨i0,cap,c,T,fz,h1,rfl,h3⟩
 |ptr =>
  have:=hr.2 rfl;refine⟨by simp[LV.isAgg],fun _=>?_⟩;simp only[aH]at this ⊢;obtain⟨id,h1,h2⟩:=this;rw[hb]at h2;cases h2;exact⟨i0,h1,rfl⟩
theorem zD.ne{b:Nat}{x y:LV}(h:zD H b x y):(x≠.any/\∀m,x≠.aY m):=by
 cases h with
 |dH h=>exact h.ne
 |ref=>exact⟨by simp,by simp⟩
 |ptr=>exact⟨by simp,by simp⟩
theorem aw5{b i0:Nat}(hc:Core W X Z0 μ Z H w)(hb:μ b=some i0){ρ:Operand->LV}:∀(xs:List Operand) (args:List LV),aag H b (xs.map ρ) args->(∀x∈xs,bJ Z μ w (ρ x) (a.eval x)) ->
  il Z (uP i0) w args (xs.map a.eval)
 | [],_,h,_=>by cases h;rfl
 |x::xs,_,h,hr=>by
   cases h with
   |cons h t=>exact⟨_,_,rfl,h.sound hc hb (hr x aE),aw5 hc hb xs _ t (fun y hy=>hr y (by simp[hy]))⟩
theorem Names.mu{b:Nat}{ρ:Operand->LV}:∀(xs:List Operand),Names b (xs.map ρ)->(∀x∈xs,bJ Z μ w (ρ x) (a.eval x))->∃id,μ b=some id
 | [],h,_=>by cases h
 |x::xs,h,hr=>by
   have h1:=hr x aE;generalize hq:ρ x=q at h h1;simp only[nK,hq]at h
   cases h with
   |ref hl =>
    have:=h1.2 rfl;simp only[aH]at this;rcases this with⟨_,h⟩|⟨id,_,_,_,_,_,h2,_⟩
    ·omega
    exact⟨id,h2⟩
   |ptr =>
    have:=h1.2 rfl;simp only[aH]at this;obtain⟨id,_,h2⟩:=this;exact⟨id,h2⟩
   |tl h=>exact Names.mu xs h (fun y hy=>hr y (by simp[hy]))
theorem aNW{f:FuncId}{xs:Array Operand}{as:Array TypeId}{args:List LV}{r:LV}{b:Nat}{blk blk':aV}{dst:Option Tmp}{ty:TypeId}{pos:String}{af:Array Edge}{g:Option (Nat×Bool)}
  {K:Act->World->Prop} {Q:Exit->Act->World->Prop}
  (hc:Core W X Z0 μ Z L.heap w) (hr:∀t,bJ Z μ w (L.slot t) (a.tmps.getD t undef)) (hb:L.heap b=some blk) (hm:blk.mt=true) (hp:aO blk.vals=true)
  (ha:aag L.heap b (xs.toList.map L.ev) args) (hn:Names b (xs.toList.map L.ev)) (hk:pe P f blk args r blk') (r8:blk'.mt=true) (mZ:aO blk'.vals=true)
  (hK:∀v w' Z',Core W X Z0 μ Z' (L.bO b (some blk')).heap w'->(∀t,bJ Z' μ w' (L.slot t) (a.tmps.getD t undef))->bJ Z' μ w' (r.b8 fun _=>b) v->K (a.put dst v) w') :
  (Oper.mk dst (.call ⟨.value (.func f),xs,as⟩) ty pos af g).wp P a w K Q:=by
 obtain⟨i0,rS⟩:=Names.mu (μ:=μ) (Z:=Z) (w:=w) (a:=a) xs.toList hn (fun x _=>n7 (L:=L) hr x);have hargs:=aw5 (a:=a) hc rS xs.toList args ha (fun x _=>n7 (L:=L) hr x);have iA:(execOp a.eval (Oper.mk dst (.call ⟨.value (.func f),xs,as⟩) ty pos af g)).run P w=.ok (.enter f (xs.map a.eval)) w:=by
  have:=ahV (P:=P) (w:=w) (args:=xs.map a.eval) hk.1;simp only[execOp,resolve,Act.eval,Deferred.ofValue,Sem.run_bind,Sem.run_pure,Result.andThen_ok,invoke];simpa using this
 unfold Oper.wp;rw[iA,Oper.upon_enter];obtain⟨ald,g1,g2⟩:=hc.heap b i0 rS;rw[hb]at g1;cases g1;have qj:xd Z (uP i0) w blk i0:=by
  obtain⟨c,T,part,rest,q1,q2,q3⟩:=g2;exact⟨c,T,part,rest,q1,q2,aT.lS (fun _ h=>h) (fun _ _=>rfl) _ _ _ hp q3⟩
 have:=hk.2 w Z (xs.toList.map a.eval) i0 hc.m9 (hc.ku b i0 blk rS hb hm) qj hargs;rw[show (xs.toList.map a.eval).toArray=xs.map a.eval from by apply y6;simp]at this;refine this.mono ?_;rintro e w' ⟨v,fi,Zr,rfl,hrr,hv⟩;obtain⟨Z',h1,h2,h3,h4,h5⟩:=hc.aHI rS hb hm r8 mZ hrr;refine hK v w' Z' h1 (fun t=>(hr t).mono h3 (fun _ _ h=>h) h4) ?_;exact(hv.mono h2 (fun _ _ h=>h) ⟨fun _ _=>rfl,(Frame.refl Zr fi w').m⟩).b8 (fun _=>b) (fun k id h=>by obtain⟨rfl,rfl⟩:=h5 k id h;exact rS)
end
end Go.Lg
namespace Go.Lg
section
variable {P:Program} {W w w':World} {X:XS} {Z0 Z:Nat->Prop} {μ:Nat->Option Nat} {H:cd} {a:Act} {L L':St} {n:Nat}
def nq(μ:Nat->Option Nat)(b:Nat):Nat->Option Nat:=fun c=>if c=b then none else μ c
theorem Core.kill(b:Nat)(gh:b≠0)(hc:Core W X Z0 μ Z L.heap w):Core W X Z0 (nq μ b) Z (L.kill b).heap w:=by
 have hinv:∀c id,nq μ b c=some id->c≠b/\μ c=some id:=fun c id h=>by
  unfold nq at h;split at h
  ·cases h
  exact⟨by assumption,h⟩
 have hH:∀c blk,(L.kill b).heap c=some blk->c≠b->∃bk,L.heap c=some bk/\blk=⟨bk.sz,bC b bk.vals,bk.mt⟩:=fun c blk h aZ=>by
  simp only[St.kill,if_neg aZ,abz]at h;obtain⟨bk,h1,h2⟩:=h;exact⟨bk,h1,h2.symm⟩
 refine⟨hc.cV,hc.m9,hc.kU,hc.nc,?_,?_,?_,hc.pY,fun id h=>by simp only[nq,if_neg (Ne.symm gh)];exact hc.x1 id h,?_,?_,?_⟩
 ·intro c c' id h h';exact hc.inj c c' id (hinv c id h).2 (hinv c' id h').2
 ·intro c id h;exact hc.own c id (hinv c id h).2
 ·intro c id h;exact hc.x0 c id (hinv c id h).2
 ·intro c id blk h g hm;obtain⟨bk,g1,rfl⟩:=hH c blk g (hinv c id h).1;exact hc.ku c id bk (hinv c id h).2 g1 hm
 ·intro c id blk h g hm;obtain⟨bk,g1,rfl⟩:=hH c blk g (hinv c id h).1;exact hc.b9 c id bk (hinv c id h).2 g1 hm
 intro c id h;obtain⟨aZ,h1⟩:=hinv c id h;obtain⟨bk,g1,cc,T,part,rest,g2,g3,g4⟩:=hc.heap c id h1;refine⟨⟨bk.sz,bC b bk.vals,bk.mt⟩,by simp[St.kill,aZ,g1],cc,T,part,rest,g2,g3,?_⟩;exact aT.kill (fun _ h=>h) (fun k id hk h=>by simp[nq,hk,h]) (Frame.refl _ _ _) _ _ g4
theorem agy(b:Nat)(hr:∀t,bJ Z μ w (L.slot t) (a.tmps.getD t undef)):∀t,bJ Z (nq μ b) w ((L.kill b).slot t) (a.tmps.getD t undef):=fun t =>
 bJ.kill (fun _ h=>h) (fun k id hk h=>by simp[nq,hk,h]) (Frame.refl _ _ _) (hr t)
theorem Core.attach{d id:Nat}{blk:aV}{c c':Array Value}{T:TypeId}{part rest:List Value}(hc:Core W X Z0 μ Z H w)(hd:μ d=none)(hm:blk.mt=true)
  (ns:∀k,μ k≠some id) (uI:¬Z id) (cI:W.heap.size<=id\/X.y id) (bU:c'.size=c.size)
  (hcell:w.heap[id]?=some (.cells c T (0,0))) (h1:c'.toList=part++rest) (h2:aT Z μ w blk.sz blk.vals part)
  (hw:w'=w.setRow id c') :
  Core W X Z0 (sQ μ d id) Z (fun k=>if k=d then some blk else H k) w'/\Frame Z μ w w'/\(∀b k,μ b=some k->sQ μ d id b=some k)/\w'.heap[id]?=some (.cells c' T (0,0)):=by
 subst hw;have adV:(w.setRow id c').heap[id]?=some (.cells c' T (0,0)):=setRow_heap w id c c' T (0,0) hcell;have z9:∀k,k≠id->(w.setRow id c').heap[k]?=w.heap[k]?:=fun k hk=>by
  simp only[World.setRow,aAN,if_neg (Ne.symm hk)]
 have ahC:(w.setRow id c').heap.size=w.heap.size:=by simp[World.setRow]
 have eM:Frame Z μ w (w.setRow id c') :=
  ⟨fun k hk=>z9 k (fun e=>uI (e▸hk)),fun b' k hk cc T' fz wx=>⟨cc,(z9 k (fun e=>ns b' (e▸hk))).trans wx,rfl⟩⟩
 have hup:∀b k,μ b=some k->sQ μ d id b=some k:=fun b k h=>by
  unfold sQ;split
  ·subst_vars;rw[hd]at h;cases h
  exact h
 have hinv:∀b k,sQ μ d id b=some k->(b=d/\k=id)\/(b≠d/\μ b=some k):=fun b k h=>by
  unfold sQ at h;split at h
  ·cases h;exact .inl ⟨by assumption,rfl⟩
  exact .inr ⟨by assumption,h⟩
 refine⟨⟨?_,fun k hk=>by rw[ahC];exact hc.m9 k hk,hc.kU,hc.nc,?_,?_,?_,hc.pY,fun k h=>hup 0 k (hc.x1 k h),?_,?_,?_⟩,eM,hup,adV⟩
 ·exact⟨hc.cV.os,hc.cV.tape,hc.cV.output,by rw[ahC];exact hc.cV.size,fun k hk hx=>(z9 k (by
    rintro rfl;rcases cI with h|h
    ·omega
    exact hx (.inr h))).trans (hc.cV.block k hk hx),
   fun k hx c0 T0 w9 h0=>by
    obtain⟨c1,g1,g2⟩:=hc.cV.yl k hx c0 T0 w9 h0;by_cases e:k=id
    ·subst e;rw[hcell]at g1;cases g1;exact⟨c',adV,bU.trans g2⟩
    exact⟨c1,(z9 k e).trans g1,g2⟩⟩
 ·intro b b' k h h';rcases hinv b k h with⟨rfl,rfl⟩|⟨n1,h3⟩<;>rcases hinv b' _ h' with⟨rfl,e⟩|⟨n2,h4⟩
  ·rfl
  ·exact absurd h4 (ns b')
  ·exact absurd (e▸h3) (ns b)
  exact hc.inj b b' k h3 h4
 ·intro b k h;rcases hinv b k h with⟨rfl,rfl⟩|⟨n1,h3⟩
  ·exact cI.imp (fun h=>h) .inr
  exact hc.own b k h3
 ·intro b k h hx;rcases hinv b k h with⟨rfl,rfl⟩|⟨n1,h3⟩
  ·exact absurd (hc.x1 _ hx) (ns 0)
  exact hc.x0 b k h3 hx
 ·intro b k bk h g gX;rcases hinv b k h with⟨rfl,rfl⟩|⟨n1,h3⟩
  ·exact uI
  rw[if_neg n1]at g;exact hc.ku b k bk h3 g gX
 ·intro b k bk h g gX;rcases hinv b k h with⟨rfl,rfl⟩|⟨n1,h3⟩
  ·rw[if_pos rfl]at g;cases g;rw[hm]at gX;cases gX
  rw[if_neg n1]at g;exact hc.b9 b k bk h3 g gX
 intro b k h;rcases hinv b k h with⟨rfl,rfl⟩|⟨n1,h3⟩
 ·exact⟨blk,if_pos rfl,c',T,part,rest,adV,h1,h2.mono (fun _ h=>h) hup eM⟩
 obtain⟨bk,g1,g2⟩:=hc.heap b k h3;exact⟨bk,by rw[if_neg n1];exact g1,g2.mono (fun _ h=>h) hup eM (z9 k (fun e=>ns b (e▸h3)))⟩
theorem amG{U E':TypeId}{y:Operand}{news:List LV}{sz:Nat}(hc:Core W X Z0 μ Z L.heap w)(hr:∀t,bJ Z μ w (L.slot t) (a.tmps.getD t undef))(hU:P.underlying U=some (.slice E'))
  (hy:(∃c off eQ,L.ev y=.ref c sz off news.length/\L.heap c=some eQ/\eQ.sz=sz/\off+news.length<=eQ.vals.length/\news=(eQ.vals.drop off).take news.length) \/
    L.ev y=.list sz news\/(L.ev y=.v (.slice none 0 0)/\news=[])) :
  ∃cells,Src P sz U (a.eval y) news.length cells w/\aT Z μ w sz news cells:=by
 have e1:=n7 (L:=L) hr y;have one:∀(l:List LV) (cs:List Value),aT Z μ w sz l cs->∀u∈cs,u.oneCell'=true:=by
  intro l
  induction l with
  |nil=>intro cs h;simp only[aT]at h;simp[h]
  |cons x xs ih =>
   intro cs h u hu;simp only[aT]at h;obtain⟨c1,c2,rfl,h2,h3,h4⟩:=h;rcases nC.1 hu with hu|hu
   ·exact aH.one _ _ h3 u hu
   exact ih c2 h4 u hu
 rcases hy with⟨cc,off,eQ,h1,h2,h3,h4,h5⟩|h1|⟨h1,rfl⟩
 ·rw[h1]at e1;have e2:=e1.2 rfl;simp only[aH]at e2;rcases e2 with⟨q1,q2⟩|⟨id,cap,c,T,fz,q1,q2,q3,q4,q5⟩
  ·simp only[iF,and_true]at q1;have aiG:=pQ q2;subst aiG;refine⟨[],?_,by simp[aT]⟩;rw[q1];exact Src.ofNil w hU 0
  simp only[iF,and_true]at q1;obtain⟨bk,g1,c',T',part,rest,g2,g3,g4⟩:=hc.heap cc id q2;rw[h2]at g1;cases g1;rw[q4]at g2;cases g2;obtain⟨c1,c2,d1,d2,d3⟩:=aT.split (eQ.vals.take off) (eQ.vals.drop off) part aef;obtain⟨c3,c4,d4,d5,d6⟩:=aT.split ((eQ.vals.drop off).take news.length) ((eQ.vals.drop off).drop news.length) c2 (by rw[ur];exact d3);rw[<-h5,h3]at d5;have lr:=aT.length _ _ d2;rw[fH,nM J,h3]at lr;have abF:=afu (w:=w) (off:=off*sz) (part:=c3) (rest:=c4++rest) q4 (by rw[g3,d1,d4,<-lr];simp);refine⟨c3,?_,d5⟩;rw[q1];exact Src.ofSlice w hU _ _ _ c3 (aT.length _ _ d5) (fun j u hj=>by rw[Addr.add_mid];exact abF j u hj) (one _ _ d5)
 ·rw[h1]at e1;have e2:=e1.2 rfl;simp only[aH]at e2;obtain⟨ad,len,cap,q1,q2,q3,q4,_⟩:=e2;simp only[iF,and_true]at q1;rcases q4 with q4|⟨blk,off,c,T,fz,part,rest,g1,g2,g3,g4,g5⟩
  ·subst q4;simp at q2;subst q2;refine⟨[],?_,rfl⟩;rw[q1]
   cases ad with
   |none=>exact Src.ofNil w hU cap
   |some ad=>exact Src.ofSlice w hU ad 0 cap [] aE aE aE
  subst g1;have abF:=afu (w:=w) (part:=part) (rest:=rest) g3 g4;refine⟨part,?_,g5⟩;rw[q1,q2];exact Src.ofSlice w hU _ _ _ part (aT.length _ _ g5) (fun j u hj=>by rw[Addr.add_mid];exact abF j u hj) (one _ _ g5)
 rw[h1]at e1;have e2:=e1.iO;refine⟨[],?_,rfl⟩;rw[e2];exact Src.ofNil w hU 0
theorem adX{d:Nat}{blk:aV}{H:cd}(hd:H d=none):H.le (fun k=>if k=d then some blk else H k):=fun b bk h=>by
 have:b≠d:=by rintro rfl;rw[hd]at h;cases h
 exact⟨bk.mt,by simp only[if_neg this];exact h,fun h=>h,fun h1 h2=>by rw[h1]at h2;cases h2⟩
theorem alQ{g o:Nat}{T:TypeId}{vs:List Value}{cur:Array Value}(hg:w.heap[g]?=some (.cells cur T (0,0)))(hl:o+vs.length<=cur.size)(h1:∀v∈vs,v.oneCell'=true):
  w.setCells g o vs=w.setRow g (cur.toList.take o++vs++cur.toList.drop (o+vs.length)).toArray:=by
 have a:=run_storeCells_at (default:Program) g o T vs 0 cur w hg (by simpa using hl) h1;have hc:∀j,j<vs.length->(w.cell? ⟨g,o+j,none⟩).isSome=true:=fun j hj=>by
  rw[cell_of_row w g (o+j) cur T (0,0) hg,oX J];rfl
 have hf:∀j,j<vs.length->w.frozen? ⟨g,o+j,none⟩=false:=fun j hj=>by simp[World.frozen?,hg]
 have b:=run_storeCells_cells (P:=(default:Program)) g o vs 0 w (by simpa using hc) (by simpa using hf) h1;rw[b]at a;simp only[nW,Result.ok.injEq,true_and]at a;exact a
theorem aqb{T U E ty:TypeId}{d sz:Nat}{news olds:List LV}{z:LV}{eH:Nat}{oldc fF:List Value}{base:Option Addr}{sLen sCap:Nat}{xv yv:Value}
  (hc:Core W X Z0 μ Z H w) (hd:H d=none) (hT:P.underlying T=some (.slice E)) (hz:dM P E z) (hE:bS P E sz z.isAgg) (fk:z.aq=sz) (lD:ow P E eH)
  (hx:xv=.slice base sLen sCap) (hold:(Builtin.firstCells sz sLen (.slice base sLen sCap)).run P w.drew=.ok oldc.toArray w.drew)
  (hs:Src P sz U yv news.length fF w) (ho:aT Z μ w sz olds oldc) (dK:olds.length=sLen) (hn:aT Z μ w sz news fF)
  (hg:sCap<sLen+news.length) (bU:(sLen+news.length)*eH<=140737488355328) (jl:sLen+news.length<=4611686018427387904) :
  ∃v w' bE Z',(Builtin.append_ #[T,U] ty #[xv,yv]).run P w=.ok v w'/\Core W X Z0 bE Z' (fun k=>if k=d then some ⟨sz,olds++news,true⟩else H k) w' /\
   (∀id,Z id->Z' id)/\(∀b id,μ b=some id->bE b=some id)/\Frame Z μ w w'/\bJ Z' bE w' (.ref d sz 0 (sLen+news.length)) v:=by
 obtain⟨i,zv,z1,z2,z3,z4⟩:=hz;have zP:i.size=sz:=by have:=hE.1;rw[z1]at this;simpa using this
 have hbi:i.bytes=eH:=by obtain⟨i',g1,g2⟩:=lD;rw[z1]at g1;cases g1;exact g2
 have abR:=nextslicecap_le hg;have uO:Builtin.nextslicecap (sLen+news.length) sCap*i.bytes<=281474976710656:=by
  rw[hbi]
  calc Builtin.nextslicecap (sLen+news.length) sCap*eH<=(2*(sLen+news.length))*eH:=jd _ abR
   _=2*((sLen+news.length)*eH):=by rw[iD]
   _<=281474976710656:=by omega
 subst hx;have iA:=run_append_grow_src (P:=P) w T U ty E i zv hT z1 z2 base sLen sCap oldc (by rw[zP];exact hold) yv news.length fF (by rw[zP];exact hs) hg J uO;have aij:μ d=none:=by
  cases hq:μ d with
  |none=>rfl
  |some id=>obtain⟨bk,g,_⟩:=hc.heap d id hq;rw[hd]at g;cases g
 have hcz:zv.cells.size=sz:=by
  have h1:=aH.len (z4 Z μ w) (LV.fJ z3);rw[<-pT,h1,fk]
 have fM:=aT.append _ _ _ _ ho hn;have hlen:=aT.length _ _ fM;obtain⟨Z1,k1,k2⟩:=hc.adk (adX (blk:=⟨sz,olds++news,true⟩) hd);have aEb:vZ w (w.drew.alloc (.cells ((oldc++fF).toArray++Builtin.zeroCells zv.cells (grownCap w (sLen+news.length) sCap E-(sLen+news.length))) E)) _:=⟨rfl,rfl,rfl,rfl⟩;obtain⟨Z2,h1,h2,h3,h4,h5,h6⟩:=k1.push (d:=d) (blk:=⟨sz,olds++news,true⟩) (part:=oldc++fF) (rest:=(Builtin.zeroCells zv.cells (grownCap w (sLen+news.length) sCap E-(sLen+news.length))).toList)
  aE aij aEb aE (fM.mono k2 (fun _ _ h=>h) ⟨fun _ _=>rfl,(Frame.refl Z μ w).m⟩)
 refine⟨_,_,_,Z2,iA,h1,fun id h=>h2 id (k2 id h),h3,⟨fun id h=>h4.z id (k2 id h),h4.m⟩,⟨by simp[LV.isAgg],fun _=>?_⟩⟩;simp only[aH];have mr:=grownCap_ge w (sLen+news.length) sCap E;refine .inr ⟨w.heap.size,_,_,E,(0,0),by simp,h5,mr,h6,?_⟩;rw[anK,acZ,hlen,size_zeroCells,hcz,jx,dK,fZ,<-iV];exact jd _ J
theorem xb(hc:Core W X Z0 μ Z H w){d:Nat}(hd:H d=none):μ d=none:=by
 cases hq:μ d with
 |none=>rfl
 |some id=>obtain⟨bk,g,_⟩:=hc.heap d id hq;rw[hd]at g;cases g
theorem aT.agG{sz b:Nat}(l:List LV)(cs:List Value)(h:aT Z μ w sz l cs):aT Z (nq μ b) w sz (bC b l) cs :=
 aT.kill (fun _ h=>h) (fun k id hk h=>by simp[nq,hk,h]) (Frame.refl _ _ _) _ _ h
theorem ajd(b:Nat):∀l:List LV,(bC b l).length=l.length
 | []=>rfl
 |x::xs=>by simp[bC,ajd b xs]
theorem ahN(b:Nat):∀l m:List LV,bC b (l++m)=bC b l++bC b m
 | [],m=>rfl
 |x::xs,m=>by simp[bC,ahN b xs m]
theorem Core.apJ{H':cd}(hc:Core W X Z0 μ Z H w)(hh:∀b id,μ b=some id->H' b=H b):Core W X Z0 μ Z H' w :=
 ⟨hc.cV,hc.m9,hc.kU,hc.nc,hc.inj,hc.own,hc.x0,hc.pY,hc.x1,fun b id blk h g=>hc.ku b id blk h ((hh b id h).symm.trans g),fun b id blk h g=>hc.b9 b id blk h ((hh b id h).symm.trans g),
  fun b id h=>let ⟨blk,g1,g2⟩:=hc.heap b id h;⟨blk,(hh b id h).trans g1,g2⟩⟩
theorem aFp{T U E E' ty:TypeId}{d b sz len:Nat}{blk:aV}{x y:Operand}{news:List LV}{z:LV}{eH:Nat}(hc:Core W X Z0 μ Z L.heap w)(hr:∀t,bJ Z μ w (L.slot t) (a.tmps.getD t undef))
  (hx:L.ev x=.ref b sz 0 len) (hb:L.heap b=some blk) (hs:blk.sz=sz) (hm:blk.mt=true) (hlen:len<=blk.vals.length) (gY:d=b\/L.heap d=none) (gh:b≠0)
  (hT:P.underlying T=some (.slice E)) (hU:P.underlying U=some (.slice E')) (hz:dM P E z) (hE:bS P E sz z.isAgg) (fk:z.aq=sz) (lD:ow P E eH)
  {fF:List Value} (sn:Src P sz U (a.eval y) news.length fF w) (rQ:aT Z μ w sz news fF)
  (bU:(len+news.length)*eH<=140737488355328) (jl:len+news.length<=4611686018427387904) :
  ∃v w' bE Z',(Builtin.append_ #[T,U] ty #[a.eval x,a.eval y]).run P w=.ok v w' /\
   Core W X Z0 bE Z' ((L.kill b).bO d (some ⟨sz,bC b (blk.vals.take len++news),true⟩)).heap w' /\
   (∀t,bJ Z' bE w' ((L.kill b).slot t) (a.tmps.getD t undef))/\bJ Z' bE w' (.ref d sz 0 (len+news.length)) v:=by
 have e1:=n7 (L:=L) hr x;rw[hx]at e1;have e2:=e1.2 rfl;simp only[aH]at e2;have hkd:(L.kill b).heap d=none:=by
  rcases gY with rfl|h
  ·simp[St.kill]
  simp only[St.kill];split
  ·rfl
  rw[h];rfl
 rcases e2 with⟨q1,rfl⟩|⟨id,cap,c,U',fz,q1,q2,q3,q4,q5⟩
 ·simp only[iF,and_true]at q1;have hk:=hc.kill b gh;have kW:=agy b hr;have gz:(bC b news).length=news.length:=ajd b news
  cases hnw:news with
  |nil =>
   subst hnw;obtain⟨i,zv,z1,z2,z3,z4⟩:=hz;have zP:i.size=sz:=by have:=hE.1;rw[z1]at this;simpa using this
   have anJ:fF=[]:=by simpa[aT]using rQ
   subst anJ;have iA:=run_append_nothing (P:=P) w T U ty E i hT z1 none 0 0 (bF _) (a.eval y) (zP▸sn);refine⟨_,w,nq μ b,Z,by rw[q1];exact iA,?_,kW,⟨by simp[LV.isAgg],fun _=>by simp[aH]⟩⟩;exact hk.apJ fun c id yi=>by
    have:c≠d:=by rintro rfl;rw[xb hk hkd]at yi;cases yi
    simp[St.bO,this]
  |cons x0 xs0 =>
   rw[<-hnw];have nt:0<news.length:=by rw[hnw];simp
   obtain⟨v,w',bE,Z',r1,r2,r3,r4,r5,r6⟩:=aqb (P:=P) (ty:=ty) (U:=U) (olds:=[]) (news:=bC b news) (oldc:=[]) (sLen:=0) (sCap:=0) hk hkd hT hz hE fk lD q1 (by simp[Builtin.firstCells]) (by rw[gz];exact sn)
    (by simp[aT]) rfl (aT.agG _ _ rQ) (by rw[gz];omega) (by rw[gz];exact bU) (by rw[gz];exact jl)
   rw[fD]at r2;rw[gz]at r6;exact⟨v,w',bE,Z',r1,by simpa[St.bO]using r2,fun t=>(kW t).mono r3 r4 r5,r6⟩
 simp only[iF,and_true,afY]at q1;obtain⟨bk,g1,c',T',part,rest,g2,g3,g4⟩:=hc.heap b id q2;rw[hb]at g1;cases g1;rw[q4]at g2;cases g2;simp only[fZ]at q5;obtain⟨p1,p2,d1,d2,d3⟩:=aT.split (blk.vals.take len) (blk.vals.drop len) part aef;rw[hs]at d2;have mj:=aT.length _ _ d2;rw[fH,nM hlen]at mj;have hk:=hc.kill b gh;have kW:=agy b hr;have ns:∀k,nq μ b k≠some id:=fun k h=>by
  unfold nq at h;split at h
  ·cases h
  rename_i aZ;exact aZ (hc.inj k b id h q2)
 have cI:W.heap.size<=id\/X.y id:=by
  rcases hc.own b id q2 with h|h|h
  ·exact qN
  ·exact absurd (hc.x0 b id q2 h) gh
  exact .inr h
 have uI:=hc.ku b id blk q2 hb hm;have mJ:=aT.length _ _ rQ;by_cases aoS:len+news.length<=cap
 ·have uO:len*sz+fF.length<=c.size:=by
   rw[mJ,<-iV];exact aP (jd _ aoS) q5
  have uk:∀j,j<fF.length->(w.cell? ⟨id,0+len*sz+j,none⟩).isSome=true:=fun j hj=>by
   rw[cell_of_row w id _ c _ _ q4,oX J];rfl
  have uU:∀j,j<fF.length->w.frozen? ⟨id,0+len*sz+j,none⟩=false:=fun j hj=>by simp[World.frozen?,q4]
  obtain⟨i,zv,z1,z2,z3,z4⟩:=hz;have zP:i.size=sz:=by have:=hE.1;rw[z1]at this;simpa using this
  have iA:=run_append_room_src (P:=P) w T U ty E i hT z1 id 0 len cap (a.eval y) news.length fF (by rw[zP];exact sn) aoS (by rw[zP];exact uk) (by rw[zP];exact uU);rw[zP,fZ,alQ q4 uO sn.one]at iA;have hold:=(aT.agG (b:=b) _ _ d2);have nS:=(aT.agG (b:=b) _ _ rQ);have fM:=aT.append _ _ _ _ hold nS;rw[<-ahN]at fM;have aEx:c.toList.take (len*sz)++fF++c.toList.drop (len*sz+fF.length)=(p1++fF)++c.toList.drop (len*sz+fF.length):=by
   rw[g3,d1,<-mj];simp
  rw[aEx]at iA;obtain⟨k1,k2,k3,k4⟩:=hk.attach (d:=d) (id:=id) (blk:=⟨sz,bC b (blk.vals.take len++news),true⟩) (c':=((p1++fF)++c.toList.drop (len*sz+fF.length)).toArray)
   (part:=p1++fF) (rest:=c.toList.drop (len*sz+fF.length)) (xb hk hkd) rfl ns uI cI (by
    simp only[acZ,jx,mj,jD,pT];omega) q4 aE fM rfl
  refine⟨_,_,_,Z,by rw[q1];exact iA,k1,fun t=>(kW t).mono (fun _ h=>h) k3 k2,⟨by simp[LV.isAgg],fun _=>?_⟩⟩;simp only[aH];refine .inr ⟨id,cap,_,U',(0,0),by simp,by simp[sQ],aoS,k4,?_⟩;rw[fZ];simp only[acZ,jx,mj,jD,pT];omega
 have hold:(Builtin.firstCells sz len (.slice (some ⟨id,0,none⟩) len cap)).run P w.drew=.ok p1.toArray w.drew:=by
  refine run_firstCells_some w.drew sz len ⟨id,0,none⟩ len cap p1 mj (fun j v hj=>?_);rw[Addr.add_mid];have abF:=afu (w:=w) (off:=0) (part:=p1) (rest:=p2++rest) q4 (by rw[jv,g3,d1];simp);exact abF j v hj
 have gz:(bC b news).length=news.length:=ajd b news;obtain⟨v,w',bE,Z',r1,r2,r3,r4,r5,r6⟩:=aqb (P:=P) (ty:=ty) (U:=U) (olds:=bC b (blk.vals.take len)) (news:=bC b news) hk hkd hT hz hE fk lD q1 hold (by rw[gz];exact sn)
  (aT.agG _ _ d2) (by rw[ajd,fH];omega) (aT.agG _ _ rQ) (by rw[gz];omega) (by rw[gz];exact bU) (by rw[gz];exact jl)
 rw[<-ahN]at r2;rw[gz]at r6;exact⟨v,w',bE,Z',r1,r2,fun t=>(kW t).mono r3 r4 r5,r6⟩
theorem aI9{T U E E' ty:TypeId}{d b sz len:Nat}{blk:aV}{x y:Operand}{news:List LV}{z:LV}{eH:Nat}(hc:Core W X Z0 μ Z L.heap w)(hr:∀t,bJ Z μ w (L.slot t) (a.tmps.getD t undef))
  (hx:L.ev x=.ref b sz 0 len) (hb:L.heap b=some blk) (hs:blk.sz=sz) (hm:blk.mt=true) (hlen:len<=blk.vals.length) (gY:d=b\/L.heap d=none) (gh:b≠0)
  (hT:P.underlying T=some (.slice E)) (hU:P.underlying U=some (.slice E')) (hz:dM P E z) (hE:bS P E sz z.isAgg) (fk:z.aq=sz) (lD:ow P E eH)
  (hy:(∃c off eQ,L.ev y=.ref c sz off news.length/\c≠b/\L.heap c=some eQ/\eQ.sz=sz/\off+news.length<=eQ.vals.length/\news=(eQ.vals.drop off).take news.length/\aO news=true) \/
    L.ev y=.list sz news\/(L.ev y=.v (.slice none 0 0)/\news=[]))
  (bU:(len+news.length)*eH<=140737488355328) (jl:len+news.length<=4611686018427387904) :
  ∃v w' bE Z',(Builtin.append_ #[T,U] ty #[a.eval x,a.eval y]).run P w=.ok v w' /\
   Core W X Z0 bE Z' ((L.kill b).bO d (some ⟨sz,bC b (blk.vals.take len++news),true⟩)).heap w' /\
   (∀t,bJ Z' bE w' ((L.kill b).slot t) (a.tmps.getD t undef))/\bJ Z' bE w' (.ref d sz 0 (len+news.length)) v:=by
 obtain⟨fF,sn,rQ⟩:=amG (P:=P) hc hr hU (y:=y) (news:=news) (sz:=sz) (by
  rcases hy with⟨c,off,b2,q1,_,q3,q4,q5,q6,_⟩|h|h
  ·exact .inl ⟨c,off,b2,q1,q3,q4,q5,q6⟩
  ·exact .inr (.inl h)
  exact .inr (.inr h))
 exact aFp hc hr hx hb hs hm hlen gY gh hT hU hz hE fk lD sn rQ bU jl
theorem aHC{T U E E' ty:TypeId}{d sz:Nat}{x y:Operand}{news:List LV}{z:LV}{eH:Nat}(hc:Core W X Z0 μ Z L.heap w)(hr:∀t,bJ Z μ w (L.slot t) (a.tmps.getD t undef))
  (hx:L.ev x=.v (.slice none 0 0)) (gY:L.heap d=none)
  (hT:P.underlying T=some (.slice E)) (hU:P.underlying U=some (.slice E')) (hz:dM P E z) (hE:bS P E sz z.isAgg) (fk:z.aq=sz) (lD:ow P E eH)
  (hy:(∃c off eQ,L.ev y=.ref c sz off news.length/\L.heap c=some eQ/\eQ.sz=sz/\off+news.length<=eQ.vals.length/\news=(eQ.vals.drop off).take news.length/\aO news=true) \/
    L.ev y=.list sz news)
  (hn:0<news.length) (bU:news.length*eH<=140737488355328) (jl:news.length<=4611686018427387904) :
  ∃v w' bE Z',(Builtin.append_ #[T,U] ty #[a.eval x,a.eval y]).run P w=.ok v w'/\Core W X Z0 bE Z' (L.bO d (some ⟨sz,news,true⟩)).heap w' /\
   (∀t,bJ Z' bE w' (L.slot t) (a.tmps.getD t undef))/\bJ Z' bE w' (.ref d sz 0 news.length) v:=by
 obtain⟨fF,sn,rQ⟩:=amG (P:=P) hc hr hU (y:=y) (news:=news) (sz:=sz) (by
  rcases hy with⟨c,off,b2,q1,q3,q4,q5,q6,_⟩|h
  ·exact .inl ⟨c,off,b2,q1,q3,q4,q5,q6⟩
  exact .inr (.inl h))
 have e1:=n7 (L:=L) hr x;rw[hx]at e1;have e2:=e1.iO;obtain⟨v,w',bE,Z',r1,r2,r3,r4,r5,r6⟩:=aqb (P:=P) (ty:=ty) (U:=U) (olds:=[]) (news:=news) (oldc:=[]) (sLen:=0) hc gY hT hz hE fk lD e2 (by simp[Builtin.firstCells]) sn
  (by simp[aT]) rfl rQ J (by rw[fZ];exact bU) (by rw[fZ];exact jl)
 rw[fZ]at r6;rw[fD]at r2;exact⟨v,w',bE,Z',r1,r2,fun t=>(hr t).mono r3 r4 r5,r6⟩
end
end Go.Lg
namespace Go.Lg
def eg(ops:Array Oper)(L:St)(o:Oper)(res:Bool):Prop :=
 match o.guard with
 |none=>res=true
 |some (j,want)=>∃d,(ops[j]?).bind (·.dst)=some d/\((∃b,L.slot d=.v (.bool b)/\res=(b==want))\/(L.slot d=.aY []/\res=false))
inductive Step (P:Program) (dr:Bool) (ops:Array Oper) (o:Oper) (L L':St):Prop
 |skip (hg:eg ops L o false) (h:L'=L.put o.dst (.aY []))
 |val {r fr H1} (hg:eg ops L o true) (hle:L.heap.le H1) (eM:∀b blk,(b,blk)∈fr->L.heap b=none/\∃m,H1 b=some ⟨blk.sz,blk.vals,m⟩/\(blk.mt=false->m=false))
   (ho:nB P H1 L.ev (o.dst.getD 0) o.op r fr) (h:L'=⟨(L.put o.dst r).slot,H1⟩)
 |st (hg:eg ops L o true) (ho:iI P L o.dst o.op L')
 |stM (ir:dr=false) (hg:eg ops L o true) (ho:OpM P L o.dst o.op L')
def opsL(P:Program)(dr:Bool)(ops:Array Oper):List Oper->St->(St->Prop)->Prop
 | [],L,K=>K L
 |o::r,L,K=>∃L',Step P dr ops o L L'/\opsL P dr ops r L' K
section
variable {P:Program} {W w w':World} {X:XS} {Z0 Z:Nat->Prop} {μ:Nat->Option Nat} {H:cd} {a:Act} {L L':St} {n:Nat} {dr:Bool} {ops:Array Oper}
theorem ael{o:Oper}{res:Bool}{L:St}(hr:∀t,bJ Z μ w (L.slot t) (a.tmps.getD t undef))(hg:eg ops L o res):Region.wanted o (yielded ops a.tmps)=res:=by
 unfold eg at hg;unfold Region.wanted;split at hg
 ·rename_i h;rw[h];exact hg.symm
 rename_i j want h;rw[h];obtain⟨d,h1,⟨b,h2,rfl⟩|⟨h2,rfl⟩⟩:=hg
 case inr =>
  have h3:=hr d;rw[h2]at h3;obtain⟨vs,h4,h5⟩:=h3;have h5:vs=#[]:=by cases vs with|mk l=>exact congrArg Array.mk h5
  subst h5;have h6:((ops[j]?).bind (·.dst)).bind (fun t=>a.tmps[t]?)=a.tmps[d]?:=by rw[h1];rfl
  rw[dQ]at h4;simp only[yielded,h6]
  cases hq:a.tmps[d]? with
  |none=>rfl
  |some u=>rw[hq]at h4;simp only[acE]at h4;subst h4;rfl
 have h3:=hr d;rw[h2]at h3;have h4:=h3.iO;have h5:a.tmps[d]?=some (.bool b):=by
  rw[dQ]at h4
  cases hq:a.tmps[d]? with
  |none=>rw[hq]at h4;simp[undef]at h4
  |some u=>rw[hq]at h4;simpa using h4
 have h6:((ops[j]?).bind (·.dst)).bind (fun t=>a.tmps[t]?)=some (.bool b):=by rw[h1];simpa using h5
 simp only[yielded,h6]
 cases b<;>cases want<;>rfl
theorem axF{P:Program}{ops:Array Oper}{dr:Bool}{K K':St->Prop}(hk:∀L,K L->K' L):∀(l:List Oper) (L:St),opsL P dr ops l L K->opsL P dr ops l L K'
 | [],L,h=>hk L h
 |o::r,L,⟨L',h1,h2⟩=>⟨L',h1,axF hk r L' h2⟩
theorem aNo{T E ty:TypeId}{x:Operand}{b sz off n:Nat}{blk:aV}{z:LV}(hc:Core W X Z0 μ Z L.heap w)(hr:∀t,bJ Z μ w (L.slot t) (a.tmps.getD t undef))
  (hx:L.ev x=.ref b sz off n) (hb:L.heap b=some blk) (hs:blk.sz=sz) (hm:blk.mt=true) (hl:off+n<=blk.vals.length) (hT:P.underlying T=some (.slice E)) (hz:dM P E z) (fk:z.aq=sz) :
  ∃w',(Builtin.clear_ #[T] ty #[a.eval x]).run P w=.ok (.tuple #[]) w' /\
   Core W X Z0 μ Z (L.bO b (some ⟨sz,blk.vals.take off++av n z++blk.vals.drop (off+n),true⟩)).heap w'/\Frame Z μ w w':=by
 have e1:=n7 (L:=L) hr x;rw[hx]at e1;have e2:=e1.2 rfl;simp only[aH]at e2;have aer:n=0->(L.bO b (some ⟨sz,blk.vals.take off++av n z++blk.vals.drop (off+n),true⟩)).heap=L.heap:=by
  rintro rfl;funext c;show (if c=b then _ else L.heap c)=_;split
  ·rename_i e;subst e;rw[hb];obtain⟨s,v,m⟩:=blk;simp only at hs hm ⊢;subst hs;subst hm;simp
  rfl
 rcases e2 with⟨q1,rfl⟩|⟨id,cap,c,U',fz,q1,q2,q3,q4,q5⟩
 ·simp only[iF,and_true]at q1;rw[aer rfl];exact⟨w,by rw[q1];simp[Builtin.clear_,run_underlying hT],hc,Frame.refl _ _ _⟩
 simp only[iF,and_true]at q1
 cases n with
 |zero =>
  rw[aer rfl];exact⟨w,by rw[q1];simp[Builtin.clear_,run_underlying hT],hc,Frame.refl _ _ _⟩
 |succ n =>
  obtain⟨bk,g1,c',T',part,rest,g2,g3,g4⟩:=hc.heap b id q2;rw[hb]at g1;cases g1;rw[q4]at g2;cases g2;rw[hs]at g4;obtain⟨i,zv,z1,z2,z3,z4⟩:=hz;have hzv:(zeroValue E).run P w=.ok zv w:=by simp[zeroValue,typeInfo,z1,z2]
  have aZ:=LV.fJ z3;have p9:=aH.len (z4 Z μ w) aZ;rw[fk]at p9;have rQ:=aT.replicate (z4 Z μ w) p9 (n+1);have mJ:=aT.length _ _ rQ;rw[List.length_replicate]at mJ;have aoz:blk.vals=blk.vals.take off++((blk.vals.drop off).take (n+1)++blk.vals.drop (off+(n+1))):=by
   rw[<-rZ,ur,ur]
  rw[aoz]at g4;obtain⟨p1,p2,d1,d2,d3⟩:=aT.split _ _ part g4;obtain⟨p3,p4,d4,d5,d6⟩:=aT.split _ _ p2 d3;have l1:=aT.length _ _ d2;have l2:=aT.length _ _ d5;rw[fH,nM J]at l1;rw[fH,jD,nM J]at l2;have hlen:c.toList.length=p1.length+(p3.length+p4.length)+rest.length:=by rw[g3,d1,d4];simp;omega
  have uO:off*sz+((av (n+1) zv.cells.toList).flatten).length<=c.size:=by
   rw[<-pT,hlen,mJ,l1,l2];omega
  have fM:=aT.append _ _ _ _ (aT.append _ _ _ _ d2 rQ) d6;have aaN:∀v∈(av (n+1) zv.cells.toList).flatten,v.oneCell'=true:=fun v hv=>by
   simp only[List.mem_flatten]at hv;obtain⟨l,lr,oK⟩:=hv;rw[List.eq_of_mem_replicate lr]at oK;exact aH.one _ _ (z4 Z μ w) v oK
  have hcell:∀j,j<((av (n+1) zv.cells.toList).flatten).length->(w.cell? ⟨id,off*sz+j,none⟩).isSome=true:=fun j hj=>by
   rw[cell_of_row w id _ c _ _ q4,oX J];rfl
  have agt:∀j,j<((av (n+1) zv.cells.toList).flatten).length->w.frozen? ⟨id,off*sz+j,none⟩=false:=fun j hj=>by simp[World.frozen?,q4]
  have ef:=run_storeCells_cells (P:=P) id (off*sz) ((av (n+1) zv.cells.toList).flatten) 0 w (by simpa using hcell) (by simpa using agt) aaN;simp only[nW]at ef;rw[alQ q4 uO aaN]at ef;have nS:c.toList.take (off*sz)++(av (n+1) zv.cells.toList).flatten++c.toList.drop (off*sz+((av (n+1) zv.cells.toList).flatten).length)=(p1++(av (n+1) zv.cells.toList).flatten++p4)++rest:=by
   rw[g3,d1,d4,mJ,<-l1,<-l2];have e:(p1++(p3++p4))++rest=p1++(p3++(p4++rest)):=aE;rw[e,ajE,<-rZ,acB,acB];simp
  rw[nS]at ef;obtain⟨k1,k2⟩:=Core.rewrite (blk':=⟨sz,blk.vals.take off++av (n+1) z++blk.vals.drop (off+(n+1)),true⟩)
   (c':=((p1++(av (n+1) zv.cells.toList).flatten++p4)++rest).toArray) (part:=p1++(av (n+1) zv.cells.toList).flatten++p4) (rest:=rest) hc q2 hb hm rfl q4
   (by rw[<-pT (xs:=c),hlen];simp only[acZ,jx,mJ,l2];omega) aE fM rfl
  refine⟨_,?_,k1,k2⟩;rw[q1];simp only[Builtin.clear_,ajw,o8,Sem.run_bind,Sem.run_pure,run_underlying hT,Result.andThen_ok,hzv,ayB,ef]
theorem aJU{T U E E' ty:TypeId}{x y:Operand}{b sz off:Nat}{blk:aV}{news:List LV}{ag:Bool}(hc:Core W X Z0 μ Z L.heap w)(hr:∀t,bJ Z μ w (L.slot t) (a.tmps.getD t undef))
  (hx:L.ev x=.ref b sz off news.length) (hb:L.heap b=some blk) (hs:blk.sz=sz) (hm:blk.mt=true) (hl:off+news.length<=blk.vals.length) (hT:P.underlying T=some (.slice E)) (hU:P.underlying U=some (.slice E')) (hE:bS P E sz ag)
  (hy:(∃c off2 eQ,L.ev y=.ref c sz off2 news.length/\L.heap c=some eQ/\eQ.sz=sz/\off2+news.length<=eQ.vals.length/\news=(eQ.vals.drop off2).take news.length)\/L.ev y=.list sz news) :
  ∃v w',(Builtin.copy_ #[T,U] ty #[a.eval x,a.eval y]).run P w=.ok v w' /\
   Core W X Z0 μ Z (L.bO b (some ⟨sz,blk.vals.take off++news++blk.vals.drop (off+news.length),true⟩)).heap w'/\Frame Z μ w w':=by
 obtain⟨fF,sn,rQ⟩:=amG (P:=P) hc hr hU (y:=y) (news:=news) (sz:=sz) (by
  rcases hy with h|h
  ·exact qN
  exact .inr (.inl h))
 have e1:=n7 (L:=L) hr x;rw[hx]at e1;have e2:=e1.2 rfl;simp only[aH]at e2;have aJf:aiZ news.length news.length=news.length:=aw3 _;have mJ:=aT.length _ _ rQ;have aer:news=[]->(L.bO b (some ⟨sz,blk.vals.take off++news++blk.vals.drop (off+news.length),true⟩)).heap=L.heap:=by
  rintro rfl;funext c;show (if c=b then _ else L.heap c)=_;split
  ·rename_i e;subst e;rw[hb];obtain⟨s,v,m⟩:=blk;simp only at hs hm ⊢;subst hs;subst hm;simp
  rfl
 rcases e2 with⟨q1,q0⟩|⟨id,cap,c,U',fz,q1,q2,q3,q4,q5⟩
 ·simp only[iF,and_true]at q1;have aiG:=pQ q0;rw[aer aiG];refine⟨goInt ((0:Nat):Int),w,?_,hc,Frame.refl _ _ _⟩;rw[q1];simp only[Builtin.copy_,ajw,o8,adO,Sem.run_bind,Sem.run_pure,run_underlying hT,Result.andThen_ok,sn.len,run_sizeOf hE,q0,aw3,show aiZ 0 0=0 from rfl];have ju:=sn.cells;rw[q0]at ju;simp only[ju,Result.andThen_ok,Sem.run_pure]
 simp only[iF,and_true]at q1;obtain⟨bk,g1,c',T',part,rest,g2,g3,g4⟩:=hc.heap b id q2;rw[hb]at g1;cases g1;rw[q4]at g2;cases g2;rw[hs]at g4;have aoz:blk.vals=blk.vals.take off++((blk.vals.drop off).take news.length++blk.vals.drop (off+news.length)):=by
  rw[<-rZ,ur,ur]
 rw[aoz]at g4;obtain⟨p1,p2,d1,d2,d3⟩:=aT.split _ _ part g4;obtain⟨p3,p4,d4,d5,d6⟩:=aT.split _ _ p2 d3;have l1:=aT.length _ _ d2;have l2:=aT.length _ _ d5;rw[fH,nM J]at l1;rw[fH,jD,nM J]at l2;have hlen:c.toList.length=p1.length+(p3.length+p4.length)+rest.length:=by rw[g3,d1,d4];simp;omega
 have uO:off*sz+fF.length<=c.size:=by
  rw[<-pT,hlen,mJ,l1,l2];omega
 have fM:=aT.append _ _ _ _ (aT.append _ _ _ _ d2 rQ) d6;have aaN:∀v∈fF,v.oneCell'=true:=sn.one;have hcell:∀j,j<fF.length->(w.cell? ⟨id,off*sz+j,none⟩).isSome=true:=fun j hj=>by
  rw[cell_of_row w id _ c _ _ q4,oX J];rfl
 have agt:∀j,j<fF.length->w.frozen? ⟨id,off*sz+j,none⟩=false:=fun j hj=>by simp[World.frozen?,q4]
 have ef:=run_storeCells_cells (P:=P) id (off*sz) fF 0 w (by simpa using hcell) (by simpa using agt) aaN;simp only[nW]at ef;rw[alQ q4 uO aaN]at ef;have nS:c.toList.take (off*sz)++fF++c.toList.drop (off*sz+fF.length)=(p1++fF++p4)++rest:=by
  rw[g3,d1,d4,mJ,<-l1,<-l2];have e:(p1++(p3++p4))++rest=p1++(p3++(p4++rest)):=aE;rw[e,ajE,<-rZ,acB,acB];simp
 rw[nS]at ef;obtain⟨k1,k2⟩:=Core.rewrite (blk':=⟨sz,blk.vals.take off++news++blk.vals.drop (off+news.length),true⟩)
  (c':=((p1++fF++p4)++rest).toArray) (part:=p1++fF++p4) (rest:=rest) hc q2 hb hm rfl q4
  (by rw[<-pT (xs:=c),hlen];simp only[acZ,jx,mJ,l2];omega) aE fM rfl
 refine⟨goInt news.length,_,?_,k1,k2⟩;rw[q1];have ju:=sn.cells;simp only[Builtin.copy_,ajw,o8,adO,Sem.run_bind,Sem.run_pure,run_underlying hT,Result.andThen_ok,sn.len,run_sizeOf hE,aJf,ju,ef]
theorem aPG{T U E E' ty:TypeId}{x y:Operand}{b c sz off off2 n1 n2:Nat}{blk eQ:aV}{news:List LV}{ag:Bool}(hc:Core W X Z0 μ Z L.heap w)(hr:∀t,bJ Z μ w (L.slot t) (a.tmps.getD t undef))
  (hx:L.ev x=.ref b sz off n1) (hb:L.heap b=some blk) (hs:blk.sz=sz) (hm:blk.mt=true) (hl:off<=blk.vals.length) (hT:P.underlying T=some (.slice E)) (hU:P.underlying U=some (.slice E')) (hE:bS P E sz ag)
  (hy:L.ev y=.ref c sz off2 n2) (nz:L.heap c=some eQ) (yE:eQ.sz=sz) (hn:news.length=aiZ n2 n1) (h0:0<news.length) (oK:off2+news.length<=eQ.vals.length) (aNe:news=(eQ.vals.drop off2).take news.length) :
  ∃v w',(Builtin.copy_ #[T,U] ty #[a.eval x,a.eval y]).run P w=.ok v w' /\
   Core W X Z0 μ Z (L.bO b (some ⟨sz,blk.vals.take off++news++blk.vals.drop (off+news.length),true⟩)).heap w'/\Frame Z μ w w':=by
 have iX:news.length<=n1:=by rw[hn];exact Nat.min_le_right _ _
 have fC:news.length<=n2:=by rw[hn];exact Nat.min_le_left _ _
 have e1:=n7 (L:=L) hr x;rw[hx]at e1;have e2:=e1.2 rfl;simp only[aH]at e2;have f1:=n7 (L:=L) hr y;rw[hy]at f1;have f2:=f1.2 rfl;simp only[aH]at f2;rcases e2 with⟨q1,q0⟩|⟨id,cap,cc,U',fz,q1,q2,q3,q4,q5⟩
 ·omega
 rcases f2 with⟨p1,p0⟩|⟨id2,ahf,cc2,U2,fz2,p1,p2,p3,p4,p5⟩
 ·omega
 simp only[iF,and_true]at q1 p1;have one:∀(l:List LV) (cs:List Value),aT Z μ w sz l cs->∀u∈cs,u.oneCell'=true:=by
  intro l
  induction l with
  |nil=>intro cs h;simp only[aT]at h;simp[h]
  |cons x xs ih =>
   intro cs h u hu;simp only[aT]at h;obtain⟨c1,c2,rfl,h2,h3,h4⟩:=h;rcases nC.1 hu with hu|hu
   ·exact aH.one _ _ h3 u hu
   exact ih c2 h4 u hu
 obtain⟨bk,g1,c',T',part,rest,g2,g3,g4⟩:=hc.heap c id2 p2;rw[nz]at g1;cases g1;rw[p4]at g2;cases g2;obtain⟨c1,c2,d1,d2,d3⟩:=aT.split (eQ.vals.take off2) (eQ.vals.drop off2) part aef;obtain⟨fF,c4,d4,d5,d6⟩:=aT.split ((eQ.vals.drop off2).take news.length) ((eQ.vals.drop off2).drop news.length) c2 (by rw[ur];exact d3);rw[<-aNe,yE]at d5;have lr:=aT.length _ _ d2;rw[fH,nM J,yE]at lr;have mJ:=aT.length _ _ d5;have abF:=afu (w:=w) (off:=off2*sz) (part:=fF) (rest:=c4++rest) p4 (by rw[g3,d1,d4,<-lr];simp);have sn:Src P sz U (.slice (some ⟨id2,off2*sz,none⟩) news.length ahf) news.length fF w:=Src.ofSlice w hU _ _ _ fF mJ (fun j u hj=>by rw[Addr.add_mid];exact abF j u hj) (one _ _ d5);have ju:(Builtin.firstCells sz news.length (.slice (some ⟨id2,off2*sz,none⟩) n2 ahf)).run P w=.ok fF.toArray w:=sn.cells;have aaN:∀v∈fF,v.oneCell'=true:=sn.one;obtain⟨bk,g1,ct,T',part,rest,g2,g3,g4⟩:=hc.heap b id q2;rw[hb]at g1;cases g1;rw[q4]at g2;cases g2;rw[hs]at g4;obtain⟨yZ,wy,r1,r2,r3⟩:=aT.split (blk.vals.take off) (blk.vals.drop off) part aef;have l1:=aT.length _ _ r2;rw[fH,nM hl]at l1;have l2:=aT.length _ _ r3;rw[jD]at l2;have uO:off*sz+fF.length<=cc.size:=by
  rw[mJ,<-iV];exact aP (jd _ J) q5
 have aNF:aT Z μ w sz (blk.vals.drop (off+news.length)) (wy.drop fF.length):=by
  rcases g7 (off+news.length) blk.vals.length with h|h
  ·obtain⟨p3,p4,t1,t2,t3⟩:=aT.split ((blk.vals.drop off).take news.length) ((blk.vals.drop off).drop news.length) wy (by rw[ur];exact r3);have l3:=aT.length _ _ t2;rw[fH,jD,nM J,<-mJ]at l3;rw[t1,<-l3,acB,<-rZ];exact t3
  rw[mE h,mE (by rw[l2,mJ];exact jd _ J)];simp[aT]
 have fM:=aT.append _ _ _ _ (aT.append _ _ _ _ r2 d5) aNF;have hcell:∀j,j<fF.length->(w.cell? ⟨id,off*sz+j,none⟩).isSome=true:=fun j hj=>by
  rw[cell_of_row w id _ cc _ _ q4,oX J];rfl
 have agt:∀j,j<fF.length->w.frozen? ⟨id,off*sz+j,none⟩=false:=fun j hj=>by simp[World.frozen?,q4]
 have ef:=run_storeCells_cells (P:=P) id (off*sz) fF 0 w (by simpa using hcell) (by simpa using agt) aaN;simp only[nW]at ef;rw[alQ q4 uO aaN]at ef;have hlen:cc.size=yZ.length+wy.length+rest.length:=by rw[<-pT,g3,r1];simp;omega
 have nS:cc.toList.take (off*sz)++fF++cc.toList.drop (off*sz+fF.length)=(yZ++fF++wy.drop fF.length)++rest.drop (fF.length-wy.length):=by
  rw[g3,r1,<-l1];have e:(yZ++wy)++rest=yZ++(wy++rest):=aE;rw[e,ajE,<-rZ,acB,List.drop_append];simp
 rw[nS]at ef;obtain⟨k1,k2⟩:=Core.rewrite (blk':=⟨sz,blk.vals.take off++news++blk.vals.drop (off+news.length),true⟩)
  (c':=((yZ++fF++wy.drop fF.length)++rest.drop (fF.length-wy.length)).toArray) (part:=yZ++fF++wy.drop fF.length) (rest:=rest.drop (fF.length-wy.length)) hc q2 hb hm rfl q4
  (by
   simp only[acZ,jx,jD];omega) aE fM rfl
 refine⟨goInt news.length,_,?_,k1,k2⟩;rw[q1,p1];simp only[Builtin.copy_,ajw,o8,adO,Sem.run_bind,Sem.run_pure,run_underlying hT,Result.andThen_ok,Builtin.lenOf,run_sizeOf hE,<-hn,ju,ef]
theorem aLz{P:Program}{w:World}(T U E ty:TypeId)(k kl:IntKind)(i:TypeInfo)(z:Value)(ht:P.underlying T=some (.slice E))(hu:P.underlying U=some (.int k))(hi:P.info? E=some i)(hz:i.zero=some z)(n:Nat)
  (base:Option Addr) (sLen sCap:Nat) (olds:List Value) (hold:(Builtin.firstCells i.size sLen (.slice base sLen sCap)).run P w.drew=.ok olds.toArray w.drew) (hg:sCap<sLen+n)
  (h0:0<n) (fb:0<i.size) (jl:sLen+n<=4611686018427387904) (lD:(sLen+n)*i.bytes<=140737488355328) (uO:Builtin.nextslicecap (sLen+n) sCap*i.bytes<=281474976710656) :
  (Builtin.append_ #[T,U] ty #[.slice base sLen sCap,.int kl (n:Int)]).run P w =
   .ok (.slice (some ⟨w.heap.size,0,none⟩) (sLen+n) (grownCap w (sLen+n) sCap E))
    (w.drew.alloc (.cells (olds.toArray++Builtin.zeroCells z.cells n++Builtin.zeroCells z.cells (grownCap w (sLen+n) sCap E-(sLen+n))) E)):=by
 have hn:¬(sLen+n<=sCap):=J;have jJ:¬n=0:=J;have hw:IntKind.i64.wrap (n:Int)=(n:Int):=by simp[IntKind.wrap,show IntKind.i64.bits=64 from rfl];omega
 have h1:¬((n:Int)<0):=J;have h2:¬(281474976710656<(n:Int)*(i.bytes:Int)):=by
  have h4:n*i.bytes<=(sLen+n)*i.bytes:=jd _ J;have h5:((n*i.bytes:Nat):Int)<=140737488355328:=J;rw[Int.natCast_mul]at h5;omega
 have aHa:¬(9223372036854775807<((sLen:Int)+(n:Int))):=J;have aJq:¬(281474976710656<Builtin.nextslicecap (sLen+n) sCap*i.bytes):=J;have bU:¬(i.size=0):=J;have hns:¬(n*i.size=0):=Nat.mul_ne_zero jJ bU;simp[Builtin.append_,run_underlying ht,run_underlying hu,sizeOf,typeInfo,zeroValue,hi,hz,hn,jJ,hw,h1,h2,aHa,aJq,asInt,asIntOf,Question.forced,hold,bU,newRow,grownCap];intro h;rcases asm.1 h with h|h<;>omega
theorem aD8{T U E ty:TypeId}{d b sz n len cp:Nat}{x y:Operand}{z:LV}{eH:Nat}{k kl:IntKind}{blk:aV}(hc:Core W X Z0 μ Z L.heap w)(hr:∀t,bJ Z μ w (L.slot t) (a.tmps.getD t undef))
  (hT:P.underlying T=some (.slice E)) (hU:P.underlying U=some (.int k)) (hz:dM P E z) (hE:bS P E sz z.isAgg) (fk:z.aq=sz) (hb:ow P E eH)
  (hx:L.ev x=.lj b sz 0 len cp) (mn:L.heap b=some blk) (hs:blk.sz=sz) (hlen:len<=blk.vals.length) (hy:L.ev y=.v (.int kl (n:Nat))) (gY:L.heap d=none) (hg:cp<len+n) (fb:0<sz)
  (hm:(len+n)*eH<=140737488355328) (jl:len+n<=4611686018427387904) :
  ∃v w' bE Z',(Builtin.append_ #[T,U] ty #[a.eval x,a.eval y]).run P w=.ok v w'/\Core W X Z0 bE Z' (L.bO d (some ⟨sz,blk.vals.take len++av n z,true⟩)).heap w' /\
   (∀t,bJ Z' bE w' (L.slot t) (a.tmps.getD t undef))/\bJ Z' bE w' (.ref d sz 0 (len+n)) v:=by
 obtain⟨i,zv,z1,z2,z3,z4⟩:=hz;have e1:=n7 (L:=L) hr x;rw[hx]at e1;have e3:=e1.2 rfl;simp only[aH]at e3;obtain⟨id,cc,Ti,fz,q1,q2,q3,q4,q5⟩:=e3;simp only[iF,and_true]at q1;have e2:=n7 (L:=L) hr y;rw[hy]at e2;have e2:=e2.iO;have aZ:=LV.fJ z3;have zP:i.size=sz:=by have:=hE.1;rw[z1]at this;simpa using this
 have hbi:i.bytes=eH:=by obtain⟨i',g1,g2⟩:=hb;rw[z1]at g1;cases g1;exact g2
 have p9:=aH.len (z4 Z μ w) aZ;have hcz:zv.cells.size=sz:=by rw[<-pT,p9,fk]
 have abR:=nextslicecap_le hg;have uO:Builtin.nextslicecap (len+n) cp*i.bytes<=281474976710656:=by
  rw[hbi]
  calc Builtin.nextslicecap (len+n) cp*eH<=(2*(len+n))*eH:=jd _ abR
   _=2*((len+n)*eH):=by rw[iD]
   _<=281474976710656:=by omega
 obtain⟨bk,g1,c',T',part,rest,g2,g3,g4⟩:=hc.heap b id q2;rw[mn]at g1;cases g1;rw[q4]at g2;cases g2;rw[hs]at g4;obtain⟨oldc,c2,d1,d2,d3⟩:=aT.split (blk.vals.take len) (blk.vals.drop len) part aef;have lr:=aT.length _ _ d2;rw[fH,nM hlen]at lr;have abF:=afu (w:=w) (off:=0*sz) (part:=oldc) (rest:=c2++rest) q4 (by rw[g3,d1];simp);have hold:(Builtin.firstCells i.size len (.slice (some ⟨id,0*sz,none⟩) len cp)).run P w.drew=.ok oldc.toArray w.drew:=by
  rw[zP];exact run_firstCells_some w.drew sz len _ len cp oldc lr (fun j u hj=>by rw[Addr.add_mid];simpa using abF j u hj)
 have iA:=aLz (P:=P) (w:=w) T U E ty k kl i zv hT hU z1 z2 n (some ⟨id,0*sz,none⟩) len cp oldc hold hg J J jl (by rw[hbi];exact hm) uO;have aij:=xb hc gY;obtain⟨Z1,k1,k2⟩:=hc.adk (adX (blk:=⟨sz,blk.vals.take len++av n z,true⟩) gY);have fM:=aT.append _ _ _ _ (d2.mono k2 (fun _ _ h=>h) ⟨fun _ _=>rfl,(Frame.refl Z μ w).m⟩) (aT.replicate (sz:=sz) (z4 Z1 μ w) (by rw[p9,fk]) n);obtain⟨Z2,h1,h2,h3,h4,h5,h6⟩:=k1.push (d:=d) (blk:=⟨sz,blk.vals.take len++av n z,true⟩) (part:=oldc++(av n zv.cells.toList).flatten) (rest:=(Builtin.zeroCells zv.cells (grownCap w (len+n) cp E-(len+n))).toList) aE aij
  (⟨rfl,rfl,rfl,rfl⟩:vZ w (w.drew.alloc (.cells (oldc.toArray++Builtin.zeroCells zv.cells n++Builtin.zeroCells zv.cells (grownCap w (len+n) cp E-(len+n))) E)) _) (by rw[avl,avl,ayB]) fM
 have eM:Frame Z μ w (w.drew.alloc (.cells (oldc.toArray++Builtin.zeroCells zv.cells n++Builtin.zeroCells zv.cells (grownCap w (len+n) cp E-(len+n))) E)):=⟨fun id h=>h4.z id (k2 id h),h4.m⟩;refine⟨_,_,_,Z2,by rw[q1,e2];exact iA,h1,fun t=>(hr t).mono (fun id h=>h2 id (k2 id h)) h3 eM,⟨by simp[LV.isAgg],fun _=>?_⟩⟩;simp only[aH];have mr:=grownCap_ge w (len+n) cp E;refine .inr ⟨w.heap.size,_,_,E,(0,0),by simp,h5,mr,h6,?_⟩;rw[anK,anK,size_zeroCells,size_zeroCells,hcz,acZ,lr,fZ,<-iV,<-iV];exact jd _ J
theorem aIQ{f:FuncId}{x y:Operand}{Tx Ty:TypeId}{fn:Func}{b c sz o1 n1 o2 n2:Nat}{ag:Bool}{tS tR e:TypeId}{dst:Option Tmp}{ty:TypeId}{pos:String}{af:Array Edge}{g:Option (Nat×Bool)}(hc:Core W X Z0 μ Z L.heap w)(hr:∀t,bJ Z μ w (L.slot t) (a.tmps.getD t undef))
  (hf:P.funcs[f]?=some fn) (ta:(fn.name== "runtime.NumGoroutine")=false) (hb:fn.body.isNone=true) (hn:Extern.findNext fn=none) (he:Extern.find fn=some (Extern.SlicesOverlaps.overlaps #[tS,tS] #[tR]))
  (ht:P.underlying tS=some (.slice e)) (hE:bS P e sz ag) (hx:L.ev x=.ref b sz o1 n1) (hy:L.ev y=.ref c sz o2 n2) (yb:b≠c) (h1:0<n1) (h2:0<n2) (fb:0<sz) :
  (execOp a.eval ⟨dst,.call ⟨.value (.func f),#[x,y],#[Tx,Ty]⟩,ty,pos,af,g⟩).run P w=.ok (.value (.bool false)) w:=by
 have e1:=n7 (L:=L) hr x;rw[hx]at e1;have e2:=e1.2 rfl;simp only[aH]at e2;have f1:=n7 (L:=L) hr y;rw[hy]at f1;have f2:=f1.2 rfl;simp only[aH]at f2;rcases e2 with⟨q1,q0⟩|⟨id,cap,cc,U',fz,q1,q2,q3,q4,q5⟩
 ·omega
 rcases f2 with⟨p1,p0⟩|⟨id2,ahf,cc2,U2,fz2,p1,p2,p3,p4,p5⟩
 ·omega
 simp only[iF,and_true]at q1 p1;have aKf:id≠id2:=fun h=>yb (hc.inj _ _ _ q2 (h▸p2));obtain⟨bk,g1,c',T',part,rest,g2,g3,g4⟩:=hc.heap b id q2;rw[q4]at g2;cases g2;have hv:(Extern.SlicesOverlaps.overlaps #[tS,tS] #[tR] #[a.eval x,a.eval y]).run P w=.ok (.bool false) w:=by
  rw[q1,p1];refine Lib.run_overlaps_apart w tS tR e ht sz (fun w'=>run_sizeOf hE) ⟨id,o1*sz,none⟩ ⟨id2,o2*sz,none⟩ n1 cap n2 ahf aKf U' U2 cc.size cc2.size (by simp only[World.shape?,q4]) (by simp only[World.shape?,p4]) ?_ (by simp[World.frozen?,q4]) (by simp[World.frozen?,q4]);have:0<(o2+ahf)*sz:=Nat.mul_pos J fb;omega
 have uU:=run_callFunc_extern (P:=P) (args:=#[a.eval x,a.eval y]) hf ta hb hn he w;rw[hv]at uU;simp only[execOp,resolve,Act.eval,Deferred.ofValue,Sem.run_bind,Sem.run_pure,Result.andThen_ok,invoke];simpa using uU
theorem adp{o:Oper}(hs:ic n W X Z0 L a w)(ef:Step P dr ops o L L')(hd:∀t,o.dst=some t->t<n){K:Act->World->Prop}{Q:Exit->Act->World->Prop}
  (hK:∀a' w',ic n W X Z0 L' a' w'->K a' w'):if Region.wanted o (yielded ops a.tmps)then o.wp P a w K Q else K (a.put o.dst undef) w:=by
 obtain⟨fA,bU,μ,Z,hc,hr⟩:=hs;have jC:∀t,o.dst=some t->t<a.tmps.size:=fun t h=>by rw[bU];exact hd t h
 cases ef with
 |skip hg h =>
  rw[ael hr hg];simp only[afF,if_false];subst h;exact hK _ _ ⟨by rw[put_defers];exact fA,by rw[uL];exact bU,μ,Z,by rw[kH];exact hc,uN jC hr ⟨#[],rfl,rfl⟩⟩
 | @val r fr H1 hg hle eM ho h =>
  rw[ael hr hg];simp only[if_true];obtain⟨Z1,k1,k2⟩:=hc.adk hle;have fR:∀t,bJ Z1 μ w (L.slot t) (a.tmps.getD t undef):=fun t=>(hr t).mono k2 (fun _ _ h=>h) ⟨fun _ _=>rfl,(Frame.refl Z μ w).m⟩;obtain⟨dst,op,ty,pos,after,g⟩:=o;refine nB.sound k1 ho (fun x _=>n7 (L:=L) fR x) (fun b blk hb=>?_) dst ty pos after g ?_
  ·obtain⟨h1,m,h2,h3⟩:=eM b blk hb;exact⟨m,h2,h3,xb hc h1⟩
  intro v w' bE Z' sJ;subst h;refine hK _ _ ⟨by rw[put_defers];exact fA,by rw[uL];exact bU,bE,Z',sJ.core,?_⟩;exact uN (L:=L) jC (fun t=>(fR t).mono sJ.hz sJ.hm sJ.hf) sJ.rep
 |st hg ho =>
  rw[ael hr hg];simp only[if_true];obtain⟨dst,op,ty,pos,after,g⟩:=o;simp only at ho jC
  cases ho with
  |store hp hb qz hm hi hy nG hT aZ =>
   obtain⟨w',h1,h2,h3⟩:=aKz (P:=P) hc hr hp hb qz hm hi hy nG hT aZ dst ty pos after g;unfold Oper.wp;rw[h1,Oper.upon_skip];refine hK _ _ ⟨by rw[put_defers];exact fA,by rw[uL];exact bU,μ,Z,by rw[kH];exact h2,?_⟩;exact uN jC (fun t=>(hr t).mono (fun _ h=>h) (fun _ _ h=>h) h3) trivial
  | @eU T U E E' d b sz len blk x y news z eH hx hb qz hm hlen gY gh hT hU hz hE fk lD hy aoq jl fb =>
   obtain⟨v,w',bE,Z',r1,r2,r3,r4⟩:=aI9 (P:=P) (ty:=ty) hc hr hx hb qz hm hlen gY gh hT hU hz hE fk lD hy aoq jl;have iA:(execOp a.eval ⟨dst,.call ⟨.builtin .append,#[x,y],#[T,U]⟩,ty,pos,after,g⟩).run P w=.ok (.value v) w':=by
    simp only[execOp,resolve,Sem.run_bind,Sem.run_pure,Result.andThen_ok,invoke,builtin];simp only[afm,nK,gy,r1,Result.andThen_ok]
   unfold Oper.wp;rw[iA,Oper.upon_value];refine hK _ _ ⟨by rw[put_defers];exact fA,by rw[uL];exact bU,bE,Z',by rw[kH];exact r2,?_⟩;exact uN jC r3 r4
  | @zG T U E E' d sz x y news z eH hx gY hT hU hz hE fk lD hy hn aoq jl fb =>
   obtain⟨v,w',bE,Z',r1,r2,r3,r4⟩:=aHC (P:=P) (ty:=ty) hc hr hx gY hT hU hz hE fk lD hy hn aoq jl;have iA:(execOp a.eval ⟨dst,.call ⟨.builtin .append,#[x,y],#[T,U]⟩,ty,pos,after,g⟩).run P w=.ok (.value v) w':=by
    simp only[execOp,resolve,Sem.run_bind,Sem.run_pure,Result.andThen_ok,invoke,builtin];simp only[afm,nK,gy,r1,Result.andThen_ok]
   unfold Oper.wp;rw[iA,Oper.upon_value];refine hK _ _ ⟨by rw[put_defers];exact fA,by rw[uL];exact bU,bE,Z',by rw[kH];exact r2,?_⟩;exact uN jC r3 r4
  | @clr T E x b sz off n blk z hx hb qz hm hl hT hz fk =>
   obtain⟨w',r1,r2,r3⟩:=aNo (P:=P) (ty:=ty) hc hr hx hb qz hm hl hT hz fk;have iA:(execOp a.eval ⟨dst,.call ⟨.builtin .clear,#[x],#[T]⟩,ty,pos,after,g⟩).run P w=.ok (.value (.tuple #[])) w':=by
    simp only[execOp,resolve,Sem.run_bind,Sem.run_pure,Result.andThen_ok,invoke,builtin];simp only[afm,nK,gy,r1,Result.andThen_ok]
   unfold Oper.wp;rw[iA,Oper.upon_value];refine hK _ _ ⟨by rw[put_defers];exact fA,by rw[uL];exact bU,μ,Z,by rw[kH];exact r2,?_⟩;exact uN jC (fun t=>(hr t).mono (fun _ h=>h) (fun _ _ h=>h) r3) trivial
  | @cpy T U E E' x y b sz off news blk ag hx hb qz hm hl hT hU hE hy =>
   obtain⟨v,w',r1,r2,r3⟩:=aJU (P:=P) (ty:=ty) hc hr hx hb qz hm hl hT hU hE hy;have iA:(execOp a.eval ⟨dst,.call ⟨.builtin .copy,#[x,y],#[T,U]⟩,ty,pos,after,g⟩).run P w=.ok (.value v) w':=by
    simp only[execOp,resolve,Sem.run_bind,Sem.run_pure,Result.andThen_ok,invoke,builtin];simp only[afm,nK,gy,r1,Result.andThen_ok]
   unfold Oper.wp;rw[iA,Oper.upon_value];refine hK _ _ ⟨by rw[put_defers];exact fA,by rw[uL];exact bU,μ,Z,by rw[kH];exact r2,?_⟩;exact uN jC (fun t=>(hr t).mono (fun _ h=>h) (fun _ _ h=>h) r3) trivial
  | @afg T U E E' x y b sz off n1 blk c off2 n2 eQ news ag hx hb qz hm hl hT hU hE hy nz yE hn h0 oK rQ =>
   obtain⟨v,w',r1,r2,r3⟩:=aPG (P:=P) (ty:=ty) hc hr hx hb qz hm hl hT hU hE hy nz yE hn h0 oK rQ;have iA:(execOp a.eval ⟨dst,.call ⟨.builtin .copy,#[x,y],#[T,U]⟩,ty,pos,after,g⟩).run P w=.ok (.value v) w':=by
    simp only[execOp,resolve,Sem.run_bind,Sem.run_pure,Result.andThen_ok,invoke,builtin];simp only[afm,nK,gy,r1,Result.andThen_ok]
   unfold Oper.wp;rw[iA,Oper.upon_value];refine hK _ _ ⟨by rw[put_defers];exact fA,by rw[uL];exact bU,μ,Z,by rw[kH];exact r2,?_⟩;exact uN jC (fun t=>(hr t).mono (fun _ h=>h) (fun _ _ h=>h) r3) trivial
 |stM _ hg ho =>
  rw[ael hr hg];simp only[if_true];obtain⟨dst,op,ty,pos,after,g⟩:=o;simp only at ho jC
  cases ho with
  |call hb hm hp ha hn hk r8 mZ =>
   refine aNW hc hr hb hm hp ha hn hk r8 mZ fun v w' Z' h1 h2 h3=>?_;refine hK _ _ ⟨by rw[put_defers];exact fA,by rw[uL];exact bU,μ,Z',by rw[kH];exact h1,?_⟩;exact uN (L:=L.bO _ _) jC h2 h3
  | @aiA T U E x y z k kl sz eH len cp n d b blk hT hU hz hE fk hb hx mn qz hlen hy gY hgr fb hm jl =>
   obtain⟨v,w',bE,Z',r1,r2,r3,r4⟩:=aD8 (P:=P) (ty:=ty) hc hr hT hU hz hE fk hb hx mn qz hlen hy gY hgr fb hm jl;have iA:(execOp a.eval ⟨dst,.call ⟨.builtin .append,#[x,y],#[T,U]⟩,ty,pos,after,g⟩).run P w=.ok (.value v) w':=by
    simp only[execOp,resolve,Sem.run_bind,Sem.run_pure,Result.andThen_ok,invoke,builtin];simp only[afm,nK,gy,r1,Result.andThen_ok]
   unfold Oper.wp;rw[iA,Oper.upon_value];refine hK _ _ ⟨by rw[put_defers];exact fA,by rw[uL];exact bU,bE,Z',by rw[kH];exact r2,?_⟩;exact uN (L:=L.bO _ _) jC r3 r4
  | @ovl f x y Tx Ty fn b c sz o1 n1 o2 n2 ag tS tR e hf ta hb hn he ht hE hx hy yb h1 h2 fb =>
   have iA:=aIQ (P:=P) (Tx:=Tx) (Ty:=Ty) (dst:=dst) (ty:=ty) (pos:=pos) (af:=after) (g:=g) hc hr hf ta hb hn he ht hE hx hy yb h1 h2 fb;unfold Oper.wp;rw[iA,Oper.upon_value];refine hK _ _ ⟨by rw[put_defers];exact fA,by rw[uL];exact bU,μ,Z,by rw[kH];exact hc,?_⟩;exact uN jC hr ⟨by simp[LV.isAgg],fun _=>by simp[aH,Value.oneCell']⟩
theorem axL{Q:Exit->Act->World->Prop}{K:St->Prop}:∀(l:List Oper) (L:St) (a:Act) (w:World),ic n W X Z0 L a w->opsL P dr ops l L K->(∀o∈l,∀t,o.dst=some t->t<n) ->
  (∀L' a' w',K L'->ic n W X Z0 L' a' w'->Q .normal a' w')->wpList P ops Q l a w
 | [],L,a,w,hs,hk,_,hq=>hq L a w hk hs
 |o::r,L,a,w,hs,⟨L',h1,h2⟩,hd,hq=>by
   have:=adp (Q:=Q) (K:=wpList P ops Q r) hs h1 (hd o aE) (fun a' w' kF=>axL r L' a' w' kF h2 (fun o' ki=>hd o' (by simp[ki])) hq);unfold wpList;split
   ·rename_i h;rw[if_pos h]at this;exact .inl this
   rename_i h;rw[if_neg h]at this;exact this
end
def au(L L':St):Prop:=∀n W X Z0 a w,ic n W X Z0 L a w->ic n W X Z0 L' a w
theorem au.refl(L:St):au L L:=fun _ _ _ _ _ _ h=>h
theorem au.trans{L L' L'':St}(h:au L L')(h':au L' L''):au L L'':=fun n W X Z0 a w k=>h' n W X Z0 a w (h n W X Z0 a w k)
theorem au.kill(L:St)(b:Nat)(h0:b≠0:=by decide):au L (L.kill b):=fun _ _ _ _ _ _ ⟨h1,h2,_,Z,hc,hr⟩=>⟨h1,h2,_,Z,hc.kill b h0,agy b hr⟩
def kh(o:Oper):List Nat:=o.after.toList.filterMap fun e=>if Region.binds .any e then some e.on else none
inductive oa (ops:Array Oper):Nat->Nat->Prop
 |one {j i o} (ho:ops[i]?=some o) (h:j∈kh o):oa ops j i
 |step {j k i o} (h:oa ops j k) (ho:ops[i]?=some o) (hk:k∈kh o):oa ops j i
def mask(acc:List Nat)(o:Oper):Nat:=(kh o).foldl (fun s j=>s ||| (2^j ||| acc.getD j 0)) 0
def bef:List Oper->List Nat->List Nat
 | [],acc=>acc
 |o::r,acc=>bef r (acc++[mask acc o])
def wK:Op->Bool
 | .store ..=>true
 | .call ⟨.builtin .append,_,_⟩=>true
 | .call ⟨.builtin .clear,_,_⟩=>true
 | .call ⟨.builtin .copy,_,_⟩=>true
 |_=>false
def acf(ops:Array Oper)(b:List Nat)(i j:Nat):Bool :=
 match (ops.getD j default).dst with
 |none=>true
 |some d=>(ops.getD i default).dst != some d &&
   (!((ops.getD i default).looksAt ops).contains d||(if j<i then(b.getD i 0).testBit j else(b.getD j 0).testBit i))
def axQ(ops:Array Oper)(m j:Nat):Bool :=
 (ops.getD j default).guard.isNone&&(match (ops.getD j default).op with | .move _=>true | .binOp ..=>(ops.getD m default).dst.isNone | .extract ..=>(ops.getD m default).dst.isNone|_=>false) &&
 (match (ops.getD j default).dst with|some d=>!((ops.getD m default).looksAt ops).contains d&&(ops.getD m default).dst != some d|none=>true) &&
 (match (ops.getD m default).dst with|some d=>!((ops.getD j default).looksAt ops).contains d|none=>true)
def aBd(o:Oper):Bool:=o.guard.isNone&&(match o.op with | .store ..=>o.dst.isNone | .call ⟨.builtin .append,_,_⟩=>o.dst.isSome|_=>false)
def z8(ops:Array Oper)(m:Nat)(fr:List Nat):Bool :=
 decide (m<=ops.size) &&
 (cN ops.size).all (fun i=>(kh (ops.getD i default)).all (·<i) &&
  (if m<=i then(cN i).all (fun j=>((bef ops.toList []).getD i 0).testBit j||(i==m&&fr.contains j))else !wK (ops.getD i default).op)) &&
 ((cN m).all fun i=>(cN m).all fun j=>i==j||acf ops (bef ops.toList []) i j) &&
 (fr.isEmpty||(decide (m<ops.size)&&aBd (ops.getD m default)&&fr.all fun j=>decide (j<m)&&axQ ops m j))
theorem avR(acc:List Nat)(t:Nat):∀(l:List Nat) (s:Nat),(l.foldl (fun s j=>s ||| (2^j ||| acc.getD j 0)) s).testBit t=true ->
  s.testBit t=true\/∃j∈l,t=j\/(acc.getD j 0).testBit t=true
 | [],s,h=>.inl h
 |j::l,s,h=>by
   rcases avR acc t l _ h with h|⟨k,hk,h⟩
   ·rw[aC8,aC8,pI,pI]at h;rcases h with h|h|h
    ·exact qN
    ·rw[Nat.testBit_two_pow]at h;exact .inr ⟨j,by simp,.inl (by simpa using h.symm:j=t).symm⟩
    exact .inr ⟨j,by simp,.inr h⟩
   exact .inr ⟨k,by simp[hk],h⟩
theorem aeM(ops:Array Oper):∀(l:List Oper) (acc:List Nat),(∀i,l[i]?=ops[acc.length+i]?)->(∀i t,(acc.getD i 0).testBit t=true->oa ops t i) ->
  ∀i t,((bef l acc).getD i 0).testBit t=true->oa ops t i
 | [],acc,_,h=>h
 |o::r,acc,hl,h=>by
   refine aeM ops r (acc++[mask acc o]) (fun i=>?_) (fun i t ht=>?_)
   ·have:=hl (i+1);simp only[adO]at this;rw[this];congr 1;simp;omega
   by_cases hi:i<acc.length
   ·rw[bq,ab6 hi,<-bq]at ht;exact h i t ht
   by_cases he:i=acc.length
   ·subst he;have ho:ops[acc.length]?=some o:=by have:=hl 0;simpa using this.symm
    rw[bq,abt J]at ht;simp only[uz,o8,acE]at ht;rcases avR acc t (kh o) 0 ht with h0|⟨j,hj,rfl|h2⟩
    ·simp at h0
    ·exact .one ho hj
    exact .step (h j t h2) ho hj
   have:(acc++[mask acc o]).getD i 0=0:=by
    rw[bq,List.getElem?_eq_none aQ];rfl
   rw[this]at ht;simp at ht
theorem pV{ops:Array Oper}{je:Array Bool}(_hsz:je.size=ops.size){i:Nat}:i∈Region.ready .any ops je ↔
  ∃o,ops[i]?=some o/\je.getD i true=false/\∀j∈kh o,je.getD j false=true:=by
 unfold Region.ready;simp only[List.mem_filter,rm,jS,yK];constructor
 ·rintro⟨h1,h2,h3⟩;refine⟨ops[i],oX h1,h2,fun j hj=>?_⟩;rw[oX h1]at h3;simp only[uh,acE,aCj]at h3;simp only[kh,aaF]at hj;obtain⟨e,he,hj⟩:=hj;have:=h3 e (by simpa using he);split at hj
  ·rename_i hb;simp only[gj]at hj;subst hj;simpa[hb]using this
  cases hj
 rintro⟨o,h1,h2,h3⟩;have hi:=(lX.1 h1).1;refine⟨hi,h2,?_⟩;rw[h1];simp only[uh,acE,aCj];intro e he
 cases hb:Region.binds .any e with
 |false=>simp
 |true =>
  have:=h3 e.on (by simp only[kh,aaF];exact⟨e,by simpa using he,by simp[hb]⟩);simpa using this
theorem anr{α:Type}(p q:α->Bool):∀(l:List α),(∀x∈l,p x=true->q x=true)->(∃x∈l,q x=true/\p x=false)->l.countP p<l.countP q
 | [],_,⟨x,hx,_⟩=>by simp at hx
 |y::l,h,⟨x,hx,h1,h2⟩=>by
   have hle:∀(l:List α),(∀x∈l,p x=true->q x=true)->l.countP p<=l.countP q:=fun l h=>List.countP_mono_left h;simp only[List.countP_cons];rcases List.mem_cons.1 hx with rfl|hx
   ·have:=hle l (fun z hz=>h z (by simp[hz]));simp[h1,h2];omega
   have ih:=anr p q l (fun z hz=>h z (by simp[hz])) ⟨x,hx,h1,h2⟩;have hy:=h y aE
   cases hp:p y with
   |false=>simp;split<;>omega
   |true=>simp[hy hp];omega
theorem aLK{P:Program}{ops:Array Oper}{Q:Exit->Act->World->Prop}(Inv:Array Bool->Act->World->Prop)
  (xX:∀i o,ops[i]?=some o->∀j∈kh o,j<i)
  (aa8:∀je a w i o,je.size=ops.size->Inv je a w->ops[i]?=some o->je.getD i true=false->(∀j∈kh o,je.getD j false=true) ->
   if Region.wanted o (yielded ops a.tmps)then o.wp P a w (fun a' w'=>Inv (je.setIfInBounds i true) a' w') Q else Inv (je.setIfInBounds i true) (a.put o.dst undef) w)
  (atK:∀je a w,je.size=ops.size->Inv je a w->(∀i,i<ops.size->je.getD i false=true)->Q .normal a w) :
  ∀(fuel:Nat) (je:Array Bool) (a:Act) (w:World),je.size=ops.size->(cN ops.size).countP (fun i=>!je.getD i true)<=fuel->Inv je a w->wpAny P .any ops Q fuel je a w:=by
 have fM:∀(je:Array Bool),je.size=ops.size->Region.ready .any ops je=[]->∀i,i<ops.size->je.getD i false=true:=by
  intro je bU hr i
  induction i using afc with
  |_ i ih =>
   intro hi
   cases hl:je.getD i false with
   |true=>rfl
   |false =>
    have h1:je.getD i true=false:=by
     rw[dQ,oX J]at hl ⊢;simpa using hl
    have:i∈Region.ready .any ops je:=(pV bU).2 ⟨ops[i],oX hi,h1,fun j hj=>by
     have kD:=xX i _ (oX hi) j hj;exact ih j kD J⟩
    rw[hr]at this;cases this
 intro fuel
 induction fuel with
 |zero =>
  intro je a w bU hc hI;have hr:Region.ready .any ops je=[]:=by
   apply List.eq_nil_iff_forall_not_mem.2;intro i hi;obtain⟨o,h1,h2,_⟩:=(pV bU).1 hi;have nt:0<(cN ops.size).countP (fun i=>!je.getD i true) :=
    List.countP_pos_iff.2 ⟨i,by simpa using (lX.1 h1).1,by rw[h2];rfl⟩
   omega
  exact⟨hr,atK je a w bU hI (fM je bU hr)⟩
 |succ fuel ih =>
  intro je a w bU hc hI;refine⟨fun hr=>atK je a w bU hI (fM je bU hr),fun i hi=>?_⟩;obtain⟨o,h1,h2,h3⟩:=(pV bU).1 hi;have qW:=(lX.1 h1).1;have hs:=aa8 je a w i o bU hI h1 h2 h3;have ati:(cN ops.size).countP (fun k=>!(je.setIfInBounds i true).getD k true)<(cN ops.size).countP (fun k=>!je.getD k true):=by
   apply anr
   ·intro k _ hk;by_cases e:i=k
    ·subst e;rw[dQ,p7 J]at hk;simp at hk
    rw[dQ,lU e]at hk;rw[dQ];exact hk
   refine⟨i,by simpa using qW,by rw[h2];rfl,?_⟩;rw[dQ,p7 J];rfl
  have axd:∀a' w',Inv (je.setIfInBounds i true) a' w'->wpAny P .any ops Q fuel (je.setIfInBounds i true) a' w':=fun a' w' h =>
   ih _ a' w' (by simpa using bU) J h
  unfold wpOp;rw[h1];simp only;split
  ·rename_i hw;rw[if_pos hw]at hs;exact .inl (Oper.wp_mono axd hs)
  rename_i hw;rw[if_neg hw]at hs;exact axd _ _ hs
end Go.Lg
namespace Go.Lg
theorem cd.le_refl(H:cd):H.le H:=fun _ blk h=>⟨blk.mt,h,fun h=>h,fun h1 h2=>by rw[h1]at h2;cases h2⟩
theorem cd.le_trans{H H' H'':cd}(h:H.le H')(h':H'.le H''):H.le H'':=fun b blk hb=>by
 obtain⟨m,g1,g2,g3⟩:=h b blk hb;obtain⟨m',k1,k2,k3⟩:=h' b _ g1;refine⟨m',k1,fun e=>k2 (g2 e),fun e1 e2=>?_⟩
 cases hm:m with
 |false=>exact g3 e1 hm
 |true=>exact k3 hm e2
section
variable {P:Program} {W w:World} {X:XS} {Z0 Z:Nat->Prop} {μ:Nat->Option Nat} {a:Act} {n:Nat} {ops:Array Oper}
theorem acr{K:St->Prop}:∀(l:List Oper) (L:St),opsL P true ops l L K->∃f:Nat->St,f 0=L/\(∀i o,l[i]?=some o->Step P true ops o (f i) (f (i+1)))/\K (f l.length)
 | [],L,h=>⟨fun _=>L,rfl,fun i o h=>by simp at h,h⟩
 |o::r,L,⟨L',h1,h2⟩=>by
   obtain⟨f,g1,g2,g3⟩:=acr r L' h2;refine⟨fun i=>match i with|0=>L|i+1=>f i,rfl,fun i o' h=>?_,g3⟩
   cases i with
   |zero=>simp only[o8,gj]at h;subst h;rw[<-g1]at h1;exact h1
   |succ i=>exact g2 i o' mA
theorem iI.tail{L L':St}{dst:Option Tmp}{op:Op}(h:iI P L dst op L'):wK op=true:=by cases h<;>rfl
theorem ars{o:Oper}{L L':St}(ht:wK o.op=false)(h:Step P true ops o L L'):L.heap.le L'.heap/\∀t,o.dst≠some t->L'.slot t=L.slot t:=by
 have nG:∀(r:LV) t,o.dst≠some t->(L.put o.dst r).slot t=L.slot t:=fun r t aZ=>by
  unfold St.put
  cases hd:o.dst with
  |none=>rfl
  |some d=>exact(iU L d r t).trans (if_neg (fun e=>aZ (by rw[hd,e])))
 cases h with
 |skip hg h=>subst h;exact⟨by rw[kH];exact cd.le_refl _,nG _⟩
 |val hg hle eM ho h=>subst h;exact⟨hle,nG _⟩
 |st hg ho =>
  obtain⟨dst,op,ty,pos,after,g⟩:=o
  cases ho<;>simp[wK]at ht
 |stM ir _ _=>cases ir
open Classical in
noncomputable def gW(ops:Array Oper)(f:Nat->St)(m:Nat)(D:Array Bool)(t:Nat):LV :=
 if ∃i o,i<m/\D.getD i false=true/\ops[i]?=some o/\o.dst=some t then(f m).slot t else(f 0).slot t
def abP:Option Nat->LV->LV
 |none,x=>x
 |some b,x=>x.kill b
noncomputable def lO(ops:Array Oper)(f:Nat->St)(m:Nat)(dm:Option Tmp)(kb:Option Nat)(D:Array Bool)(t:Nat):LV :=
 if dm=some t then(f (m+1)).slot t else abP kb (gW ops f m D t)
def newAt(f:Nat->St)(i b:Nat):Prop:=(f i).heap b=none/\(f (i+1)).heap b≠none
theorem apd{m id:Nat}{fr:List Nat}{K:St->Prop}{Q:Exit->Act->World->Prop}{L:St}{f:Nat->St}(jK:P.follows .mixedOrders=true)(hs:ic n W X Z0 L a w)
  (f0:f 0=L) (yf:∀i o,ops[i]?=some o->i<m\/fr≠[]->Step P true ops o (f i) (f (i+1)))
  (fsB:∀i o,ops[i]?=some o->m<=i->∀(a:Act) (w:World) (K:Act->World->Prop) (Q:Exit->Act->World->Prop),ic n W X Z0 (f i) a w->(∀t,o.dst=some t->t<n)->(∀a' w',ic n W X Z0 (f (i+1)) a' w'->K a' w')->if Region.wanted o (yielded ops a.tmps)then o.wp P a w K Q else K (a.put o.dst undef) w) (fK:K (f ops.size)) (zr:m<=ops.size) (xX:∀i o,ops[i]?=some o->∀j∈kh o,j<i)
  (yA:∀i o,ops[i]?=some o->m<=i->∀j,j<i->oa ops j i\/(i=m/\j∈fr)) (vi:∀i o,ops[i]?=some o->i<m->wK o.op=false)
  (xj:∀i j oi oj d,ops[i]?=some oi->ops[j]?=some oj->i<m->j<m->i≠j->oj.dst=some d->oi.dst≠some d/\(d∈oi.looksAt ops->if j<i then oa ops j i else oa ops i j))
  (aeK:∀j o,ops[j]?=some o->j∈fr->j<m/\m<ops.size/\(∀om,ops[m]?=some om->om.guard=none/\((om.dst=none/\∃T p x,om.op=.store T p x)\/∃d xs ts,om.dst=some d/\om.op=.call ⟨.builtin .append,xs,ts⟩) /\
    (∀d,o.dst=some d->d∉om.looksAt ops/\om.dst≠some d)/\∀d,om.dst=some d->d∉o.looksAt ops) /\
   o.guard=none/\((∃x,o.op=.move x)\/(∃q T x y U,o.op=.binOp q T x y U/\∀om,ops[m]?=some om->om.dst=none)\/(∃x i,o.op=.extract x i/\∀om,ops[m]?=some om->om.dst=none) \/
    ((∀om,ops[m]?=some om->om.dst=none)/\∃r,nB P (f (m+1)).heap (f j).ev (o.dst.getD 0) o.op r []/\∀t,o.dst=some t->(f (j+1)).slot t=r)))
  (hd:∀o∈ops.toList,∀t,o.dst=some t->t<n) (hq:∀L' a' w',K L'->ic n W X Z0 L' a' w'->Q .normal a' w') :
  (Code.region id ops true).wp P Q a w:=by
 have jr:∀i o,ops[i]?=some o->ops.getD i default=o:=fun i o h=>by rw[dQ,h];rfl
 have pO:∀i o,ops[i]?=some o->i<ops.size:=fun i o h=>(lX.1 h).1;have aad:∀i,i<ops.size->∃o,ops[i]?=some o:=fun i h=>⟨_,oX h⟩;have aa8:∀i o,ops[i]?=some o->i<m->(f i).heap.le (f (i+1)).heap/\∀t,o.dst≠some t->(f (i+1)).slot t=(f i).slot t:=fun i o h jQ=>ars (vi i o h jQ) (yf i o h (.inl jQ));have hle:∀i j,i<=j->j<=m->(f i).heap.le (f j).heap:=by
  intro i j ud
  induction j with
  |zero =>
   intro _;have:i=0:=J;subst this;exact cd.le_refl _
  |succ j ih =>
   intro nD;by_cases e:i=j+1
   ·subst e;exact cd.le_refl _
   obtain⟨o,ho⟩:=aad j J;exact cd.le_trans (ih J J) (aa8 j o ho J).1
 have hconst:∀i j t,i<=j->j<=m->(∀k o,i<=k->k<j->ops[k]?=some o->o.dst≠some t)->(f j).slot t=(f i).slot t:=by
  intro i j t ud
  induction j with
  |zero =>
   intro _ _;have:i=0:=J;subst this;rfl
  |succ j ih =>
   intro nD hk;by_cases e:i=j+1
   ·subst e;rfl
   obtain⟨o,ho⟩:=aad j J;rw[(aa8 j o ho J).2 t (hk j o J J ho)];exact ih J J (fun k o h1 h2=>hk k o h1 J)
 have anb:∀i j b,i<=j->j<=m->(f i).heap b≠none->(f j).heap b≠none:=fun i j b ud nD hb=>by
  obtain⟨blk,aMb⟩:=anY.1 hb;obtain⟨mm,g,_⟩:=hle i j ud nD b blk aMb;rw[g];simp
 have agq:∀i o t,ops[i]?=some o->i<m->o.dst=some t->(f m).slot t=(f (i+1)).slot t:=fun i o t ho jQ kX =>
  hconst (i+1) m t J (bF _) (fun k ok h1 h2 hk e=>(xj i k o ok t ho hk jQ h2 J e).1 kX)
 let closed:Array Bool->Prop:=fun D=>∀i o,ops[i]?=some o->D.getD i false=true->∀j∈kh o,D.getD j false=true
 have aaJ:∀D,closed D->∀j i,oa ops j i->(∀o,ops[i]?=some o->∀k∈kh o,D.getD k false=true)->D.getD j false=true:=by
  intro D hD j i hA
  induction hA with
  | @one i o ho h=>intro hr;exact hr o ho _ h
  | @step k i o hA ho hk ih=>intro hr;exact ih (fun o' ki k' qD=>hD k o' ki (hr o ho k hk) k' qD)
 let PhA:Array Bool->Act->World->Prop:=fun D a w=>(∀i,D.getD i false=true->i<m)/\a.defers=[]/\a.tmps.size=n/\∃μ Z,Core W X Z0 μ Z (f m).heap w /\
  (∀b,μ b≠none->(f 0).heap b≠none\/∃i,i<m/\D.getD i false=true/\newAt f i b)/\∀t,bJ Z μ w (gW ops f m D t) (a.tmps.getD t undef)
 let PhB:Array Bool->Act->World->Prop:=fun D a w=>∃k,m<=k/\(∀i,i<ops.size->(D.getD i false=true↔i<k))/\k<=ops.size/\ic n W X Z0 (f k) a w
 let PhC:Array Bool->Act->World->Prop:=fun D a w=>m<ops.size/\(∃om kb,ops[m]?=some om/\(om.dst=none->kb=none)/\(∀t,om.dst≠some t->(f (m+1)).slot t=abP kb ((f m).slot t)) /\
  ic n W X Z0 ⟨lO ops f m om.dst kb D,(f (m+1)).heap⟩ a w)/\(∀i,D.getD i false=true->i<=m)/\D.getD m false=true/\(∀i,i<m->i∉fr->D.getD i false=true)
 have hAB:∀D a w,PhA D a w->(∀i,i<m->D.getD i false=true)->ic n W X Z0 (f m) a w:=by
  rintro D a w ⟨_,fA,bU,μ,Z,hc,_,hr⟩ fM;refine⟨fA,bU,μ,Z,hc,fun t=>?_⟩;have:=hr t;unfold gW at this;split at this
  ·exact this
  rename_i ns;rw[hconst 0 m t (bW _) (bF _) (fun k o _ mO hk e=>ns ⟨k,o,mO,fM k mO,hk,e⟩)];exact this
 refine wp_region_any jK (aLK (fun D a w=>closed D/\(PhA D a w\/PhB D a w\/PhC D a w)) xX ?_ ?_ ops.size _ _ _ aE ?_ ?_)
 ·
  intro D a w i o ze ⟨ju,hI⟩ ho vf zO;have uT:=pO i o ho;have acQ:D.getD i false=false:=by
   rw[dQ,oX J]at vf ⊢;simpa using vf
  have kf:∀k,(D.setIfInBounds i true).getD k false=true↔k=i\/D.getD k false=true:=fun k=>by
   by_cases e:i=k
   ·subst e;rw[dQ,p7 J];simp
   rw[dQ,lU e,<-dQ];constructor
   ·exact fun h=>.inr h
   rintro(h|h)
   ·exact absurd h.symm e
   exact h
  have aeo:closed (D.setIfInBounds i true):=fun k ok hk gi j hj=>by
   rcases(kf k).1 gi with rfl|h
   ·rw[ho]at hk;cases hk;exact(kf j).2 (.inr (zO j hj))
   exact(kf j).2 (.inr (ju k ok hk h j hj))
  have adP:∀o',ops[i]?=some o'->∀k∈kh o',D.getD k false=true:=fun o' ki k hk=>(by rw[ho]at ki;cases ki;exact zO k hk);have wR:∀t,o.dst=some t->t<n:=hd o (by rw[aib];exact aBV ho);have tail:∀k,m<=k->(∀j,j<ops.size->(D.getD j false=true↔j<k))->k=i->ic n W X Z0 (f k) a w ->
    if Region.wanted o (yielded ops a.tmps)then o.wp P a w (fun a' w'=>closed (D.setIfInBounds i true)/\(PhA (D.setIfInBounds i true) a' w'\/PhB (D.setIfInBounds i true) a' w'\/PhC (D.setIfInBounds i true) a' w')) Q
    else closed (D.setIfInBounds i true)/\(PhA (D.setIfInBounds i true) (a.put o.dst undef) w\/PhB (D.setIfInBounds i true) (a.put o.dst undef) w\/PhC (D.setIfInBounds i true) (a.put o.dst undef) w):=by
   intro k xy gi e rD;subst e;refine fsB k o ho xy a w (fun a' w'=>closed (D.setIfInBounds k true)/\(PhA (D.setIfInBounds k true) a' w'\/PhB (D.setIfInBounds k true) a' w'\/PhC (D.setIfInBounds k true) a' w')) _ rD wR (fun a' w' kF=>⟨aeo,.inr (.inl ⟨k+1,J,fun j hj=>?_,J,kF⟩)⟩);rw[kf j,gi j hj];omega
  have afD:i<m->∀t,t∈o.looksAt ops->(f i).slot t=gW ops f m D t:=by
   intro jQ t ht;by_cases hex:∃j oj,j<m/\ops[j]?=some oj/\oj.dst=some t
   ·obtain⟨j,oj,nD,hj,q8⟩:=hex;have aaR:∀k ok,k<m->ops[k]?=some ok->ok.dst=some t->k=j:=fun k ok mO hk nk =>
     rE fun aZ=>(xj k j ok oj t hk hj mO nD aZ q8).1 nk
    by_cases kD:j=i
    ·subst kD;have e1:(f j).slot t=(f 0).slot t:=hconst 0 j t (bW _) J (fun k ok _ hkj hk e=>by have:=aaR k ok J hk e;omega);have e2:gW ops f m D t=(f 0).slot t:=by
      unfold gW;rw[if_neg];rintro⟨k,ok,mO,gi,hk,nk⟩;have:=aaR k ok mO hk nk;subst this;rw[acQ]at gi;cases gi
     rw[e1,e2]
    have hp:=(xj i j o oj t ho hj jQ nD (Ne.symm kD) q8).2 ht;by_cases bV:j<i
    ·rw[if_pos bV]at hp;have vV:=aaJ D ju j i hp adP;have e2:gW ops f m D t=(f m).slot t:=by
      unfold gW;rw[if_pos ⟨j,oj,nD,vV,hj,q8⟩]
     rw[e2,agq j oj t hj nD q8];exact hconst (j+1) i t J J (fun k ok ya pW hk e=>by have:=aaR k ok J hk e;omega)
    rw[if_neg bV]at hp;have e1:(f i).slot t=(f 0).slot t:=hconst 0 i t (bW _) J (fun k ok _ pW hk e=>by have:=aaR k ok J hk e;omega);have e2:gW ops f m D t=(f 0).slot t:=by
     unfold gW;rw[if_neg];rintro⟨k,ok,mO,gi,hk,nk⟩;have:=aaR k ok mO hk nk;subst this;have:=aaJ D ju i k hp (fun o' ki k' qD=>ju k o' ki gi k' qD);rw[acQ]at this;cases this
    rw[e1,e2]
   have e1:(f i).slot t=(f 0).slot t:=hconst 0 i t (bW _) J (fun k ok _ pW hk e=>hex ⟨k,ok,J,hk,e⟩);have e2:gW ops f m D t=(f 0).slot t:=by
    unfold gW;rw[if_neg];rintro⟨k,ok,mO,gi,hk,nk⟩;exact hex ⟨k,ok,mO,hk,nk⟩
   rw[e1,e2]
  have aii:i<m->∀t,gW ops f m (D.setIfInBounds i true) t=if o.dst=some t then(f (i+1)).slot t else gW ops f m D t:=by
   intro jQ t;by_cases kX:o.dst=some t
   ·rw[if_pos kX];unfold gW;rw[if_pos ⟨i,o,jQ,(kf i).2 (.inl rfl),ho,kX⟩];exact agq i o t ho jQ kX
   rw[if_neg kX];unfold gW;congr 1;apply propext;constructor
   ·rintro⟨k,ok,mO,gi,hk,nk⟩;rcases(kf k).1 gi with rfl|h
    ·rw[ho]at hk;cases hk;exact absurd nk kX
    exact⟨k,ok,mO,h,hk,nk⟩
   rintro⟨k,ok,mO,gi,hk,nk⟩;exact⟨k,ok,mO,(kf k).2 (.inr gi),hk,nk⟩
  have aIz:(∀j,j<m->D.getD j false=true)->∀t,gW ops f m D t=(f m).slot t:=by
   intro fM t;unfold gW;split
   ·rfl
   rename_i ns;rw[hconst 0 m t (bW _) (bF _) (fun k o _ mO hk e=>ns ⟨k,o,mO,fM k mO,hk,e⟩)]
  rcases hI with hA|⟨k,xy,gi,hkn,rD⟩|⟨hms,⟨om,kb,mR,wE,agC,rD⟩,hDm,aiK,hDf⟩
  ·by_cases jQ:i<m
   ·obtain⟨hDm,fA,bU,μ,Z,hc,nS,hr⟩:=hA;have aEN:∀k,(D.setIfInBounds i true).getD k false=true->k<m:=fun k hk=>by
     rcases(kf k).1 hk with rfl|h
     ·exact jQ
     exact hDm k h
    have jC:∀t,o.dst=some t->t<a.tmps.size:=fun t h=>by rw[bU];exact wR t h
    have aiV:∀res,eg ops (f i) o res->Region.wanted o (yielded ops a.tmps)=res:=by
     intro res hg;refine ael (L:=⟨gW ops f m D,(f m).heap⟩) hr ?_;unfold eg at hg ⊢
     cases h:o.guard with
     |none=>rw[h]at hg;exact hg
     |some p =>
      obtain⟨j,want⟩:=p;rw[h]at hg;obtain⟨d,q1,q⟩:=hg;have e:(f i).slot d=gW ops f m D d:=afD jQ d (by unfold Oper.looksAt;rw[h];simp[q1]);refine⟨d,q1,?_⟩;show (∃b,gW ops f m D d=_/\_)\/(gW ops f m D d=_/\_);rw[<-e];exact q
    have ad6:∀(r:LV) (v:Value) (w':World) (bE:Nat->Option Nat) (Z':Nat->Prop),(∀t,o.dst=some t->(f (i+1)).slot t=r)->Core W X Z0 bE Z' (f m).heap w' ->
      (∀b,bE b≠none->μ b≠none\/newAt f i b)->(∀t,bJ Z' bE w' (gW ops f m D t) (a.tmps.getD t undef))->bJ Z' bE w' r v ->
      closed (D.setIfInBounds i true)/\(PhA (D.setIfInBounds i true) (a.put o.dst v) w'\/PhB (D.setIfInBounds i true) (a.put o.dst v) w'\/PhC (D.setIfInBounds i true) (a.put o.dst v) w'):=by
     intro r v w' bE Z' sv hc' hnw vc hv;refine⟨aeo,.inl ⟨aEN,by rw[put_defers];exact fA,by rw[uL];exact bU,bE,Z',hc',fun b hb=>?_,fun t=>?_⟩⟩
     ·rcases hnw b hb with h|h
      ·rcases nS b h with h|⟨k,mO,gi,hk⟩
       ·exact qN
       exact .inr ⟨k,mO,(kf k).2 (.inr gi),hk⟩
      exact .inr ⟨i,jQ,(kf i).2 (.inl rfl),h⟩
     rw[aii jQ t];have:=uN (L:=⟨gW ops f m D,(f m).heap⟩) (d:=o.dst) jC vc hv t;split
     ·rename_i kX;rw[sv t kX];rw[kX,iU,if_pos rfl]at this;rw[kX];exact this
     rename_i kX
     cases hdd:o.dst with
     |none=>rw[hdd]at this;exact this
     |some d =>
      rw[hdd]at this kX;rwa[iU,if_neg (fun e=>kX (by rw[e]))]at this
    have aM7:=yf i o ho (by first|exact .inl J|(refine .inr ?_;rintro rfl;simp_all))
    cases aP0:aM7 with
    |skip hg h =>
     rw[aiV false hg];simp only[afF,if_false];exact ad6 (.aY []) undef w μ Z (fun t ht=>by rw[h,ht,iU,if_pos rfl]) hc (fun b hb=>.inl hb) hr ⟨#[],rfl,rfl⟩
    | @val r fr H1 hg hH eM oA h =>
     rw[aiV true hg];simp only[if_true];have r9:H1=(f (i+1)).heap:=by rw[h]
     have afx:H1.le (f m).heap:=by rw[r9];exact hle (i+1) m J (bF _)
     have aMH:=oA.le afx;obtain⟨dst,op,ty,pos,after,g⟩:=o;have arn:∀x∈op.operands,bJ Z μ w ((f i).ev x) (a.eval x):=by
      intro x hx
      cases x with
      |tmp t =>
       have ht:t∈Oper.looksAt ops ⟨dst,op,ty,pos,after,g⟩:=by
        unfold Oper.looksAt;simp only[nC,aaF];exact .inl ⟨.tmp t,by simpa using hx,rfl⟩
       show bJ Z μ w ((f i).slot t) (a.tmps.getD t undef);rw[afD jQ t ht];exact hr t
      |const v=>exact n7 (L:=⟨gW ops f m D,(f m).heap⟩) hr (.const v)
      |func g=>exact n7 (L:=⟨gW ops f m D,(f m).heap⟩) hr (.func g)
      |global g=>exact n7 (L:=⟨gW ops f m D,(f m).heap⟩) hr (.global g)
     refine nB.sound hc aMH arn (fun b blk hb=>?_) dst ty pos after g (fun v w' bE Z' sJ=>?_)
     ·obtain⟨q1,mm,q2,q3⟩:=eM b blk hb;obtain⟨m2,q4,q5,_⟩:=afx b _ q2;refine⟨m2,q4,fun e=>q5 (q3 e),?_⟩
      cases vT:μ b with
      |none=>rfl
      |some id =>
       rcases nS b (by rw[vT];simp)with h0|⟨k,mO,gi,ph,kK⟩
       ·exact absurd q1 (anb 0 i b (bW _) J h0)
       have pW:k≠i:=by rintro rfl;rw[acQ]at gi;cases gi
       by_cases bV:k<i
       ·exact absurd q1 (anb (k+1) i b J J kK)
       have:(f (i+1)).heap b≠none:=by rw[<-r9,q2];simp
       exact absurd ph (anb (i+1) k b J J this)
     refine ad6 r v w' bE Z' (fun t ht=>by rw[h];simp only at ht;subst ht;exact(iU _ _ _ _).trans (if_pos rfl)) sJ.core (fun b hb=>?_) (fun t=>(hr t).mono sJ.hz sJ.hm sJ.hf) sJ.rep;rcases sJ.new b hb with h'|h'
     ·exact .inl h'
     simp only[cZ]at h';obtain⟨⟨b',blk⟩,rM,rfl⟩:=h';obtain⟨q1,mm,q2,_⟩:=eM b' blk rM;exact .inr ⟨q1,by rw[<-r9,q2];simp⟩
    |st hg ki =>
     have:=vi i o ho jQ;rw[ki.tail]at this;cases this
    |stM ir _ _=>cases ir
   have ame:i=m:=by
    by_cases e:i=m
    ·exact e
    rcases yA i o ho J (i-1) J with h|⟨h,_⟩
    ·have:=hA.1 (i-1) (aaJ D ju _ i h adP);omega
    exact absurd h e
   by_cases fM:∀j,j<i->D.getD j false=true
   ·subst ame;exact tail i (bF _) (fun j hj=>⟨fun h=>hA.1 j h,fun h=>fM j h⟩) rfl (hAB D a w hA fM)
   ·
    obtain⟨j0,hj0,aJW⟩:∃j,j<i/\D.getD j false=false:=by
     obtain⟨j,h⟩:=aIa.1 fM;obtain⟨h,h'⟩:=aIV.1 h;exact⟨j,h,by simpa using h'⟩
    have hnf:∀j,j<m->j∉fr->D.getD j false=true:=fun j hj hjf=>by
     rcases yA i o ho J j J with h|⟨_,h⟩
     ·exact aaJ D ju j i h adP
     exact absurd h hjf
    have aGE:j0∈fr:=rE fun h=>by have:=hnf j0 J h;rw[aJW]at this;cases this
    obtain⟨oj0,aNM⟩:=aad j0 J;subst ame;obtain⟨_,hms,ef,_⟩:=aeK j0 oj0 aNM aGE;obtain⟨sL,yS,_⟩:=ef o ho;have mo:∀t,t∈o.looksAt ops->gW ops f i D t=(f i).slot t:=by
     intro t ht;unfold gW;split
     ·rfl
     rename_i ns;refine(hconst 0 i t (bW _) (bF _) (fun k ok _ pW hk e=>ns ⟨k,ok,pW,?_,hk,e⟩)).symm;by_cases hkf:k∈fr
     ·exact absurd ht (((aeK k ok hk hkf).2.2.1 o ho).2.2.1 t e).1
     exact hnf k pW hkf
    have gV:∀y,y∈o.op.operands->St.ev ⟨gW ops f i D,(f i).heap⟩ y=(f i).ev y:=by
     intro y hy
     cases y with
     |tmp t =>
      show gW ops f i D t=(f i).slot t;refine mo t ?_;unfold Oper.looksAt;simp only[nC,aaF];exact .inl ⟨.tmp t,by simpa using hy,rfl⟩
     |const v=>rfl
     |func g=>rfl
     |global g=>rfl
    have hA2:ic n W X Z0 ⟨gW ops f i D,(f i).heap⟩ a w:=by
     obtain⟨_,fA,bU,μ,Z,hc,_,hr⟩:=hA;exact⟨fA,bU,μ,Z,hc,hr⟩
    have agu:∃kb,(o.dst=none->kb=none)/\(∀t,o.dst≠some t->(f (i+1)).slot t=abP kb ((f i).slot t)) /\
      Step P true ops o ⟨gW ops f i D,(f i).heap⟩ ⟨lO ops f i o.dst kb D,(f (i+1)).heap⟩:=by
     have mb:=yf i o ho (by first|exact .inl J|(refine .inr ?_;rintro rfl;simp_all));obtain⟨dst,op,ty,pos,after,g⟩:=o;simp only at sL yS;rcases yS with⟨lY,T,p,x,yS⟩|⟨d,xs,ts,lY,yS⟩
     ·subst sL lY yS;have e1:=gV p cX;have e2:=gV x cX
      cases mb with
      |skip hg h=>cases hg
      |val hg hle eM oA h =>
       cases oA with
       |pure h=>cases h
       |alloc h=>cases h
       |call h=>cases h
      |st hg rX =>
       generalize hfe:f (i+1)=F at rX
       cases rX with
       |store hp hb hs hm hi hy nG hT aZ =>
        refine⟨none,fun _=>rfl,fun t _=>rfl,.st rfl ?_⟩;have:=iI.store (P:=P) (L:=⟨gW ops f i D,(f i).heap⟩) (dst:=none) (x:=x) (e1.trans hp) hb hs hm hi hy (by rw[e2];exact nG) (by rw[e2];exact hT) (by rw[e2];exact aZ);exact this
      |stM ir _ _=>cases ir
     subst sL lY yS
     cases mb with
     |skip hg h=>cases hg
     |val hg hle eM oA h =>
      cases oA with
      |pure h=>cases h
      |alloc h=>cases h
      |call h=>cases h
     |st hg rX =>
      generalize hfe:f (i+1)=F at rX
      cases rX with
      | @eU T U E E' d1 b sz len blk x y news z eH hx hb hs hm hlen gY gh hT hU hz hE fk lD hy bU jl fb =>
       have e1:=gV x mB;have e2:=gV y mB;refine⟨some b,(fun h=>by cases h),fun t ht=>?_,.st rfl ?_⟩
       ·exact(iU _ _ _ _).trans (if_neg (fun e=>ht (by rw[e])))
       have:=iI.eU (P:=P) (L:=⟨gW ops f i D,(f i).heap⟩) (dst:=some d) (x:=x) (y:=y) (e1.trans hx) hb hs hm hlen gY gh hT hU hz hE fk lD (by rw[e2];exact hy) bU jl fb;have hq:(⟨lO ops f i (some d) (some b) D,((((f i).kill b).bO d1 (some ⟨sz,bC b (blk.vals.take len++news),true⟩)).put (some d) (.ref d1 sz 0 (len+news.length))).heap⟩:St) =
         (((St.kill ⟨gW ops f i D,(f i).heap⟩ b).bO d1 (some ⟨sz,bC b (blk.vals.take len++news),true⟩)).put (some d) (.ref d1 sz 0 (len+news.length))):=by
        show (⟨_,_⟩:St)=⟨_,_⟩;congr 1;funext t;unfold lO;rw[hfe,iU];refine Eq.trans ?_ (iU _ _ _ _).symm;by_cases e:t=d
        ·subst e;rw[if_pos rfl,if_pos rfl,if_pos rfl]
        rw[if_neg (by simpa using fun h=>e h.symm),if_neg e];rfl
       rw[hq];exact this
      | @zG T U E E' d1 sz x y news z eH hx gY hT hU hz hE fk lD hy hn bU jl fb =>
       have e1:=gV x mB;have e2:=gV y mB;refine⟨none,(fun h=>by cases h),fun t ht=>?_,.st rfl ?_⟩
       ·exact(iU _ _ _ _).trans (if_neg (fun e=>ht (by rw[e])))
       have:=iI.zG (P:=P) (L:=⟨gW ops f i D,(f i).heap⟩) (dst:=some d) (x:=x) (y:=y) (e1.trans hx) gY hT hU hz hE fk lD (by rw[e2];exact hy) hn bU jl fb;have hq:(⟨lO ops f i (some d) none D,((((f i).bO d1 (some ⟨sz,news,true⟩)).put (some d) (.ref d1 sz 0 news.length))).heap⟩:St) =
         (((St.bO ⟨gW ops f i D,(f i).heap⟩ d1 (some ⟨sz,news,true⟩)).put (some d) (.ref d1 sz 0 news.length))):=by
        show (⟨_,_⟩:St)=⟨_,_⟩;congr 1;funext t;unfold lO;rw[hfe,iU];refine Eq.trans ?_ (iU _ _ _ _).symm;by_cases e:t=d
        ·subst e;rw[if_pos rfl,if_pos rfl,if_pos rfl]
        rw[if_neg (by simpa using fun h=>e h.symm),if_neg e];rfl
       rw[hq];exact this
     |stM ir _ _=>cases ir
    obtain⟨kb,wE,aNw,agu⟩:=agu;refine adp hA2 agu wR (K:=fun a' w'=>closed (D.setIfInBounds i true)/\(PhA (D.setIfInBounds i true) a' w'\/PhB (D.setIfInBounds i true) a' w'\/PhC (D.setIfInBounds i true) a' w')) (fun a' w' kF=>⟨aeo,.inr (.inr ⟨hms,⟨o,kb,ho,wE,aNw,?_⟩,fun k hk=>?_,(kf i).2 (.inl rfl),fun k hk hkf=>(kf k).2 (.inr (hnf k hk hkf))⟩)⟩)
    ·have:gW ops f i (D.setIfInBounds i true)=gW ops f i D:=by
      funext t;unfold gW;congr 1;apply propext;constructor
      ·rintro⟨k,ok,mO,gi,hk,nk⟩;rcases(kf k).1 gi with rfl|h
       ·omega
       exact⟨k,ok,mO,h,hk,nk⟩
      rintro⟨k,ok,mO,gi,hk,nk⟩;exact⟨k,ok,mO,(kf k).2 (.inr gi),hk,nk⟩
     have e:lO ops f i o.dst kb (D.setIfInBounds i true)=lO ops f i o.dst kb D:=by
      funext t;unfold lO;rw[this]
     rw[e];exact kF
    rcases(kf k).1 hk with rfl|h
    ·exact bF _
    have:=hA.1 k h;omega
  ·have hik:k<=i:=by
    by_cases e:i<k
    ·have:=(gi i uT).2 e;rw[acQ]at this;cases this
    omega
   have:k=i:=by
    by_cases e:k=i
    ·exact e
    rcases yA i o ho J k J with h|⟨h,_⟩
    ·have:=aaJ D ju k i h adP;have:=(gi k J).1 this;omega
    omega
   exact tail k xy gi this rD
  ·
   have aER:i≠m:=by rintro rfl;rw[acQ]at aiK;cases aiK
   by_cases jQ:i<m
   ·have hif:i∈fr:=rE fun h=>by have:=hDf i jQ h;rw[acQ]at this;cases this
    obtain⟨_,_,ef,sL,yS⟩:=aeK i o ho hif;obtain⟨_,_,iG,hd2⟩:=ef om mR;have awa:∀t,t∈o.looksAt ops->lO ops f m om.dst kb D t=abP kb ((f i).slot t):=fun t ht=>by
     unfold lO;rw[if_neg (fun e=>hd2 t e ht),<-afD jQ t ht]
    have aww:∀t,Operand.tmp t∈o.op.operands->t∈o.looksAt ops:=fun t hy=>by
     unfold Oper.looksAt;simp only[nC,aaF];exact .inl ⟨.tmp t,by simpa using hy,rfl⟩
    have gV:kb=none->∀y,y∈o.op.operands->(f i).ev y=St.ev ⟨lO ops f m om.dst kb D,(f (m+1)).heap⟩ y:=by
     intro hk y hy
     cases y with
     |tmp t =>
      show (f i).slot t=lO ops f m om.dst kb D t;rw[awa t (aww t hy),hk];rfl
     |const v=>rfl
     |func g=>rfl
     |global g=>rfl
    have aEq:∀y,y∈o.op.operands->St.ev ⟨lO ops f m om.dst kb D,(f (m+1)).heap⟩ y=abP kb ((f i).ev y):=by
     intro y hy
     cases y with
     |tmp t=>exact awa t (aww t hy)
     |const v =>
      show (if _ then _ else _:LV)=abP kb (if _ then _ else _)
      cases kb<;>split<;>rfl
     |func g=>cases kb<;>rfl
     |global g=>cases kb<;>rfl
    by_cases au5:∃r,nB P (f (m+1)).heap (f i).ev (o.dst.getD 0) o.op r []/\(∀t,o.dst=some t->(f (i+1)).slot t=r)/\om.dst=none
    ·obtain⟨r,oA,sv,hnd⟩:=au5;have nN:=wE hnd;obtain⟨fA,bU,μ,Z,hc,hr⟩:=rD;have jC:∀t,o.dst=some t->t<a.tmps.size:=fun t h=>by rw[bU];exact wR t h
     have aK8:Region.wanted o (yielded ops a.tmps)=true:=ael (L:=⟨lO ops f m om.dst kb D,(f (m+1)).heap⟩) hr (by unfold eg;rw[sL]);rw[aK8];simp only[if_true];have sJ:=aii jQ;obtain⟨dst,op,ty,pos,after,g⟩:=o;have arn:∀x∈op.operands,bJ Z μ w ((f i).ev x) (a.eval x):=by
      intro x hx;have h1:=n7 (L:=⟨lO ops f m om.dst kb D,(f (m+1)).heap⟩) hr x;rwa[<-gV nN x hx]at h1
     refine nB.sound hc oA arn (fun b blk hb=>by cases hb) dst ty pos after g (fun v w' bE Z' ahI=>?_);refine⟨aeo,.inr (.inr ⟨hms,⟨om,kb,mR,wE,agC,by rw[put_defers];exact fA,by rw[uL];exact bU,bE,Z',ahI.core,fun t=>?_⟩,fun k hk=>?_,(kf m).2 (.inr aiK),fun k hk hkf=>(kf k).2 (.inr (hDf k hk hkf))⟩)⟩
     ·have h1:=uN (L:=⟨lO ops f m om.dst kb D,(f (m+1)).heap⟩) (d:=dst) jC (fun t=>(hr t).mono ahI.hz ahI.hm ahI.hf) ahI.rep t;have e:lO ops f m om.dst kb (D.setIfInBounds i true) t=(St.put ⟨lO ops f m om.dst kb D,(f (m+1)).heap⟩ dst r).slot t:=by
       unfold lO;rw[sJ t,hnd,nN]
       cases dst with
       |none=>rw[if_neg (c:=(none:Option Tmp)=some t) aE,if_neg (c:=(none:Option Tmp)=some t) aE];rfl
       |some d =>
        rw[if_neg (c:=(none:Option Tmp)=some t) aE,iU];by_cases e:t=d
        ·subst e;rw[if_pos rfl,if_pos rfl];exact sv t rfl
        rw[if_neg (c:=(some d:Option Tmp)=some t) (by simpa using fun h=>e h.symm),if_neg e];show abP none (gW ops f m D t)=if (none:Option Tmp)=some t then(f (m+1)).slot t else abP none (gW ops f m D t)
        rw[if_neg aE]
      show bJ Z' bE w' (lO ops f m om.dst kb (D.setIfInBounds i true) t) _;rw[e];exact h1
     rcases(kf k).1 hk with rfl|h
     ·omega
     exact hDm k h
    replace yS:(∃x,o.op=.move x)\/(∃q T x y U,o.op=.binOp q T x y U/\∀om,ops[m]?=some om->om.dst=none)\/(∃x i,o.op=.extract x i/\∀om,ops[m]?=some om->om.dst=none):=by
     rcases yS with h|h|h|⟨h1,r,h2,h3⟩
     ·exact qN
     ·exact .inr (.inl h)
     ·exact .inr (.inr h)
     exact absurd ⟨r,h2,h3,h1 om mR⟩ au5
    have agu:Step P true ops o ⟨lO ops f m om.dst kb D,(f (m+1)).heap⟩ ⟨lO ops f m om.dst kb (D.setIfInBounds i true),(f (m+1)).heap⟩:=by
     have mb:=yf i o ho (by first|exact .inl J|(refine .inr ?_;rintro rfl;simp_all));have sJ:=aii jQ;obtain⟨dst,op,ty,pos,after,g⟩:=o;simp only at sL yS sJ iG;subst sL;have amK:∀r,aM P (f (m+1)).heap (St.ev ⟨lO ops f m om.dst kb D,(f (m+1)).heap⟩) op (abP kb r)->(∀t,dst=some t->(f (i+1)).slot t=r)->Step P true ops ⟨dst,op,ty,pos,after,none⟩ ⟨lO ops f m om.dst kb D,(f (m+1)).heap⟩ ⟨lO ops f m om.dst kb (D.setIfInBounds i true),(f (m+1)).heap⟩:=by
      intro r hr sv;refine .val rfl (cd.le_refl _) (fr:=[]) (fun _ _ h=>by cases h) (.pure hr) ?_;show (_:St)=⟨_,_⟩;congr 1;funext t;unfold lO;rw[sJ t]
      cases dst with
      |none=>rw[if_neg (c:=(none:Option Tmp)=some t) aE];rfl
      |some d =>
       show _=(St.put _ (some d) _).slot t;rw[iU];by_cases e:t=d
       ·subst e;rw[if_neg (iG t rfl).2,if_pos rfl,if_pos rfl,sv t rfl]
       rw[if_neg (c:=(some d:Option Tmp)=some t) (by simpa using fun h=>e h.symm),if_neg e]
     cases mb with
     |skip hg h=>cases hg
     | @val r fr' H1 hg hle eM oA h =>
      have sv:∀t,dst=some t->(f (i+1)).slot t=r:=fun t ht=>by rw[h];simp only;subst ht;exact(iU _ _ _ _).trans (if_pos rfl)
      rcases yS with⟨x,rfl⟩|⟨q,T,x,y,U,rfl,hnd⟩|⟨x,i,rfl,hnd⟩
      ·cases oA with
       |pure hp =>
        cases hp with
        |move =>
         refine amK _ ?_ sv;rw[<-aEq x cX];exact .move x
       |alloc hp=>cases hp
       |call hp=>cases hp
      ·have nN:=wE (hnd om mR);have e1:=gV nN x cX;have e2:=gV nN y cX
       cases oA with
       |pure hp =>
        refine amK _ ?_ sv;rw[nN]at e1 e2 ⊢
        cases hp with
        |bin hx hy hb=>exact .bin (e1.symm.trans hx) (e2.symm.trans hy) hb
        |sh hx hy hb=>exact .sh (e1.symm.trans hx) (e2.symm.trans hy) hb
        |beq hx hy hb=>exact .beq (e1.symm.trans hx) (e2.symm.trans hy) hb
        |bne hx hy hb=>exact .bne (e1.symm.trans hx) (e2.symm.trans hy) hb
       |alloc hp=>cases hp
       |call hp=>cases hp
      have nN:=wE (hnd om mR);have e1:=gV nN x cX
      cases oA with
      |pure hp =>
       refine amK _ ?_ sv;rw[nN]at e1 ⊢
       cases hp with
       |extract ht hr aZ=>exact .extract (e1.symm.trans ht) hr aZ
      |alloc hp=>cases hp
      |call hp=>cases hp
     |st hg rX=>rcases yS with⟨x,rfl⟩|⟨q,T,x,y,U,rfl,_⟩|⟨x,i,rfl,_⟩<;>cases rX
     |stM ir _ _=>cases ir
    refine adp rD agu wR (K:=fun a' w'=>closed (D.setIfInBounds i true)/\(PhA (D.setIfInBounds i true) a' w'\/PhB (D.setIfInBounds i true) a' w'\/PhC (D.setIfInBounds i true) a' w')) (fun a' w' kF=>⟨aeo,.inr (.inr ⟨hms,⟨om,kb,mR,wE,agC,kF⟩,fun k hk=>?_,(kf m).2 (.inr aiK),fun k hk hkf=>(kf k).2 (.inr (hDf k hk hkf))⟩)⟩);rcases(kf k).1 hk with rfl|h
    ·omega
    exact hDm k h
   have fM:∀j,j<i->D.getD j false=true:=fun j hj=>by
    rcases yA i o ho J j hj with h|⟨h,_⟩
    ·exact aaJ D ju j i h adP
    exact absurd h aER
   have ame:i=m+1:=by
    by_cases e:i=m+1
    ·exact e
    have:=hDm (m+1) (fM (m+1) J);omega
   refine tail (m+1) J (fun j hj=>⟨fun h=>by have:=hDm j h;omega,fun h=>fM j J⟩) ame.symm ?_;have mo:=aIz (fun j hj=>fM j J);have:(⟨lO ops f m om.dst kb D,(f (m+1)).heap⟩:St)=f (m+1):=by
    show (⟨_,_⟩:St)=⟨_,_⟩;congr 1;funext t;unfold lO;split
    ·rfl
    rename_i e;rw[mo t,agC t e]
   rw[<-this];exact rD
 ·
  rintro D a w ze ⟨ju,hI⟩ fM;rcases hI with hA|⟨k,xy,gi,hkn,rD⟩|⟨hms,⟨om,kb,mR,wE,agC,rD⟩,hDm,aiK,hDf⟩
  ·have aEM:m=ops.size:=by
    by_cases e:m=ops.size
    ·exact e
    have:=hA.1 m (fM m J);omega
   exact hq _ a w (aEM▸fK) (hAB D a w hA (fun i hi=>fM i J))
  ·have:k=ops.size:=by
    by_cases e:k=ops.size
    ·exact e
    have:=(gi k J).1 (fM k J);omega
   subst this;exact hq _ a w fK rD
  have iX:m+1=ops.size:=by
   by_cases e:m+1=ops.size
   ·exact e
   have:=hDm (m+1) (fM (m+1) J);omega
  have mo:gW ops f m D=(f m).slot:=by
   funext t;unfold gW;split
   ·rfl
   rename_i ns;rw[hconst 0 m t (bW _) (bF _) (fun k o _ mO hk e=>ns ⟨k,o,mO,fM k J,hk,e⟩)]
  have:(⟨lO ops f m om.dst kb D,(f (m+1)).heap⟩:St)=f (m+1):=by
   show (⟨_,_⟩:St)=⟨_,_⟩;congr 1;funext t;unfold lO;split
   ·rfl
   rename_i e;rw[mo,agC t e]
  exact hq _ a w (iX▸fK) (this▸rD)
 ·
  refine aP List.countP_le_length ?_;simp
 ·
  have hD0:∀i,(uo ops.size false).getD i false=false:=fun i=>by
   rw[dQ,Array.getElem?_replicate];split<;>rfl
  refine⟨fun i o _ h=>(by rw[hD0]at h;cases h),.inl ⟨fun i h=>(by rw[hD0]at h;cases h),?_⟩⟩;rw[<-f0]at hs;obtain⟨fA,bU,μ,Z,hc,hr⟩:=hs;obtain⟨Z1,k1,k2⟩:=hc.adk (hle 0 m (bW _) (bF _));have aEF:∀(w':World),w'.heap=w.heap->Frame Z μ w w':=fun w' h=>⟨fun _ _=>by rw[h],fun _ id _ c _ _ hh=>⟨c,by rw[h];exact hh,rfl⟩⟩;have aM4:∀(w':World),w'.heap=w.heap->Frame Z1 μ w w':=fun w' h=>⟨fun _ _=>by rw[h],fun _ id _ c _ _ hh=>⟨c,by rw[h];exact hh,rfl⟩⟩;refine⟨fA,bU,μ,Z1,⟨⟨k1.cV.os,k1.cV.tape,k1.cV.output,k1.cV.size,k1.cV.block,k1.cV.yl⟩,k1.m9,k1.kU,k1.nc,k1.inj,k1.own,k1.x0,k1.pY,k1.x1,k1.ku,k1.b9,fun b id hb=>?_⟩,fun b hb=>?_,fun t=>?_⟩
  ·obtain⟨blk,g1,g2⟩:=k1.heap b id hb;exact⟨blk,g1,g2.mono (fun _ h=>h) (fun _ _ h=>h) (aM4 _ rfl) rfl⟩
  ·left;obtain⟨id,hid⟩:=anY.1 hb;obtain⟨blk,g1,_⟩:=hc.heap b id hid;rw[g1];simp
  have:gW ops f m (uo ops.size false) t=(f 0).slot t:=by
   unfold gW;rw[if_neg];rintro⟨i,o,_,h,_⟩;rw[hD0]at h;cases h
  rw[this];exact(hr t).mono k2 (fun _ _ h=>h) (aEF { w with drawn:=w.drawn+1 } rfl)
theorem aup{m id:Nat}{fr:List Nat}{K:St->Prop}{Q:Exit->Act->World->Prop}{L:St}{f:Nat->St}(jK:P.follows .mixedOrders=true)(hs:ic n W X Z0 L a w)
  (f0:f 0=L) (yf:∀i o,ops[i]?=some o->Step P true ops o (f i) (f (i+1))) (fK:K (f ops.size)) (zr:m<=ops.size) (xX:∀i o,ops[i]?=some o->∀j∈kh o,j<i)
  (yA:∀i o,ops[i]?=some o->m<=i->∀j,j<i->oa ops j i\/(i=m/\j∈fr)) (vi:∀i o,ops[i]?=some o->i<m->wK o.op=false)
  (xj:∀i j oi oj d,ops[i]?=some oi->ops[j]?=some oj->i<m->j<m->i≠j->oj.dst=some d->oi.dst≠some d/\(d∈oi.looksAt ops->if j<i then oa ops j i else oa ops i j))
  (aeK:∀j o,ops[j]?=some o->j∈fr->j<m/\m<ops.size/\(∀om,ops[m]?=some om->om.guard=none/\((om.dst=none/\∃T p x,om.op=.store T p x)\/∃d xs ts,om.dst=some d/\om.op=.call ⟨.builtin .append,xs,ts⟩) /\
    (∀d,o.dst=some d->d∉om.looksAt ops/\om.dst≠some d)/\∀d,om.dst=some d->d∉o.looksAt ops) /\
   o.guard=none/\((∃x,o.op=.move x)\/(∃q T x y U,o.op=.binOp q T x y U/\∀om,ops[m]?=some om->om.dst=none)\/(∃x i,o.op=.extract x i/\∀om,ops[m]?=some om->om.dst=none) \/
    ((∀om,ops[m]?=some om->om.dst=none)/\∃r,nB P (f (m+1)).heap (f j).ev (o.dst.getD 0) o.op r []/\∀t,o.dst=some t->(f (j+1)).slot t=r)))
  (hd:∀o∈ops.toList,∀t,o.dst=some t->t<n) (hq:∀L' a' w',K L'->ic n W X Z0 L' a' w'->Q .normal a' w') :
  (Code.region id ops true).wp P Q a w :=
 apd jK hs f0 (fun i o ho _=>yf i o ho) (fun i o ho _ a w K Q rD wR hK=>adp rD (yf i o ho) wR hK) fK zr xX yA vi xj aeK hd hq
theorem aH1{m id:Nat}{fr:List Nat}{K:St->Prop}{Q:Exit->Act->World->Prop}{L:St}(jK:P.follows .mixedOrders=true)(fe:z8 ops m fr=true)(hs:ic n W X Z0 L a w)
  (hL:opsL P true ops ops.toList L K) (hd:∀o∈ops.toList,∀t,o.dst=some t->t<n) (hq:∀L' a' w',K L'->ic n W X Z0 L' a' w'->Q .normal a' w') :
  (Code.region id ops true).wp P Q a w:=by
 obtain⟨f,f0,fs,fK⟩:=acr _ _ hL;have yf:∀i o,ops[i]?=some o->Step P true ops o (f i) (f (i+1)):=fun i o h=>fs i o mA;rw[pT]at fK;unfold z8 at fe;simp only[jS,decide_eq_true_eq,nU,rm]at fe;obtain⟨⟨⟨zr,h1⟩,h2⟩,h3⟩:=fe;have jr:∀i o,ops[i]?=some o->ops.getD i default=o:=fun i o h=>by rw[dQ,h];rfl
 have pO:∀i o,ops[i]?=some o->i<ops.size:=fun i o h=>(lX.1 h).1;have aad:∀i,i<ops.size->∃o,ops[i]?=some o:=fun i h=>⟨_,oX h⟩;have xX:∀i o,ops[i]?=some o->∀j∈kh o,j<i:=fun i o h j hj=>by
  have:=(h1 i (pO i o h)).1 j (by rw[jr i o h];exact hj);simpa using this
 have oP:=aeM ops ops.toList [] (fun i=>by simp) (fun i t h=>by simp at h);have yA:∀i o,ops[i]?=some o->m<=i->∀j,j<i->oa ops j i\/(i=m/\j∈fr):=fun i o h hmi j hj=>by
  have:=(h1 i (pO i o h)).2;rw[if_pos hmi]at this;have:=(nU.1 this) j (by simpa using hj);simp only[pI,jS,beq_iff_eq,qJ]at this;rcases this with g|g
  ·exact .inl (oP i j (by simpa using g))
  exact .inr g
 have vi:∀i o,ops[i]?=some o->i<m->wK o.op=false:=fun i o h hmi=>by
  have:=(h1 i (pO i o h)).2;rw[if_neg J,jr i o h]at this;simpa using this
 have xj:∀i j oi oj d,ops[i]?=some oi->ops[j]?=some oj->i<m->j<m->i≠j->oj.dst=some d->oi.dst≠some d/\(d∈oi.looksAt ops->if j<i then oa ops j i else oa ops i j):=by
  intro i j oi oj d hi hj jQ nD aZ q8;have:=h2 i jQ j nD;simp only[pI,beq_iff_eq]at this;rcases this with h|h
  ·exact absurd h aZ
  unfold acf at h;rw[jr j oj hj,jr i oi hi,q8]at h;simp only[jS,bne_iff_ne,ne_eq,pI,yK]at h;refine⟨h.1,fun uE=>?_⟩;rcases h.2 with h'|h'
  ·rw[qJ.2 uE]at h';cases h'
  split
  ·rename_i bV;rw[if_pos bV]at h';exact oP i j h'
  rename_i bV;rw[if_neg bV]at h';exact oP j i h'
 have aeK:∀j o,ops[j]?=some o->j∈fr->j<m/\m<ops.size/\(∀om,ops[m]?=some om->om.guard=none/\((om.dst=none/\∃T p x,om.op=.store T p x)\/∃d xs ts,om.dst=some d/\om.op=.call ⟨.builtin .append,xs,ts⟩) /\
    (∀d,o.dst=some d->d∉om.looksAt ops/\om.dst≠some d)/\∀d,om.dst=some d->d∉o.looksAt ops) /\
   o.guard=none/\((∃x,o.op=.move x)\/(∃q T x y U,o.op=.binOp q T x y U/\∀om,ops[m]?=some om->om.dst=none)\/(∃x i,o.op=.extract x i/\∀om,ops[m]?=some om->om.dst=none) \/
    ((∀om,ops[m]?=some om->om.dst=none)/\∃r,nB P (f (m+1)).heap (f j).ev (o.dst.getD 0) o.op r []/\∀t,o.dst=some t->(f (j+1)).slot t=r)):=by
  intro j o ho hj;simp only[pI,List.isEmpty_iff,jS,decide_eq_true_eq,nU]at h3;rcases h3 with h3|⟨⟨hm,ef⟩,fM⟩
  ·rw[h3]at hj;cases hj
  obtain⟨nD,hf⟩:=fM j hj;unfold axQ at hf;rw[jr j o ho]at hf;simp only[jS,zX]at hf;obtain⟨⟨⟨hf1,sK⟩,v7⟩,hf4⟩:=hf;refine⟨nD,hm,fun om mR=>?_,hf1,?_⟩
  ·unfold aBd at ef;rw[jr m om mR]at ef v7 hf4;simp only[jS,zX]at ef;refine⟨ef.1,?_,fun d hd=>⟨fun uE=>?_,fun e=>?_⟩,fun d hd uE=>?_⟩
   ·have:=ef.2;split at this
    ·rename_i T p x e;exact .inl ⟨zX.1 this,T,p,x,e⟩
    ·rename_i xs ts e;obtain⟨d,hd⟩:=Option.isSome_iff_exists.1 this;exact .inr ⟨d,xs,ts,hd,e⟩
    cases this
   ·rw[hd]at v7;simp only[qJ.2 uE]at v7
    cases v7
   ·rw[hd,e]at v7;simp at v7
   rw[hd]at hf4;simp only[qJ.2 uE]at hf4
   cases hf4
  split at sK
  ·rename_i x e;exact .inl ⟨x,e⟩
  ·rename_i q T x y U e;exact .inr (.inl ⟨q,T,x,y,U,e,fun om mR=>by rw[jr m om mR]at sK;exact zX.1 sK⟩)
  ·rename_i x i e;exact .inr (.inr (.inl ⟨x,i,e,fun om mR=>by rw[jr m om mR]at sK;exact zX.1 sK⟩))
  cases sK
 exact aup jK hs f0 yf fK zr xX yA vi xj aeK hd hq
def aBt(ops:Array Oper)(m j:Nat):Bool :=
 (ops.getD j default).guard.isNone&&(match (ops.getD j default).op with | .makeSlice ..=>false | .buildSlice ..=>false | .box ..=>false | .alloc ..=>false|_=>true) &&
 (match (ops.getD j default).dst with|some d=>!((ops.getD m default).looksAt ops).contains d|none=>false)
def aob(ops:Array Oper)(m:Nat)(fr:List Nat):Bool :=
 decide (m<ops.size) &&
 (cN ops.size).all (fun i=>(kh (ops.getD i default)).all (·<i) &&
  (if m<=i then(cN i).all (fun j=>((bef ops.toList []).getD i 0).testBit j||(i==m&&fr.contains j))else !wK (ops.getD i default).op)) &&
 ((cN m).all fun i=>(cN m).all fun j=>i==j||acf ops (bef ops.toList []) i j) &&
 ((ops.getD m default).guard.isNone&&(ops.getD m default).dst.isNone&&(match (ops.getD m default).op with | .store ..=>true|_=>false)) &&
 (fr.all fun j=>decide (j<m)&&aBt ops m j)
theorem aF8{o:Oper}{L L':St}{b:Nat}{x:aV}(ht:wK o.op=false)(hL:L.heap b=none)(hL':L'.heap b=none)(h:Step P true ops o L L'):Step P true ops o (L.bO b (some x)) (L'.bO b (some x)):=by
 have nG:∀(d:Option Tmp) (r:LV),(L.put d r).bO b (some x)=(L.bO b (some x)).put d r:=fun d r=>by cases d<;>rfl
 have hG:∀res,eg ops L o res->eg ops (L.bO b (some x)) o res:=fun res h=>h
 cases h with
 |skip hg h=>exact .skip (hG _ hg) (by rw[h,nG])
 | @val r fr H1 hg hle eM ho h =>
  have r9:H1 b=none:=by rw[h]at hL';exact hL'
  have aq6:∀{A B:cd},A.le B->A b=none->cd.le (fun c=>if c=b then some x else A c) (fun c=>if c=b then some x else B c):=fun {A B} cm hA c blk hc=>by
   change (if c=b then some x else A c)=some blk at hc;show ∃m,(if c=b then some x else B c)=_/\_;by_cases e:c=b
   ·rw[if_pos e]at hc ⊢
    cases hc
    exact⟨x.mt,rfl,fun h=>h,fun h1 h2=>by rw[h1]at h2;cases h2⟩
   rw[if_neg e]at hc ⊢;exact cm c blk hc
  have ahj:H1.le (fun c=>if c=b then some x else H1 c):=fun c blk hc=>by
   have e:c≠b:=fun e=>by subst e;rw[r9]at hc;cases hc
   exact⟨blk.mt,by show (if c=b then _ else _)=_;rw[if_neg e];exact hc,fun h=>h,fun h1 h2=>by rw[h1]at h2;cases h2⟩
  refine .val (r:=r) (fr:=fr) (H1:=fun c=>if c=b then some x else H1 c) (hG _ hg) (aq6 hle hL) (fun c blk hc=>?_) (ho.le ahj) (by rw[h];cases o.dst<;>rfl);obtain⟨q1,mm,q2,q3⟩:=eM c blk hc;have e:c≠b:=fun e=>by subst e;rw[r9]at q2;cases q2
  exact⟨by show (if c=b then _ else _)=_;rw[if_neg e];exact q1,mm,by show (if c=b then _ else _)=_;rw[if_neg e];exact q2,q3⟩
 |st hg ho =>
  obtain⟨dst,op,ty,pos,after,g⟩:=o;rw[ho.tail]at ht;cases ht
 |stM ir _ _=>cases ir
theorem aNg{m id b:Nat}{fr:List Nat}{x0:aV}{K:St->Prop}{Q:Exit->Act->World->Prop}{L:St}(jK:P.follows .mixedOrders=true)(fe:aob ops m fr=true)(hs:ic n W X Z0 L a w)(hb:L.heap b=some x0)
  (hL:opsL P true ops (ops.toList.take m) (L.bO b none) (fun Lm=>Lm.heap b=none/\(fr.all fun j=>match (ops.getD j default).dst with|some d=>(Lm.heap (dv d 1)).isNone|none=>true)=true /\
   (∀om,ops[m]?=some om->∃T p v i o,om.op=.store T p v/\Lm.ev p=.aB b x0.sz i o)/\opsL P true ops (ops.toList.drop m) (Lm.bO b (some x0)) K))
  (hd:∀o∈ops.toList,∀t,o.dst=some t->t<n) (hq:∀L' a' w',K L'->ic n W X Z0 L' a' w'->Q .normal a' w') :
  (Code.region id ops true).wp P Q a w:=by
 obtain⟨g,g0,gs,gK,gN,gP,gT⟩:=acr _ _ hL;unfold aob at fe;simp only[jS,decide_eq_true_eq,nU,rm]at fe;obtain⟨⟨⟨⟨zr,h1⟩,h2⟩,ef⟩,h3⟩:=fe;have jr:∀i o,ops[i]?=some o->ops.getD i default=o:=fun i o h=>by rw[dQ,h];rfl
 have pO:∀i o,ops[i]?=some o->i<ops.size:=fun i o h=>(lX.1 h).1;have hlen:(ops.toList.take m).length=m:=by rw[fH,pT];omega
 rw[hlen]at gK gN gP gT;obtain⟨e,e0,es,eK⟩:=acr _ _ gT;have gs':∀i o,ops[i]?=some o->i<m->Step P true ops o (g i) (g (i+1)):=fun i o h hi=>gs i o (by rw[List.getElem?_take,if_pos hi];simpa using h);have vi:∀i o,ops[i]?=some o->i<m->wK o.op=false:=fun i o h hmi=>by
  have:=(h1 i (pO i o h)).2;rw[if_neg J,jr i o h]at this;simpa using this
 have aad:∀i,i<ops.size->∃o,ops[i]?=some o:=fun i h=>⟨_,oX h⟩;have gle:∀i j,i<=j->j<=m->(g i).heap.le (g j).heap:=by
  intro i j ud
  induction j with
  |zero =>
   intro _;have:i=0:=J;subst this;exact cd.le_refl _
  |succ j ih =>
   intro nD;by_cases q:i=j+1
   ·subst q;exact cd.le_refl _
   obtain⟨o,ho⟩:=aad j J;exact cd.le_trans (ih J J) (ars (vi j o ho J) (gs' j o ho J)).1
 have gb:∀i,i<=m->(g i).heap b=none:=fun i hi=>by
  cases hq:(g i).heap b with
  |none=>rfl
  |some blk =>
   obtain⟨mm,q,_⟩:=gle i m hi (bF _) b blk hq;rw[gK]at q;cases q
 let f:Nat->St:=fun i=>if i<=m then(g i).bO b (some x0)else e (i-m)
 have fm:∀i,i<=m->f i=(g i).bO b (some x0):=fun i hi=>if_pos hi;have ft:∀i,m<=i->f i=e (i-m):=fun i hi=>by
  show (if i<=m then _ else _)=_;by_cases q:i<=m
  ·have:i=m:=J;subst this;rw[if_pos q,uz,e0]
  rw[if_neg q]
 have f0:f 0=L:=by
  rw[fm 0 (bW _),g0];obtain⟨sl,hp⟩:=L;show (⟨sl,fun c=>if c=b then some x0 else(if c=b then none else hp c)⟩:St)=⟨sl,hp⟩;congr 1;funext c;split
  ·rename_i q;subst q;exact hb.symm
  rfl
 have yf:∀i o,ops[i]?=some o->Step P true ops o (f i) (f (i+1)):=fun i o ho=>by
  by_cases jQ:i<m
  ·rw[fm i J,fm (i+1) J];exact aF8 (vi i o ho jQ) (gb i J) (gb (i+1) J) (gs' i o ho jQ)
  rw[ft i J,ft (i+1) J,show i+1-m=i-m+1 by omega];refine es (i-m) o ?_;rw[List.getElem?_drop,show m+(i-m)=i by omega];simpa using ho
 have fK:K (f ops.size):=by
  rw[ft _ J];rw[jD,pT]at eK;exact eK
 have xX:∀i o,ops[i]?=some o->∀j∈kh o,j<i:=fun i o h j hj=>by
  have:=(h1 i (pO i o h)).1 j (by rw[jr i o h];exact hj);simpa using this
 have oP:=aeM ops ops.toList [] (fun i=>by simp) (fun i t h=>by simp at h);have yA:∀i o,ops[i]?=some o->m<=i->∀j,j<i->oa ops j i\/(i=m/\j∈fr):=fun i o h hmi j hj=>by
  have:=(h1 i (pO i o h)).2;rw[if_pos hmi]at this;have:=(nU.1 this) j (by simpa using hj);simp only[pI,jS,beq_iff_eq,qJ]at this;rcases this with g|g
  ·exact .inl (oP i j (by simpa using g))
  exact .inr g
 have xj:∀i j oi oj d,ops[i]?=some oi->ops[j]?=some oj->i<m->j<m->i≠j->oj.dst=some d->oi.dst≠some d/\(d∈oi.looksAt ops->if j<i then oa ops j i else oa ops i j):=by
  intro i j oi oj d hi hj jQ nD aZ q8;have:=h2 i jQ j nD;simp only[pI,beq_iff_eq]at this;rcases this with h|h
  ·exact absurd h aZ
  unfold acf at h;rw[jr j oj hj,jr i oi hi,q8]at h;simp only[jS,bne_iff_ne,ne_eq,pI,yK]at h;refine⟨h.1,fun uE=>?_⟩;rcases h.2 with h'|h'
  ·rw[qJ.2 uE]at h';cases h'
  split
  ·rename_i bV;rw[if_pos bV]at h';exact oP i j h'
  rename_i bV;rw[if_neg bV]at h';exact oP j i h'
 have apU:∀om,ops[m]?=some om->om.guard=none/\om.dst=none/\∃T p x,om.op=.store T p x:=fun om mR=>by
  rw[jr m om mR]at ef;refine⟨zX.1 ef.1.1,zX.1 ef.1.2,?_⟩;have:=ef.2;split at this
  ·rename_i T p x q;exact⟨T,p,x,q⟩
  cases this
 have hHm:(g m).heap.le (f (m+1)).heap:=by
  obtain⟨om,mR⟩:=aad m zr;obtain⟨q1,q2,_⟩:=apU om mR;obtain⟨T,p,v,ii,oo,q3,q4⟩:=gP om mR;have mb:=yf m om mR;rw[fm m (bF _)]at mb;obtain⟨dst,op,ty,pos,after,gd⟩:=om;simp only at q1 q2 q3;subst q1 q2 q3;intro c blk hc;have nz:c≠b:=fun q=>by subst q;rw[gK]at hc;cases hc
  cases mb with
  |skip hg h=>cases hg
  |val hg hle eM oA h =>
   cases oA with
   |pure h=>cases h
   |alloc h=>cases h
   |call h=>cases h
  |st hg rX =>
   generalize hfe:f (m+1)=F at rX ⊢
   cases rX with
   |store hp xH qz hm hi hy nG hT aZ =>
    have e1:(LV.aB _ _ _ _)=LV.aB b x0.sz ii oo:=hp.symm.trans q4
    cases e1
    exact⟨blk.mt,by
     show (if c=b then _ else if c=b then _ else(g m).heap c)=_;rw[if_neg nz,if_neg nz];exact hc,fun h=>h,fun h1 h2=>by rw[h1]at h2;cases h2⟩
  |stM ir _ _=>cases ir
 refine aup jK hs f0 yf fK J xX yA vi xj ?_ hd hq;intro j o ho hj;have hj3:=h3 j hj;obtain⟨nD,hf⟩:=hj3;unfold aBt at hf;rw[jr j o ho]at hf;simp only[jS,zX]at hf;obtain⟨⟨hf1,sK⟩,v7⟩:=hf;refine⟨nD,zr,fun om mR=>?_,hf1,.inr (.inr (.inr ⟨fun om mR=>(apU om mR).2.1,?_⟩))⟩
 ·obtain⟨q1,q2,q3⟩:=apU om mR;refine⟨q1,.inl ⟨q2,q3⟩,fun d hdd=>⟨fun uE=>?_,fun q=>by rw[q2]at q;cases q⟩,fun d hdd=>by rw[q2]at hdd;cases hdd⟩;rw[hdd,jr m om mR]at v7;simp only[qJ.2 uE]at v7
  cases v7
 have hsj:=gs' j o ho nD;have gV:∀y,(f j).ev y=(g j).ev y:=fun y=>by rw[fm j J];rfl
 have mo:∀t,(f (j+1)).slot t=(g (j+1)).slot t:=fun t=>by rw[fm (j+1) J];rfl
 cases hsj with
 |skip hg h=>unfold eg at hg;rw[hf1]at hg;cases hg
 | @val r fr' H1 hg hle eM oA h =>
  have r9:H1=(g (j+1)).heap:=by rw[h]
  have afx:H1.le (f (m+1)).heap:=by rw[r9];exact cd.le_trans (gle (j+1) m J (bF _)) hHm
  have sv:∀t,o.dst=some t->(f (j+1)).slot t=r:=fun t ht=>by rw[mo,h];simp only[ht];exact(iU _ _ _ _).trans (if_pos rfl)
  refine⟨r,?_,sv⟩;have aOB:(f j).ev=(g j).ev:=funext gV;rw[aOB];have ae8:=oA.le afx;obtain⟨dst,op,ty,pos,after,gd⟩:=o;simp only at sK ae8 oA eM
  cases ae8 with
  |pure h=>exact .pure h
  |alloc h=>cases h<;>cases sK
  | @call bs h =>
   cases bs with
   |nil=>exact .call h
   |cons x bs =>
    exfalso;obtain⟨_,mm,q2,_⟩:=eM (dv (dst.getD 0) 1) x aE;have ke:=nU.1 gN j hj;rw[jr j _ ho]at ke;simp only at ke;rw[r9]at q2;obtain⟨_,q4,_⟩:=gle (j+1) m J (bF _) _ _ q2
    cases dst with
    |none=>simp at v7
    |some d =>
     simp only[acE]at q4;change ((g m).heap (dv d 1)).isNone=true at ke;rw[q4]at ke;cases ke
 |st hg yc =>
  have:=vi j o ho nD;obtain⟨dst,op,ty,pos,after,gd⟩:=o;rw[yc.tail]at this;cases this
 |stM ir _ _=>cases ir
def jA(P:Program)(ops:Array Oper):Nat->Array Bool->St->(St->Prop)->Prop
 |0,D,L,K=>Region.ready .any ops D=[]/\K L
 |fuel+1,D,L,K=>(Region.ready .any ops D=[]->K L)/\∀i∈Region.ready .any ops D,∃o L',ops[i]?=some o/\Step P false ops o L L'/\jA P ops fuel (D.setIfInBounds i true) L' K
theorem ar5{K K':St->Prop}(hk:∀L,K L->K' L):∀(fuel:Nat) (D:Array Bool) (L:St),jA P ops fuel D L K->jA P ops fuel D L K'
 |0,D,L,h=>⟨h.1,hk L h.2⟩
 |fuel+1,D,L,h=>⟨fun e=>hk L (h.1 e),fun i hi=>by obtain⟨o,L',h1,h2,h3⟩:=h.2 i hi;exact⟨o,L',h1,h2,ar5 hk fuel _ L' h3⟩⟩
theorem ic.drew{L:St}{w':World}(hs:ic n W X Z0 L a w)(hh:w'.heap=w.heap)(h1:w'.os=w.os)(h2:w'.tape=w.tape)(h3:w'.output=w.output):ic n W X Z0 L a w':=by
 obtain⟨fA,bU,μ,Z,hc,hr⟩:=hs;have eM:Frame Z μ w w':=⟨fun _ _=>by rw[hh],fun _ id _ c _ _ h=>⟨c,by rw[hh];exact h,rfl⟩⟩;refine⟨fA,bU,μ,Z,⟨⟨h1.trans hc.cV.os,h2.trans hc.cV.tape,h3.trans hc.cV.output,by rw[hh];exact hc.cV.size,by rw[hh];exact hc.cV.block,by rw[hh];exact hc.cV.yl⟩,by rw[hh];exact hc.m9,hc.kU,hc.nc,
  hc.inj,hc.own,hc.x0,hc.pY,hc.x1,hc.ku,hc.b9,fun b id hb=>?_⟩,fun t=>(hr t).mono (fun _ h=>h) (fun _ _ h=>h) eM⟩
 obtain⟨blk,g1,g2⟩:=hc.heap b id hb;exact⟨blk,g1,g2.mono (fun _ h=>h) (fun _ _ h=>h) eM (by rw[hh])⟩
theorem asL{K:St->Prop}{Q:Exit->Act->World->Prop}(hd:∀o∈ops.toList,∀t,o.dst=some t->t<n)(hq:∀L' a' w',K L'->ic n W X Z0 L' a' w'->Q .normal a' w'):
  ∀(fuel:Nat) (D:Array Bool) (L:St) (a:Act) (w:World),ic n W X Z0 L a w->jA P ops fuel D L K->wpAny P .any ops Q fuel D a w
 |0,D,L,a,w,hs,h=>⟨h.1,hq L a w h.2 hs⟩
 |fuel+1,D,L,a,w,hs,h=>by
   refine⟨fun e=>hq L a w (h.1 e) hs,fun i hi=>?_⟩;obtain⟨o,L',h1,h2,h3⟩:=h.2 i hi;unfold wpOp;rw[h1];simp only;have:=adp (Q:=Q) (K:=wpAny P .any ops Q fuel (D.setIfInBounds i true)) hs h2 (hd o (by rw[aib];exact aBV h1)) (fun a' w' kF=>asL hd hq fuel _ L' a' w' kF h3);split
   ·rename_i hw;rw[if_pos hw]at this;exact .inl this
   rename_i hw;rw[if_neg hw]at this;exact this
theorem aH2{id:Nat}{K:St->Prop}{Q:Exit->Act->World->Prop}{L:St}(jK:P.follows .mixedOrders=true)(hs:ic n W X Z0 L a w)
  (hL:jA P ops ops.size (uo ops.size false) L K) (hd:∀o∈ops.toList,∀t,o.dst=some t->t<n) (hq:∀L' a' w',K L'->ic n W X Z0 L' a' w'->Q .normal a' w') :
  (Code.region id ops true).wp P Q a w :=
 wp_region_any jK (asL hd hq _ _ L a _ (hs.drew rfl rfl rfl rfl) hL)
end
section
variable {P:Program} {ops:Array Oper}
theorem tO{D:Array Bool}{i:Nat}(h:i<D.size)(a b:Bool):D.getD i a=D.getD i b:=by
 rw[dQ,dQ,oX h];rfl
end
end Go.Lg
namespace Go.Lg
inductive lR where
 |normal
 |exit (id:Nat)
 |ret
def oF(K:St->Prop)(Q:lR->St->Prop):lR->St->Prop
 | .normal,L=>K L
 |e,L=>Q e L
def qF(id:Nat)(Q:lR->St->Prop):lR->St->Prop
 | .exit i,L=>if i=id then Q .normal L else Q (.exit i) L
 |e,L=>Q e L
def mQ(n:Nat):Code->Bool
 | .region _ ops _=>ops.toList.all fun o=>match o.dst with|some t=>decide (t<n)|none=>true
 | .seq x y=>mQ n x&&mQ n y
 | .cond _ x y=>mQ n x&&mQ n y
 | .block _ c=>mQ n c
 | .loop c=>mQ n c
 |_=>true
def aeN(n:Nat)(W:World)(X:XS)(Z0:Nat->Prop)(Q:lR->St->Prop):Exit->Act->World->Prop
 | .normal,a,w=>∃L,Q .normal L/\ic n W X Z0 L a w
 | .exit id,a,w=>∃L,Q (.exit id) L/\ic n W X Z0 L a w
 | .ret,a,w=>∃L,Q .ret L/\ic n W X Z0 L a w
 |_,_,_=>False
def c9(P:Program):Code->(lR->St->Prop)->St->Prop
 | .skip,Q,L=>Q .normal L
 | .region _ ops d,Q,L=>∃L0,au L L0/\(((d=true->∃m fr,z8 ops m fr=true)/\opsL P d ops ops.toList L0 (Q .normal))\/(d=true/\jA P ops ops.size (uo ops.size false) L0 (Q .normal)) \/
   ∀n W X Z0 a w,ic n W X Z0 L0 a w->mQ n (.region 0 ops d)=true->∀id,(Code.region id ops d).wp P (aeN n W X Z0 Q) a w)
 | .seq x y,Q,L=>c9 P x (oF (c9 P y Q) Q) L
 | .cond c x y,Q,L=>∃t,L.ev c=.v (.bool t)/\(t=true->c9 P x Q L)/\(t=false->c9 P y Q L)
 | .block id c,Q,L=>c9 P c (qF id Q) L
 | .loop c,Q,L=>∀I:St->Prop,(∀L,c9 P c (oF (fun L'=>∃L'',au L' L''/\I L'') Q) L->I L)->∃L0,au L L0/\I L0
 | .exit id,Q,L=>Q (.exit id) L
 | .ret,Q,L=>Q .ret L
 |_,_,_=>False
section
variable {P:Program} {W w w':World} {X:XS} {Z0 Z:Nat->Prop} {μ:Nat->Option Nat} {H:cd} {a:Act} {L L':St} {n:Nat}
def ajQ(P:Program)(c:Code)(Q:Exit->Act->World->Prop)(a:Act)(w:World):Prop :=
 ∀b k cs,∃e a' w',Q e a' w'/\Arrives P (lone (b.at a (.code c::.inLoop c::k)) cs w) b k cs e a' w'
theorem aGj{c:Code}{Q:Exit->Act->World->Prop}{a:Act}{w:World}(h:c.wp P (Exit.then (ajQ P c Q) Q) a w):ajQ P c Q a w:=by
 intro b k cs;obtain⟨e,agK,agH,hq,ada⟩:=h b (.inLoop c::k) cs
 cases e with
 |normal =>
  obtain⟨aO8,aPF,aM1,aI6,aO7⟩:=hq b k cs;exact⟨aO8,aPF,aM1,aI6,.of_steps (Steps.trans ada (.one step_inLoop)) aO7⟩
 |exit id=>exact⟨_,agK,agH,hq,.pass (x:=.inLoop c) rfl (fun _ _=>.inl aE) ada⟩
 |goto l=>exact⟨_,agK,agH,hq,.pass (x:=.inLoop c) rfl (fun _ _=>.inl aE) ada⟩
 |ret=>exact⟨_,agK,agH,hq,.pass (x:=.inLoop c) rfl (fun _ _=>.inl aE) ada⟩
 |panic ch=>exact⟨_,agK,agH,hq,.pass (x:=.inLoop c) rfl (fun _ _=>.inl aE) ada⟩
 |outgrown=>exact⟨_,agK,agH,hq,.pass (x:=.inLoop c) rfl (fun _ _=>.inl aE) ada⟩
theorem aM5{c:Code}{Q:Exit->Act->World->Prop}{a:Act}{w:World}(h:ajQ P c Q a w):(Code.loop c).wp P Q a w:=by
 intro b k cs;obtain⟨e,a',w',hq,ada⟩:=h b k cs;exact⟨e,a',w',hq,.of_steps (.one step_loop) ada⟩
theorem abJ(jK:P.follows .mixedOrders=true):∀(c:Code) (Q:lR->St->Prop) (L:St) (a:Act) (w:World),ic n W X Z0 L a w->c9 P c Q L->mQ n c=true ->
  c.wp P (aeN n W X Z0 Q) a w
 | .skip,Q,L,a,w,hs,h,_=>wp_skip ⟨L,h,hs⟩
 | .region id ops d,Q,L,a,w,hs,h,hd=>by
   obtain⟨L0,hw,hdL⟩:=h;have jC:∀o∈ops.toList,∀t,o.dst=some t->t<n:=fun o ho t ht=>by
    simp only[mQ,nU]at hd;have:=hd o ho;rw[ht]at this;simpa using this
   rcases hdL with⟨ir,hL⟩|⟨rfl,hL⟩|hL
   case inr.inr=>exact hL _ _ _ _ _ _ (hw _ _ _ _ _ _ hs) hd id
   case inr.inl=>exact aH2 jK (hw _ _ _ _ _ _ hs) hL jC (fun L' a' w' hk kF=>⟨L',hk,kF⟩)
   cases d with
   |true =>
    obtain⟨m,_,hm⟩:=ir rfl;exact aH1 jK hm (hw _ _ _ _ _ _ hs) hL jC (fun L' a' w' hk kF=>⟨L',hk,kF⟩)
   |false=>exact wp_region_list (axL _ _ _ _ (hw _ _ _ _ _ _ hs) hL jC (fun L' a' w' hk kF=>⟨L',hk,kF⟩))
 | .seq x y,Q,L,a,w,hs,h,hd=>by
   simp only[mQ,jS]at hd;refine wp_seq (wp_mono (abJ jK x _ L a w hs h hd.1) fun e a' w' q=>?_)
   cases e with
   |normal=>obtain⟨L',q1,q2⟩:=q;exact abJ jK y Q L' a' w' q2 q1 hd.2
   |exit id=>exact q
   |ret=>exact q
   |_=>exact q.elim
 | .cond c x y,Q,L,a,w,hs,h,hd=>by
   simp only[mQ,jS]at hd;obtain⟨t,h1,h2,h3⟩:=h;have hc:a.eval c=.bool t:=by
    obtain⟨_,_,μ,Z,hc,hr⟩:=hs;have:=n7 (L:=L) hr c;rw[h1]at this;exact this.iO
   exact wp_cond_split hc (fun e=>abJ jK x Q L a w hs (h2 e) hd.1) (fun e=>abJ jK y Q L a w hs (h3 e) hd.2)
 | .block id c,Q,L,a,w,hs,h,hd=>by
   refine wp_block (wp_mono (abJ jK c _ L a w hs h hd) fun e a' w' q=>?_)
   cases e with
   |normal=>exact q
   |exit i =>
    obtain⟨L',q1,q2⟩:=q;simp only[qF]at q1;simp only[Exit.inBlock];split
    ·rename_i e;rw[if_pos e]at q1;exact⟨L',q1,q2⟩
    rename_i e;rw[if_neg e]at q1;exact⟨L',q1,q2⟩
   |ret=>exact q
   |_=>exact q.elim
 | .loop c,Q,L,a,w,hs,h,hd=>by
   obtain⟨L0,hw,h0⟩:=h (fun L=>∀a w,ic n W X Z0 L a w->ajQ P c (aeN n W X Z0 Q) a w) (fun L hL a w hs=>by
    refine aGj (wp_mono (abJ jK c _ L a w hs hL hd) fun e a' w' q=>?_)
    cases e with
    |normal =>
     obtain⟨L',⟨L'',k1,k2⟩,k4⟩:=q;exact k2 _ _ (k1 _ _ _ _ _ _ k4)
    |exit id=>exact q
    |ret=>exact q
    |_=>exact q.elim)
   exact aM5 (h0 a w (hw _ _ _ _ _ _ hs))
 | .exit id,Q,L,a,w,hs,h,_=>wp_exit ⟨L,h,hs⟩
 | .ret,Q,L,a,w,hs,h,_=>wp_ret ⟨L,h,hs⟩
 | .rangeFunc ..,_,_,_,_,_,h,_=>h.elim
 | .scope _,_,_,_,_,_,h,_=>h.elim
 | .label _,_,_,_,_,_,h,_=>h.elim
 | .goto _,_,_,_,_,_,h,_=>h.elim
 | .refuse _,_,_,_,_,_,h,_=>h.elim
end
def arx(P:Program)(L:St):ResultVar->LV->Prop
 | .tmp t,x=>L.slot t=x
 | .cell a T,x=>∃b sz i o blk y n ag,L.slot a=.aB b sz i o/\L.heap b=some blk/\blk.sz=sz/\blk.vals[i]?=some y/\y.aq=sz/\y.at o n ag=some x/\bS P T n ag
inductive abe (P:Program) (L:St):List ResultVar->List LV->Prop
 |nil:abe P L [] []
 |cons {v x vs xs} (h:arx P L v x) (t:abe P L vs xs):abe P L (v::vs) (x::xs)
inductive aaG (H:cd) (own:List Nat):LV->LV->Prop
 |dH {x y} (h:dt H x y):aaG H own x y
 |ref {b sz off len k} (hk:own[k]?=some b):aaG H own (.ref b sz off len) (.ref (k+1) sz off len)
 |ptr {b sz i o k} (hk:own[k]?=some b):aaG H own (.aB b sz i o) (.aB (k+1) sz i o)
 |net {x y x' y' b sz off len k} (h1:dt H x x') (h2:dt H y y') (hk:own[k]?=some b):aaG H own (.agg [x,y,.ref b sz off len]) (.agg [x',y',.ref (k+1) sz off len])
 |bx3 {x x' b1 s1 o1 l1 k1 b2 s2 o2 l2 k2 b3 s3 o3 l3 k3} (hx:dt H x x') (h1:own[k1]?=some b1) (h2:own[k2]?=some b2) (h3:own[k3]?=some b3) :
   aaG H own (.agg [.ref b1 s1 o1 l1,.ref b2 s2 o2 l2,x,.ref b3 s3 o3 l3]) (.agg [.ref (k1+1) s1 o1 l1,.ref (k2+1) s2 o2 l2,x',.ref (k3+1) s3 o3 l3])
inductive ahg (H:cd) (own:List Nat):List LV->List LV->Prop
 |nil:ahg H own [] []
 |cons {x y xs ys} (h:aaG H own x y) (t:ahg H own xs ys):ahg H own (x::xs) (y::ys)
def ajA:List LV->LV
 | [y]=>y
 |ys=>.aY ys
def pB(P:Program)(rs:List ResultVar)(L:St)(r:LV)(bs:List aV):Prop :=
 ∃(xs ys:List LV) (H1:cd) (own:List Nat),abe P L rs xs/\L.heap.le H1/\ahg H1 own xs ys/\own.Nodup/\own.length=bs.length /\
  (∀(k b:Nat),own[k]?=some b->∃blk:aV,H1 b=some blk/\bs[k]?=some blk/\aO blk.vals=true)/\r=ajA ys
def St0(args:List LV):St:=⟨fun t=>args.getD t .any,fun _=>none⟩
section
variable {P:Program} {W w w':World} {X:XS} {Z0 Z:Nat->Prop} {μ:Nat->Option Nat} {H:cd} {a:Act} {L L':St} {n:Nat}
def abA(tmps:Array Value)(v:ResultVar):Sem Value :=
 match v with
 | .tmp t=>pure (tmps.getD t undef)
 | .cell p T=>do loadVar T (<-asAddr (tmps.getD p undef))
theorem anB(fn:Func)(tmps:Array Value):results fn tmps=(do let vs <-fn.results.mapM (abA tmps);pure (if h:vs.size=1 then vs[0]else .tuple vs)):=by
 rfl
theorem aoJ{v:ResultVar}{x:LV}(hc:Core W X Z0 μ Z L.heap w)(hr:∀t,bJ Z μ w (L.slot t) (a.tmps.getD t undef))(h:arx P L v x)(hx:x≠.any/\∀l,x≠.aY l):
  ∃u,(abA a.tmps v).run P w=.ok u w/\g8 Z μ w x u:=by
 cases v with
 |tmp t =>
  simp only[arx]at h;have:=hr t;rw[h]at this;exact⟨_,rfl,bJ.to1 hx.2 hx.1 this⟩
 |cell p T =>
  obtain⟨b,sz,i,o,blk,y,m,ag,h1,h2,h3,h4,h5,h6,h7⟩:=h;have e1:=hr p;rw[h1]at e1;have hl:aM P L.heap L.ev (.load T (.tmp p)) x:=.fa (b:=b) (sz:=sz) h1 h2 h3 h4 h5 h6 h7;obtain⟨u,r1,r2⟩:=hl.sound (a:=a) (fun y hy=>n7 (L:=L) hr y) hc.heap none 0 "" #[] none;have e2:=e1.2 rfl;simp only[aH]at e2;obtain⟨id,q1,q2⟩:=e2;simp only[iF,and_true]at q1;have gV:a.eval (.tmp p)=a.tmps.getD p undef:=rfl;refine⟨u,?_,bJ.to1 hx.2 hx.1 r2⟩;simp only[execOp,gV,q1,Instr.loadAt,Instr.sureAddr,Sem.run_bind,Sem.run_pure,Result.andThen_ok]at r1;simp only[abA,q1,asAddr,Sem.run_bind,Sem.run_pure,Result.andThen_ok]
  cases hq:(loadVar T ⟨id,i*sz+o,none⟩).run P w with
  |ok v' w'' =>
   rw[hq]at r1;simp only[Result.andThen_ok,Result.ok.injEq,Next.value.injEq]at r1;rw[r1.1,r1.2]
  |halt x' w''=>rw[hq]at r1;simp at r1
theorem aaG.ne{own:List Nat}{x y:LV}(h:aaG H own x y):x≠.any/\∀l,x≠.aY l:=by
 cases h with
 |dH h=>exact h.ne
 |ref _=>exact⟨by simp,by simp⟩
 |ptr _=>exact⟨by simp,by simp⟩
 |net _ _ _=>exact⟨by simp,by simp⟩
 |bx3 _ _ _ _=>exact⟨by simp,by simp⟩
def yu(μ:Nat->Option Nat)(own:List Nat):Nat->Option Nat:=fun k=>if k=0 then none else(own[k-1]?).bind μ
theorem aaG.sound{own:List Nat}{x y:LV}{u:Value}(hc:Core W X Z0 μ Z H w)(h:aaG H own x y)(hu:g8 Z μ w x u):g8 Z (yu μ own) w y u:=by
 cases h with
 |dH h=>exact dt.agD hc h (bJ.xO h.ne.2 hu)
 | @ref b sz off len k hk =>
  have:=hu.2 rfl;refine⟨by simp[LV.isAgg],fun _=>?_⟩;simp only[aH]at this ⊢;rcases this with h|⟨id,cap,c,T,fz,h1,h2,h3⟩
  ·exact qN
  exact .inr ⟨id,cap,c,T,fz,h1,by simp[yu,hk,h2],h3⟩
 | @ptr b sz i o k hk =>
  have:=hu.2 rfl;refine⟨by simp[LV.isAgg],fun _=>?_⟩;simp only[aH]at this ⊢;obtain⟨id,h1,h2⟩:=this;exact⟨id,h1,by simp[yu,hk,h2]⟩
 | @net x y x' y' b sz off len k hx hy hk =>
  obtain⟨cs,rfl,hr⟩:=hu.1 rfl;refine⟨fun _=>⟨cs,rfl,?_⟩,by simp[LV.isAgg]⟩;simp only[aH,cP]at hr ⊢;obtain⟨c1,d1,e1,l1,r1,c2,d2,e2,l2,r2,c3,d3,e3,l3,r3,r4⟩:=hr;refine⟨c1,d1,e1,by rw[l1,hx.lay.2.1],dt.sound hc hx r1,c2,d2,e2,by rw[l2,hy.lay.2.1],dt.sound hc hy r2,c3,d3,e3,l3,?_,r4⟩;rcases r3 with h|⟨id,cap,c,T,fz,h1,h2,h3⟩
  ·exact qN
  exact .inr ⟨id,cap,c,T,fz,h1,by simp[yu,hk,h2],h3⟩
 | @bx3 x x' b1 s1 o1 l1 k1 b2 s2 o2 l2 k2 b3 s3 o3 l3 k3 hx ph kK sF =>
  obtain⟨cs,rfl,hr⟩:=hu.1 rfl;refine⟨fun _=>⟨cs,rfl,?_⟩,by simp[LV.isAgg]⟩;simp only[aH,cP]at hr ⊢;obtain⟨c1,d1,e1,m1,r1,c2,d2,e2,m2,r2,c3,d3,e3,m3,r3,c4,d4,e4,m4,r4,r5⟩:=hr;refine⟨c1,d1,e1,m1,?_,c2,d2,e2,m2,?_,c3,d3,e3,by rw[m3,hx.lay.2.1],dt.sound hc hx r3,c4,d4,e4,m4,?_,r5⟩
  ·rcases r1 with h|⟨id,cap,c,T,fz,h1,h2,h3⟩
   ·exact qN
   exact .inr ⟨id,cap,c,T,fz,h1,by simp[yu,ph,h2],h3⟩
  ·rcases r2 with h|⟨id,cap,c,T,fz,h1,h2,h3⟩
   ·exact qN
   exact .inr ⟨id,cap,c,T,fz,h1,by simp[yu,kK,h2],h3⟩
  rcases r4 with h|⟨id,cap,c,T,fz,h1,h2,h3⟩
  ·exact qN
  exact .inr ⟨id,cap,c,T,fz,h1,by simp[yu,sF,h2],h3⟩
theorem auD{own:List Nat}(hc:Core W X Z0 μ Z L.heap w)(hr:∀t,bJ Z μ w (L.slot t) (a.tmps.getD t undef)){Z1:Nat->Prop}{H1:cd}(uk:Core W X Z0 μ Z1 H1 w)(hz:∀id,Z id->Z1 id):
  ∀(rs:List ResultVar) (xs ys:List LV),abe P L rs xs->ahg H1 own xs ys ->
  ∃us,(rs.mapM (abA a.tmps)).run P w=.ok us w/\il Z1 (yu μ own) w ys us
 |_,_,_,.nil,.nil=>⟨[],rfl,rfl⟩
 |_,_,_,.cons (vs:=vs) (xs:=xs) h t,.cons (ys:=ys) h' t'=>by
   obtain⟨u,q1,q2⟩:=aoJ hc hr h h'.ne;obtain⟨us,q3,q4⟩:=auD hc hr uk hz _ _ _ t t';refine⟨u::us,?_,u,us,rfl,h'.sound uk (q2.mono hz (fun _ _ h=>h) ⟨fun _ _=>rfl,(Frame.refl Z μ w).m⟩),q4⟩;rw[aAA,Sem.run_bind,q1];simp only[Result.andThen_ok,Sem.run_bind,q3,Sem.run_pure]
theorem ama:∀(args:List LV) (vs us:List Value),il Z μ w args vs->∀t,bJ Z μ w ((St0 args).slot t) ((vs++us).toArray.getD t undef)
 | [],_,us,h,t=>by simp only[St0,List.getD_nil];trivial
 |x::xs,_,us,⟨v,l7,e,h1,h2⟩,t=>by
   subst e
   cases t with
   |zero =>
    have:∀l,x≠.aY l:=fun l e=>by subst e;have:=h1.2 rfl;simp[aH]at this
    simpa[St0]using bJ.xO this h1
   |succ t =>
    have:=ama xs l7 us h2 t;simpa[St0]using this
theorem adS:∀(args:List LV) (vs:List Value),il Z μ w args vs->vs.length=args.length
 | [],_,h=>by cases h;rfl
 |_::xs,_,⟨v,l7,e,_,h2⟩=>by subst e;simp[adS xs l7 h2]
theorem aDf{f:FuncId}{fn:Func}{c:Code}{args:List LV}{r:LV}{bs:List aV}(jK:P.follows .mixedOrders=true)(hf:P.funcs[f]?=some fn)(hb:fn.body=some c)
  (hn:(fn.name== "runtime.NumGoroutine")=false) (hd:mQ fn.ntmps c=true) (hlen:args.length<=fn.ntmps)
  (h:c9 P c (fun e L=>match e with | .exit _=>False|_=>pB P fn.results.toList L r bs) (St0 args)):mW P f args r bs:=by
 refine⟨⟨fn,hf,by rw[hb];rfl,hn⟩,fun W Z0 vs hz hargs=>?_⟩;have tw:=adS _ _ hargs;refine calls_of_wp hf hb ?_;have rD:ic fn.ntmps W XS.no Z0 (St0 args) ⟨vs.toArray++uo (fn.ntmps-vs.toArray.size) undef,[]⟩ W:=by
  have jJ:∀{p:Prop} (b id:Nat),(fun _:Nat=>(none:Option Nat)) b=some id->p:=fun b id h=>by cases h
  refine⟨rfl,by simp;omega,fun _=>none,Z0,⟨Kept.refl _ _,hz,fun _ h=>h,fun _ h=>.inl h,fun b _ id h _=>jJ b id h,fun b id h=>jJ b id h,fun b id h _=>jJ b id h,fun _ h=>(XS.ag5 h).elim,fun _ h=>False.elim h,
   fun b id _ h _ _=>jJ b id h,fun b id _ h _ _=>jJ b id h,fun b id h=>jJ b id h⟩,fun t=>?_⟩
  have e:vs.toArray++uo (fn.ntmps-vs.toArray.size) undef=(vs++av (fn.ntmps-vs.toArray.size) undef).toArray:=by apply y6;simp
  show bJ Z0 (fun _=>none) W ((St0 args).slot t) ((vs.toArray++uo (fn.ntmps-vs.toArray.size) undef).getD t undef);rw[e];exact ama (Z:=Z0) (μ:=fun _=>none) (w:=W) args vs _ hargs t
 refine wp_mono (abJ jK c _ _ _ _ rD h hd) fun e a w q=>?_;have main:∀L,pB P fn.results.toList L r bs->ic fn.ntmps W XS.no Z0 L a w ->
   a.defers=[]/\∃v,(results fn a.tmps).run P w=.ok v w/\∃v' μ Z,Ending.returned v=.returned v'/\Core W XS.no Z0 μ Z (vd bs) w/\bJ Z μ w r v':=by
  rintro L ⟨xs,ys,H1,own,h1,h2,h3,h4,h5,h6,h7⟩ ⟨fA,bU,μ,Z,hc,hr⟩;obtain⟨Z1,k1,k2⟩:=hc.adk h2;obtain⟨us,q1,q2⟩:=auD hc hr k1 k2 _ _ _ h1 h3;have hinv:∀k id,yu μ own k=some id->∃b,k≠0/\own[k-1]?=some b/\μ b=some id:=fun k id hk=>by
   unfold yu at hk;split at hk
   ·cases hk
   rename_i h0;rw[Option.bind_eq_some_iff]at hk;obtain⟨b,g1,g2⟩:=hk;exact⟨b,h0,g1,g2⟩
  have aqc:∀k b,k≠0->own[k-1]?=some b->∃blk,H1 b=some blk/\vd bs k=some blk/\aO blk.vals=true:=fun k b h0 hb=>by
   obtain⟨blk,g1,g2,g3⟩:=h6 _ b hb;exact⟨blk,g1,by simp[vd,h0,g2],g3⟩
  have aqP:Core W XS.no Z0 (yu μ own) Z1 (vd bs) w:=by
   refine⟨k1.cV,k1.m9,k1.kU,k1.nc,?_,?_,fun _ _ _ h=>h.elim,fun _ h=>(XS.ag5 h).elim,fun _ h=>h.elim,?_,?_,?_⟩
   ·intro k k' id hk qD;obtain⟨b,g0,g1,g2⟩:=hinv k id hk;obtain⟨b',g0',g1',g2'⟩:=hinv k' id qD;have:=k1.inj b b' id g2 g2';subst this;obtain⟨l1,e1⟩:=qi.1 g1;obtain⟨l2,e2⟩:=qi.1 g1';have hp:=List.pairwise_iff_getElem.1 h4;rcases Nat.lt_trichotomy (k-1) (k'-1)with h|h|h
    ·exact absurd (e1.trans e2.symm) (hp _ _ l1 l2 h)
    ·omega
    exact absurd (e2.trans e1.symm) (hp _ _ l2 l1 h)
   ·intro k id hk;obtain⟨b,g0,g1,g2⟩:=hinv k id hk;exact k1.own b id g2
   ·intro k id blk hk hb hm;obtain⟨b,g0,g1,g2⟩:=hinv k id hk;obtain⟨blk',j1,j2,_⟩:=aqc k b g0 g1;rw[hb]at j2;cases j2;exact k1.ku b id blk g2 j1 hm
   ·intro k id blk hk hb hm;obtain⟨b,g0,g1,g2⟩:=hinv k id hk;obtain⟨blk',j1,j2,_⟩:=aqc k b g0 g1;rw[hb]at j2;cases j2;exact k1.b9 b id blk g2 j1 hm
   intro k id hk;obtain⟨b,g0,g1,g2⟩:=hinv k id hk;obtain⟨blk',j1,j2,j3⟩:=aqc k b g0 g1;obtain⟨bk,l1,cc,T,part,rest,l2,l3,l4⟩:=k1.heap b id g2;rw[j1]at l1;cases l1;exact⟨_,j2,cc,T,part,rest,l2,l3,aT.lS (fun _ h=>h) (fun _ _=>rfl) _ _ _ j3 l4⟩
  have sv:(fn.results.mapM (abA a.tmps)).run P w=.ok us.toArray w:=by
   rw[aBf,Sem.run_map,q1];rfl
  refine⟨fA,(if h:us.toArray.size=1 then us.toArray[0]else .tuple us.toArray),?_,_,yu μ own,Z1,rfl,aqP,?_⟩
  ·rw[anB,Sem.run_bind,sv];rfl
  subst h7;have hyl:=adS _ _ q2
  match ys,us,q2,hyl with
  | [y],[u],q2,_ =>
   obtain⟨v,l7,e,g1,g2⟩:=q2;simp only[iF]at e;obtain⟨rfl,_⟩:=e;have hnt:∀l,y≠.aY l:=fun l e=>by subst e;have:=g1.2 rfl;simp[aH]at this
   exact bJ.xO hnt g1
  | [],[],q2,_=>exact⟨_,rfl,by simpa using q2⟩
  |y::y'::ys,u::u'::us,q2,_ =>
   refine⟨(u::u'::us).toArray,by simp,by simpa using q2⟩
 cases e with
 |normal=>obtain⟨L,q1,q2⟩:=q;exact main L q1 q2
 |ret=>obtain⟨L,q1,q2⟩:=q;exact main L q1 q2
 |exit id=>obtain⟨L,q1,q2⟩:=q;exact q1.elim
 |_=>exact q.elim
def StM(args:List LV)(blk:aV):St:=⟨fun t=>args.getD t .any,fun n=>if n=0 then some blk else none⟩
def abL(P:Program)(rs:List ResultVar)(L:St)(r:LV)(blk':aV):Prop :=
 ∃(xs ys:List LV) (H1:cd),abe P L rs xs/\L.heap.le H1/\aag H1 0 xs ys/\H1 0=some blk'/\blk'.mt=true/\aO blk'.vals=true/\r=ajA ys
theorem awP{i0:Nat}(hc:Core W X Z0 μ Z L.heap w)(hr:∀t,bJ Z μ w (L.slot t) (a.tmps.getD t undef)){Z1:Nat->Prop}{H1:cd}(uk:Core W X Z0 μ Z1 H1 w)(hz:∀id,Z id->Z1 id)(h0:μ 0=some i0):
  ∀(rs:List ResultVar) (xs ys:List LV),abe P L rs xs->aag H1 0 xs ys ->
  ∃us,(rs.mapM (abA a.tmps)).run P w=.ok us w/\il Z1 (uP i0) w ys us
 |_,_,_,.nil,.nil=>⟨[],rfl,rfl⟩
 |_,_,_,.cons (vs:=vs) (xs:=xs) h t,.cons (ys:=ys) h' t'=>by
   obtain⟨u,q1,q2⟩:=aoJ hc hr h h'.ne;obtain⟨us,q3,q4⟩:=awP hc hr uk hz h0 _ _ _ t t';refine⟨u::us,?_,u,us,rfl,h'.sound uk h0 (bJ.xO h'.ne.2 (q2.mono hz (fun _ _ h=>h) ⟨fun _ _=>rfl,(Frame.refl Z μ w).m⟩)),q4⟩;rw[aAA,Sem.run_bind,q1];simp only[Result.andThen_ok,Sem.run_bind,q3,Sem.run_pure]
theorem aK6{f:FuncId}{fn:Func}{c:Code}{args:List LV}{r:LV}{blk blk':aV}(jK:P.follows .mixedOrders=true)(hf:P.funcs[f]?=some fn)(hb:fn.body=some c)
  (hn:(fn.name== "runtime.NumGoroutine")=false) (hd:mQ fn.ntmps c=true) (hlen:args.length<=fn.ntmps) (gX:blk.mt=true)
  (h:c9 P c (fun e L=>match e with | .exit _=>False|_=>abL P fn.results.toList L r blk') (StM args blk)):pe P f blk args r blk':=by
 refine⟨⟨fn,hf,by rw[hb];rfl,hn⟩,fun W Z0 vs i0 hz uI qj hargs=>?_⟩;have tw:=adS _ _ hargs;refine calls_of_wp hf hb ?_;have iw:∀b id,uP i0 b=some id->b=0/\id=i0:=fun b id h=>by
  unfold uP at h;split at h
  ·cases h;exact⟨by assumption,rfl⟩
  cases h
 have bV:i0<W.heap.size:=by
  obtain⟨c,T,part,rest,h1,_⟩:=qj;exact(lX.1 h1).1
 have rD:ic fn.ntmps W (XS.one i0) Z0 (StM args blk) ⟨vs.toArray++uo (fn.ntmps-vs.toArray.size) undef,[]⟩ W:=by
  refine⟨rfl,by simp;omega,uP i0,Z0,⟨Kept.refl _ _,hz,fun _ h=>h,fun _ h=>.inl h,fun b b' id h h'=>(iw b id h).1.trans (iw b' id h').1.symm,fun b id h=>.inr (.inl (iw b id h).2),
   fun b id h _=>(iw b id h).1,fun id h=>by rw[XS.aCH h];exact bV,fun id h=>by rw[show id=i0 from h];rfl,fun b id bk h _ _=>by rw[(iw b id h).2];exact uI,
   fun b id bk h g hm=>?_,fun b id h=>?_⟩,fun t=>?_⟩
  ·obtain⟨rfl,rfl⟩:=iw b id h;simp only[StM,if_true]at g;cases g;rw[gX]at hm;cases hm
  ·obtain⟨rfl,rfl⟩:=iw b id h;exact⟨blk,rfl,qj⟩
  have e:vs.toArray++uo (fn.ntmps-vs.toArray.size) undef=(vs++av (fn.ntmps-vs.toArray.size) undef).toArray:=by apply y6;simp
  show bJ Z0 (uP i0) W ((St0 args).slot t) ((vs.toArray++uo (fn.ntmps-vs.toArray.size) undef).getD t undef);rw[e];exact ama args vs _ hargs t
 refine wp_mono (abJ jK c _ _ _ _ rD h hd) fun e a w q=>?_;have main:∀L,abL P fn.results.toList L r blk'->ic fn.ntmps W (XS.one i0) Z0 L a w ->
   a.defers=[]/\∃v,(results fn a.tmps).run P w=.ok v w/\∃v' μ Z,Ending.returned v=.returned v'/\Core W (XS.one i0) Z0 μ Z (adi blk') w/\bJ Z μ w r v':=by
  rintro L ⟨xs,ys,H1,h1,h2,h3,h4,h5,h6,h7⟩ ⟨fA,bU,μ,Z,hc,hr⟩;obtain⟨Z1,k1,k2⟩:=hc.adk h2;have h0:=k1.x1 i0 rfl;obtain⟨us,q1,q2⟩:=awP hc hr k1 k2 h0 _ _ _ h1 h3;have aqP:Core W (XS.one i0) Z0 (uP i0) Z1 (adi blk') w:=by
   refine⟨k1.cV,k1.m9,k1.kU,k1.nc,fun b b' id h h'=>(iw b id h).1.trans (iw b' id h').1.symm,fun b id h=>.inr (.inl (iw b id h).2),fun b id h _=>(iw b id h).1,k1.pY,fun id h=>by rw[show id=i0 from h];rfl,?_,?_,?_⟩
   ·intro b id bk h g hm;obtain⟨rfl,rfl⟩:=iw b id h;exact k1.ku 0 id blk' h0 h4 h5
   ·intro b id bk h g hm;obtain⟨rfl,rfl⟩:=iw b id h;simp only[adi,if_true]at g;cases g;rw[h5]at hm;cases hm
   intro b id h;obtain⟨rfl,rfl⟩:=iw b id h;obtain⟨bk,l1,cc,T,part,rest,l2,l3,l4⟩:=k1.heap 0 id h0;rw[h4]at l1;cases l1;exact⟨_,rfl,cc,T,part,rest,l2,l3,aT.lS (fun _ h=>h) (fun _ _=>rfl) _ _ _ h6 l4⟩
  have sv:(fn.results.mapM (abA a.tmps)).run P w=.ok us.toArray w:=by
   rw[aBf,Sem.run_map,q1];rfl
  refine⟨fA,(if h:us.toArray.size=1 then us.toArray[0]else .tuple us.toArray),?_,_,uP i0,Z1,rfl,aqP,?_⟩
  ·rw[anB,Sem.run_bind,sv];rfl
  subst h7;have hyl:=adS _ _ q2
  match ys,us,q2,hyl with
  | [y],[u],q2,_ =>
   obtain⟨v,l7,e,g1,g2⟩:=q2;simp only[iF]at e;obtain⟨rfl,_⟩:=e;have hnt:∀l,y≠.aY l:=fun l e=>by subst e;have:=g1.2 rfl;simp[aH]at this
   exact bJ.xO hnt g1
  | [],[],q2,_=>exact⟨_,rfl,by simpa using q2⟩
  |y::y'::ys,u::u'::us,q2,_ =>
   refine⟨(u::u'::us).toArray,by simp,by simpa using q2⟩
 cases e with
 |normal=>obtain⟨L,q1,q2⟩:=q;exact main L q1 q2
 |ret=>obtain⟨L,q1,q2⟩:=q;exact main L q1 q2
 |exit id=>obtain⟨L,q1,q2⟩:=q;exact q1.elim
 |_=>exact q.elim
end
end Go.Lg
namespace Go.Lg
def St.b9(L:St)(bs:List Nat):St:=⟨L.slot,fun c=>(L.heap c).map fun blk=>⟨blk.sz,blk.vals,blk.mt&&!bs.contains c⟩⟩
section
variable {P:Program} {dr:Bool} {ops:Array Oper} {rest:List Oper} {L:St} {K:St->Prop} {dst:Option Tmp} {ty:TypeId} {pos:String} {af:Array Edge} {g:Option (Nat×Bool)}
theorem vW(bs:List Nat)(h0:bs.contains 0=false):L.heap.le (L.b9 bs).heap:=fun b blk h=>by
 refine⟨blk.mt&&!bs.contains b,by simp[St.b9,h],fun e=>by simp[e],fun e1 e2=>?_⟩;rintro rfl;rw[e1,h0]at e2;cases e2
theorem al{op:Op}{r:LV}(hg:eg ops L ⟨dst,op,ty,pos,af,g⟩ true)(h:aM P L.heap L.ev op r)(k:opsL P dr ops rest (L.put dst r) K):
  opsL P dr ops (⟨dst,op,ty,pos,af,g⟩::rest) L K:=by
 refine⟨L.put dst r,.val hg (cd.le_refl _) (fr:=[]) (fun _ _ h=>by cases h) (.pure h) ?_,k⟩
 cases dst<;>rfl
theorem xn{op:Op}(hg:eg ops L ⟨dst,op,ty,pos,af,g⟩ false)(k:opsL P dr ops rest (L.put dst (.aY [])) K):opsL P dr ops (⟨dst,op,ty,pos,af,g⟩::rest) L K :=
 ⟨_,.skip hg rfl,k⟩
theorem ayS{op:Op}{L':St}(hg:eg ops L ⟨dst,op,ty,pos,af,g⟩ true)(hd:dr=false)(h:OpM P L dst op L')(k:opsL P dr ops rest L' K):opsL P dr ops (⟨dst,op,ty,pos,af,g⟩::rest) L K:=⟨L',.stM hd hg h,k⟩
theorem gv{op:Op}{d:Nat}{r:LV}{blk:aV}(hg:eg ops L ⟨some d,op,ty,pos,af,g⟩ true)(hd:L.heap d=none)(h:dV P L.ev d op r blk)
  (k:opsL P dr ops rest ((L.bO d (some blk)).put (some d) r) K):opsL P dr ops (⟨some d,op,ty,pos,af,g⟩::rest) L K:=by
 refine⟨_,.val hg (r:=r) (fr:=[(d,blk)]) (H1:=(L.bO d (some blk)).heap) ?_ ?_ (.alloc h) ?_,k⟩
 ·intro b bk hb;have:b≠d:=by rintro rfl;rw[hd]at hb;cases hb
  exact⟨bk.mt,by simp only[St.bO,if_neg this];exact hb,fun h=>h,fun h1 h2=>by rw[h1]at h2;cases h2⟩
 ·intro b bk hb;simp only[iM,xw]at hb;obtain⟨rfl,rfl⟩:=hb;exact⟨hd,bk.mt,by simp[St.bO],fun h=>h⟩
 rfl
theorem qk{op:Op}{r r':LV}(bs:List Nat)(hg:eg ops L ⟨dst,op,ty,pos,af,g⟩ true)(h0:bs.contains 0=false)(h:OpC P (L.b9 bs).heap L.ev (dst.getD 0) op r [])(hr:r=r')
  (k:opsL P dr ops rest ((L.b9 bs).put dst r') K):opsL P dr ops (⟨dst,op,ty,pos,af,g⟩::rest) L K:=by
 subst hr;refine⟨(L.b9 bs).put dst r,.val hg (r:=r) (fr:=[]) (H1:=(L.b9 bs).heap) (vW bs h0) (fun _ _ h=>by cases h) (.call h) ?_,k⟩
 cases dst<;>rfl
theorem ayl{f:FuncId}{xs:Array Operand}{as:Array TypeId}{args:List LV}{r:LV}(bs:List Nat)(hg:eg ops L ⟨dst,.call ⟨.value (.func f),xs,as⟩,ty,pos,af,g⟩ true)(h0:bs.contains 0=false)
  (ha:gR (L.b9 bs).heap (xs.toList.map L.ev) args) (hk:mW P f args r []) (hr:r.b8 (dv (dst.getD 0))=r)
  (k:opsL P dr ops rest ((L.b9 bs).put dst r) K):opsL P dr ops (⟨dst,.call ⟨.value (.func f),xs,as⟩,ty,pos,af,g⟩::rest) L K :=
 qk bs hg h0 (.func ha hk aE aE) hr k
theorem acu:L.b9 []=L:=by
 cases L
 simp only[St.b9,St.mk.injEq,true_and];funext c;rename_i s h
 cases h c<;>simp
theorem aFV{f:FuncId}{xs:Array Operand}{as:Array TypeId}{args:List LV}{r:LV}(hg:eg ops L ⟨dst,.call ⟨.value (.func f),xs,as⟩,ty,pos,af,g⟩ true)
  (ha:gR L.heap (xs.toList.map L.ev) args) (hk:mW P f args r []) (hr:r.b8 (dv (dst.getD 0))=r)
  (k:opsL P dr ops rest (L.put dst r) K):opsL P dr ops (⟨dst,.call ⟨.value (.func f),xs,as⟩,ty,pos,af,g⟩::rest) L K :=
 ayl [] hg rfl (by rw[acu];exact ha) hk hr (by rw[acu];exact k)
theorem wU{f:FuncId}{xs:Array Operand}{as:Array TypeId}{args:List LV}{r:LV}{blk:aV}{d:Nat}(bs:List Nat)(hg:eg ops L ⟨some d,.call ⟨.value (.func f),xs,as⟩,ty,pos,af,g⟩ true)(h0:bs.contains 0=false)
  (ha:gR (L.b9 bs).heap (xs.toList.map L.ev) args) (hk:mW P f args r [blk]) (hp:aO blk.vals=true) (hd:L.heap (dv d 1)=none)
  (k:opsL P dr ops rest (((L.b9 bs).bO (dv d 1) (some blk)).put (some d) (r.b8 (dv d))) K):opsL P dr ops (⟨some d,.call ⟨.value (.func f),xs,as⟩,ty,pos,af,g⟩::rest) L K:=by
 have jC:(L.b9 bs).heap (dv d 1)=none:=by simp[St.b9,hd]
 refine⟨_,.val hg (r:=r.b8 (dv d)) (fr:=[blk].mapIdx fun i blk=>(dv d (i+1),blk)) (H1:=((L.b9 bs).bO (dv d 1) (some blk)).heap) (cd.le_trans (vW bs h0) ?_) ?_
  (.call (.func (gR.le ?_ ha) hk aE (by simpa using hp))) ?_,k⟩
 ·exact adX jC
 ·intro b bk hb;simp only[List.mapIdx_cons,List.mapIdx_nil,iM,xw]at hb;obtain⟨rfl,rfl⟩:=hb;exact⟨hd,bk.mt,by simp[St.bO],fun h=>h⟩
 ·exact adX jC
 rfl
theorem cj{op:Op}{L':St}(hg:eg ops L ⟨dst,op,ty,pos,af,g⟩ true)(h:iI P L dst op L')(k:opsL P dr ops rest L' K):opsL P dr ops (⟨dst,op,ty,pos,af,g⟩::rest) L K :=
 ⟨_,.st hg h,k⟩
theorem aaj{f:FuncId}{xs:Array Operand}{as:Array TypeId}{args:List LV}{r:LV}{ops:Array Oper}(b:Nat){blk blk':aV}(hg:eg ops L ⟨dst,.call ⟨.value (.func f),xs,as⟩,ty,pos,af,g⟩ true)
  (hb:L.heap b=some blk) (hm:blk.mt=true) (hp:aO blk.vals=true) (ha:aag L.heap b (xs.toList.map L.ev) args) (hn:Names b (xs.toList.map L.ev)) (hk:pe P f blk args r blk')
  (r8:blk'.mt=true) (mZ:aO blk'.vals=true) (k:opsL P false ops rest ((L.bO b (some blk')).put dst (r.b8 fun _=>b)) K) :
  opsL P false ops (⟨dst,.call ⟨.value (.func f),xs,as⟩,ty,pos,af,g⟩::rest) L K :=
 ⟨_,.stM rfl hg (.call hb hm hp ha hn hk r8 mZ),k⟩
theorem iy(k:K L):opsL P dr ops [] L K:=k
end
structure jF {α:Type} (e:α->LV) (sz:Nat) (ag:Bool):Prop where
 aq:∀a,(e a).aq=sz
 isAgg:∀a,(e a).isAgg=ag
 pure:∀a,(e a).pure=true
theorem bm{α:Type}{e:α->LV}{sz:Nat}{ag:Bool}(h:jF e sz ag)(l:List α):aO (l.map e)=true:=by
 rw[aaX];intro x hx;obtain⟨a,_,rfl⟩:=cZ.1 hx;exact h.pure a
theorem aoP(x:LV)(h:x.pure=true):x.at 0 x.aq x.isAgg=some x:=by
 cases x<;>simp_all[LV.at,LV.aq,LV.isAgg,LV.pure]
theorem aa5(x y:LV)(h1:x.aq=y.aq)(h2:x.isAgg=y.isAgg):x.put 0 y=some y:=by
 cases x<;>simp_all[LV.put,LV.aq,LV.isAgg]
section
variable {P:Program} {H:cd} {ρ:Operand->LV} {α:Type} {e:α->LV}
theorem aM.ahP[Inhabited α]{T E:TypeId}{x i:Operand}{sz:Nat}{l:List α}{k:IntKind}{n:Int}{ag:Bool}(he:jF e sz ag)(hx:ρ x=.list sz (l.map e))(hT:P.underlying T=some (.slice E))(hE:bS P E sz ag)
  (hi:ρ i=.v (.int k n)) (h0:0<=n) (hn:n<l.length):aM P H ρ (.indexAddr T x i) (.cx (e (l.getD n.toNat default))):=by
 have bV:n.toNat<l.length:=J;refine .qt hx hT hE hi h0 ?_ (he.aq _);rw[jY,ck bV,bq,ck bV];rfl
theorem aM.aco{T:TypeId}{p:Operand}{sz:Nat}{ag:Bool}{a:α}(he:jF e sz ag)(hp:ρ p=.cx (e a))(hT:bS P T sz ag):aM P H ρ (.load T p) (e a) :=
 .abx hp (by rw[he.aq,he.isAgg];exact hT) (he.pure a)
theorem aM.axT[Inhabited α]{T:TypeId}{p:Operand}{b sz i:Nat}{l:List α}{m:Bool}{ag:Bool}(he:jF e sz ag)(hp:ρ p=.aB b sz i 0)(hb:H b=some ⟨sz,l.map e,m⟩)(hT:bS P T sz ag)
  (hi:i<l.length):aM P H ρ (.load T p) (e (l.getD i default)):=by
 have hv:(l.map e)[i]?=some (e (l.getD i default)):=by
  rw[jY,ck hi,bq,ck hi];rfl
 refine .fa (blk:=⟨sz,l.map e,m⟩) (n:=sz) (ag:=ag) hp hb rfl hv (he.aq _) ?_ hT;have:=aoP (e (l.getD i default)) (he.pure _);rwa[he.aq,he.isAgg]at this
theorem iI.aEl[Inhabited α]{L:St}{dst:Option Tmp}{T:TypeId}{p x:Operand}{b sz i:Nat}{l:List α}{ag:Bool}{a:α}(he:jF e sz ag)(hp:L.ev p=.aB b sz i 0)(hb:L.heap b=some ⟨sz,l.map e,true⟩)
  (hx:L.ev x=e a) (hT:bS P T sz ag) (hi:i<l.length):iI P L dst (.store T p x) ((L.bO b (some ⟨sz,(l.set i a).map e,true⟩)).put dst .any):=by
 have hv:(l.map e)[i]?=some (e l[i]):=by rw[jY,ck hi];rfl
 have:=iI.store (P:=P) (L:=L) (dst:=dst) (T:=T) (p:=p) (x:=x) (y':=e a) hp hb rfl rfl hv (he.aq _) (by rw[hx];exact aa5 _ _ (by rw[he.aq,he.aq]) (by rw[he.isAgg,he.isAgg]))
  (by rw[hx,he.aq,he.isAgg];exact hT) (by rw[hx];exact⟨LV.fJ (he.pure _),LV.fh (he.pure _)⟩)
 rwa[<-List.map_set]at this
theorem dV.arE{T E:TypeId}{x c:Operand}{kl kc:IntKind}{d sz eH n m:Nat}{ag:Bool}{z:α}(he:jF e sz ag)(hT:P.underlying T=some (.slice E))(hz:dM P E (e z))(hE:bS P E sz ag)(hb:ow P E eH)
  (hl:ρ x=.v (.int kl (n:Nat))) (hc:ρ c=.v (.int kc (m:Nat))) (lK:n<=m) (hm:eH*m<=281474976710656) (fC:m<=9223372036854775807) :
  dV P ρ d (.makeSlice T x c) (.ref d sz 0 n) ⟨sz,(av n z).map e,true⟩:=by
 rw[List.map_replicate];exact .make hT hz (by rw[he.isAgg];exact hE) (he.aq z) hb hl hc lK hm fC
theorem dV.aq5{T E:TypeId}{x:Operand}{d sz:Nat}{ag:Bool}{z a:α}(he:jF e sz ag)(hT:P.underlying T=some (.slice E))(hz:dM P E (e z))(hE:bS P E sz ag)(hx:ρ x=e a)(fb:0<sz)(mb:sz<=1000):
  dV P ρ d (.buildSlice T 1 #[(0,x)]) (.ref d sz 0 1) ⟨sz,[a].map e,true⟩:=by
 have:=dV.lit (P:=P) (ρ:=ρ) (d:=d) (T:=T) (n:=1) (ps:=#[(0,x)]) hT hz (by rw[he.isAgg];exact hE) (he.aq z) J J fb (by
  intro p hp;simp only[iM]at hp;subst hp;refine⟨by simp,?_,by rw[hx];exact LV.fJ (he.pure _),by rw[hx];exact LV.fh (he.pure _)⟩;simp[lay,hx,he.aq,he.isAgg])
 simpa[kP,hx,av]using this
end
section
variable {a b:Int}
theorem w6(h1:-9223372036854775808<=a+b)(h2:a+b<=9223372036854775807):eO .add .i64 a b=some (.int .i64 (a+b)):=by
 simp only[eO];rw[IntWalk.i64_in _ ⟨h1,h2⟩]
theorem ab1(h1:-9223372036854775808<=a-b)(h2:a-b<=9223372036854775807):eO .sub .i64 a b=some (.int .i64 (a-b)):=by
 simp only[eO];rw[IntWalk.i64_in _ ⟨h1,h2⟩]
theorem ahM(h1:-9223372036854775808<=a*b)(h2:a*b<=9223372036854775807):eO .mul .i64 a b=some (.int .i64 (a*b)):=by
 simp only[eO];rw[IntWalk.i64_in _ ⟨h1,h2⟩]
end
section
variable {P:Program} {L L0:St} {Q:lR->St->Prop} {K:St->Prop}
theorem aKD{l:List Oper}{id:Nat}(h:opsL P false l.toArray l L (Q .normal)):c9 P (.region id l.toArray false) Q L:=⟨L,au.refl L,.inl ⟨fun e=>absurd e aj,h⟩⟩
theorem aN1{l:List Oper}{id:Nat}(m:Nat)(hm:z8 l.toArray m []=true)(h:opsL P true l.toArray l L (Q .normal)):c9 P (.region id l.toArray true) Q L:=⟨L,au.refl L,.inl ⟨fun _=>⟨m,[],hm⟩,h⟩⟩
theorem gE{l:List Oper}{id:Nat}(m:Nat)(fr:List Nat)(hm:z8 l.toArray m fr=true)(h:opsL P true l.toArray l L (Q .normal)):c9 P (.region id l.toArray true) Q L:=⟨L,au.refl L,.inl ⟨fun _=>⟨m,fr,hm⟩,h⟩⟩
theorem cO{l:List Oper}{id:Nat}(hw:au L L0)(h:opsL P false l.toArray l L0 (Q .normal)):c9 P (.region id l.toArray false) Q L:=⟨L0,hw,.inl ⟨fun e=>absurd e aj,h⟩⟩
theorem avJ{l:List Oper}{id:Nat}(m:Nat)(hm:z8 l.toArray m []=true)(hw:au L L0)(h:opsL P true l.toArray l L0 (Q .normal)):c9 P (.region id l.toArray true) Q L:=⟨L0,hw,.inl ⟨fun _=>⟨m,[],hm⟩,h⟩⟩
theorem ack{ops:Array Oper}{id:Nat}(h:jA P ops ops.size (uo ops.size false) L (Q .normal)):c9 P (.region id ops true) Q L:=⟨L,au.refl L,.inr (.inl ⟨rfl,h⟩)⟩
theorem ah5{ops:Array Oper}{id:Nat}{d:Bool}(h:∀n W X Z0 a w,ic n W X Z0 L a w->mQ n (.region 0 ops d)=true->∀id,(Code.region id ops d).wp P (aeN n W X Z0 Q) a w):c9 P (.region id ops d) Q L:=⟨L,au.refl L,.inr (.inr h)⟩
def aws(P:Program)(l:List Oper)(m b:Nat)(fr:List Nat)(x0:aV)(K:St->Prop)(Lm:St):Prop :=
 Lm.heap b=none/\(fr.all fun j=>match (l.toArray.getD j default).dst with|some d=>(Lm.heap (dv d 1)).isNone|none=>true)=true /\
  (∀om,l.toArray[m]?=some om->∃T p v i o,om.op=.store T p v/\Lm.ev p=.aB b x0.sz i o)/\opsL P true l.toArray (l.drop m) (Lm.bO b (some x0)) K
theorem ace{l:List Oper}{id:Nat}(jK:P.follows .mixedOrders=true)(m b:Nat)(fr:List Nat){x0:aV}(hm:aob l.toArray m fr=true)(hb:L.heap b=some x0)
  (h:opsL P true l.toArray (l.take m) (L.bO b none) (aws P l m b fr x0 (Q .normal))):c9 P (.region id l.toArray true) Q L:=by
 refine ah5 fun n W X Z0 a w hs hd id=>?_;have jC:∀o∈l.toArray.toList,∀t,o.dst=some t->t<n:=fun o ho t ht=>by
  simp only[mQ,nU]at hd;have:=hd o ho;rw[ht]at this;simpa using this
 exact aNg jK hm hs hb h jC (fun L' a' w' hk kF=>⟨L',hk,kF⟩)
theorem aNY{l:List Oper}{m b:Nat}{fr:List Nat}{x0:aV}{K:St->Prop}{ops:Array Oper}(h1:L.heap b=none)(h2:(fr.all fun j=>match (l.toArray.getD j default).dst with|some d=>(L.heap (dv d 1)).isNone|none=>true)=true)
  (h3:∀om,l.toArray[m]?=some om->∃T p v i o,om.op=.store T p v/\L.ev p=.aB b x0.sz i o) (h4:opsL P true l.toArray (l.drop m) (L.bO b (some x0)) K):opsL P true ops [] L (aws P l m b fr x0 K):=⟨h1,h2,h3,h4⟩
theorem aOk{x y:Code}(h:c9 P x (oF (c9 P y Q) Q) L):c9 P (.seq x y) Q L:=h
theorem aoj{c:Operand}{x y:Code}{t:Bool}(hc:L.ev c=.v (.bool t))(h1:t=true->c9 P x Q L)(h2:t=false->c9 P y Q L):c9 P (.cond c x y) Q L:=⟨t,hc,h1,h2⟩
theorem aFl{c:Code}{id:Nat}(h:c9 P c (qF id Q) L):c9 P (.block id c) Q L:=h
theorem aHJ(h:Q .normal L):c9 P .skip Q L:=h
theorem aKA(h:Q .ret L):c9 P .ret Q L:=h
theorem aFy{id:Nat}(h:Q (.exit id) L):c9 P (.exit id) Q L:=h
theorem aKG(h:K L):oF K Q .normal L:=h
theorem aLx{i:Nat}(h:Q (.exit i) L):oF K Q (.exit i) L:=h
theorem aPP(h:Q .ret L):oF K Q .ret L:=h
theorem aEL{id:Nat}(h:Q .normal L):qF id Q .normal L:=h
theorem aFX{id:Nat}(h:Q .ret L):qF id Q .ret L:=h
theorem aLE{id:Nat}(h:Q .normal L):qF id Q (.exit id) L:=by simp only[qF,if_pos];exact h
theorem aIU{id i:Nat}(aZ:i≠id)(h:Q (.exit i) L):qF id Q (.exit i) L:=by simp only[qF,if_neg aZ];exact h
theorem ad2:∀{c:Code} {Q Q':lR->St->Prop} {L:St},(∀e L,Q e L->Q' e L)->c9 P c Q L->c9 P c Q' L:=by
 intro c
 induction c with
 |skip=>exact fun hq h=>hq _ _ h
 |region id ops d=>exact fun hq ⟨L0,a,h⟩=>⟨L0,a,h.imp (fun⟨b,h⟩=>⟨b,axF (hq _) _ _ h⟩) (fun h=>h.imp (fun⟨b,h⟩=>⟨b,ar5 (hq _) _ _ _ h⟩) (fun h n W X Z0 a w hs hd id=>wp_mono (h n W X Z0 a w hs hd id) fun e a w p=>by
  cases e with
  |normal=>obtain⟨L,q1,q2⟩:=p;exact⟨L,hq _ _ q1,q2⟩
  |exit i=>obtain⟨L,q1,q2⟩:=p;exact⟨L,hq _ _ q1,q2⟩
  |ret=>obtain⟨L,q1,q2⟩:=p;exact⟨L,hq _ _ q1,q2⟩
  |_=>exact p.elim))⟩
 |seq x y ihx ihy =>
  intro Q Q' L hq h;refine ihx (fun e L h=>?_) h
  cases e with
  |normal=>exact ihy hq h
  |exit i=>exact hq _ _ h
  |ret=>exact hq _ _ h
 |cond c x y ihx ihy=>exact fun hq ⟨t,a,b,c⟩=>⟨t,a,fun e=>ihx hq (b e),fun e=>ihy hq (c e)⟩
 |block id c ih =>
  intro Q Q' L hq h;refine ih (fun e L h=>?_) h
  cases e with
  |normal=>exact hq _ _ h
  |exit i =>
   simp only[qF]at h ⊢;split
   ·rename_i e;rw[if_pos e]at h;exact hq _ _ h
   rename_i e;rw[if_neg e]at h;exact hq _ _ h
  |ret=>exact hq _ _ h
 |loop c ih =>
  intro Q Q' L hq h I hI;refine h I fun L hL=>hI L (ih (fun e L h=>?_) hL)
  cases e with
  |normal=>exact h
  |exit i=>exact hq _ _ h
  |ret=>exact hq _ _ h
 |exit id=>exact fun hq h=>hq _ _ h
 |ret=>exact fun hq h=>hq _ _ h
 |rangeFunc=>exact fun _ h=>h.elim
 |scope=>exact fun _ h=>h.elim
 |label=>exact fun _ h=>h.elim
 |goto=>exact fun _ h=>h.elim
 |refuse=>exact fun _ h=>h.elim
theorem ai6{c:Code}{α:Type}(S:α->St->St)(C:α->Prop)(μ:α->Nat)(a0:α)(hC:C a0)(h0:∃L1,au L (S a0 L1))
  (hr:∀a L1,C a->c9 P c (oF (fun L'=>∃a' L2,C a'/\μ a'<μ a/\au L' (S a' L2)) Q) (S a L1)):c9 P (.loop c) Q L:=by
 obtain⟨L1,h1⟩:=h0;intro I hI;have key:∀n a L1,μ a=n->C a->I (S a L1):=by
  intro n
  induction n using afc with
  |_ n ih =>
   intro a L1 hn hCa;refine hI _ (ad2 (fun e L h=>?_) (hr a L1 hCa))
   cases e with
   |normal =>
    obtain⟨a',L2,g1,g2,g3⟩:=h;exact⟨_,g3,ih _ (hn▸g2) a' L2 rfl g1⟩
   |exit i=>exact h
   |ret=>exact h
 exact⟨_,h1,key _ a0 L1 rfl hC⟩
theorem xV{c:Code}(h:c9 P c (oF (c9 P (.loop c) Q) Q) L):c9 P (.loop c) Q L:=by
 intro I hI;refine⟨L,au.refl L,hI L (ad2 (fun e L' h=>?_) h)⟩
 cases e with
 |normal=>exact h I hI
 |exit i=>exact h
 |ret=>exact h
theorem iZ{c:Code}(K:St->Prop)(h:c9 P c (oF K Q) L)(hk:∀L,K L->Q .normal L):c9 P c Q L :=
 ad2 (fun e L h=>by cases e with|normal=>exact hk L h|exit i=>exact h|ret=>exact h) h
end
theorem aEy{L:St}{t:Nat}{r:LV}(h:L.slot t=r):L.put (some t) r=L:=by
 cases L with
 |mk s hp =>
  simp only[St.put,St.mk.injEq,and_true];funext k;have:=iU ⟨s,hp⟩ t r k;simp only[St.put]at this;rw[this];split
  ·rename_i hk;subst hk;exact h.symm
  rfl
theorem aX{L L':St}{t:Nat}{r:LV}(h0:L'=L)(h:L.slot t=r):L'.put (some t) r=L:=by rw[h0];exact aEy h
theorem au.of_eq{L L':St}(h:L'=L):au L L':=by subst h;exact au.refl _
theorem aE1(L:St)(t:Nat)(r:LV)(s:Nat)(h:(s==t)=false):(L.put (some t) r).slot s=L.slot s:=by
 rw[iU,if_neg mA]
theorem aGv(L:St)(t:Nat)(r:LV):(L.put (some t) r).slot t=r:=by rw[iU,if_pos rfl]
section
variable {P:Program} {dr:Bool} {ops:Array Oper} {rest:List Oper} {L:St} {K:St->Prop} {dst:Option Tmp} {op:Op} {ty:TypeId} {pos:String} {af:Array Edge}
theorem ib{j d:Nat}{b v want res:Bool}(h1:(ops[j]?).bind (·.dst)=some d)(h2:L.slot d=.v (.bool b))(h3:b=v)(h4:(v==want)=res):
  eg ops L ⟨dst,op,ty,pos,af,some (j,want)⟩ res:=⟨d,h1,.inl ⟨b,h2,by rw[h3,h4]⟩⟩
theorem aIX{j d:Nat}{want:Bool}(h1:(ops[j]?).bind (·.dst)=some d)(h2:L.slot d=.aY []):eg ops L ⟨dst,op,ty,pos,af,some (j,want)⟩ false:=⟨d,h1,.inr ⟨h2,rfl⟩⟩
theorem vP{L':St}(h:L=L')(k:K L'):opsL P dr ops [] L K:=by subst h;exact k
end
section
variable {P:Program} {L:St}
theorem eG{t:Nat}{x y:LV}(h:L.slot t=x)(hi:dt L.heap x y):pB P [.tmp t] L y [] :=
 ⟨[x],[y],L.heap,[],.cons h .nil,cd.le_refl _,.cons (.dH hi) .nil,abp,rfl,fun k b h=>by simp at h,rfl⟩
theorem lZ{t:Nat}{x y:LV}(bs:List Nat)(h0:bs.contains 0=false)(h:L.slot t=x)(hi:dt (L.b9 bs).heap x y):pB P [.tmp t] L y [] :=
 ⟨[x],[y],(L.b9 bs).heap,[],.cons h .nil,vW bs h0,.cons (.dH hi) .nil,abp,rfl,fun k b h=>by simp at h,rfl⟩
theorem uC{t u:Nat}{x y x' y':LV}(h:L.slot t=x)(hi:dt L.heap x y)(h':L.slot u=x')(qW:dt L.heap x' y'):pB P [.tmp t,.tmp u] L (.aY [y,y']) [] :=
 ⟨[x,x'],[y,y'],L.heap,[],.cons h (.cons h' .nil),cd.le_refl _,.cons (.dH hi) (.cons (.dH qW) .nil),abp,rfl,fun k b h=>by simp at h,rfl⟩
theorem adC{t u:Nat}{x y x' y':LV}(bs:List Nat)(h0:bs.contains 0=false)(h:L.slot t=x)(hi:dt (L.b9 bs).heap x y)(h':L.slot u=x')(qW:dt (L.b9 bs).heap x' y'):pB P [.tmp t,.tmp u] L (.aY [y,y']) [] :=
 ⟨[x,x'],[y,y'],(L.b9 bs).heap,[],.cons h (.cons h' .nil),vW bs h0,.cons (.dH hi) (.cons (.dH qW) .nil),abp,rfl,fun k b h=>by simp at h,rfl⟩
theorem aea{t u s:Nat}{x y x' y' x'' y'':LV}(bs:List Nat)(h0:bs.contains 0=false)(h:L.slot t=x)(hi:dt (L.b9 bs).heap x y)(h':L.slot u=x')(qW:dt (L.b9 bs).heap x' y')
  (h'':L.slot s=x'') (aGu:dt (L.b9 bs).heap x'' y''):pB P [.tmp t,.tmp u,.tmp s] L (.aY [y,y',y'']) [] :=
 ⟨[x,x',x''],[y,y',y''],(L.b9 bs).heap,[],.cons h (.cons h' (.cons h'' .nil)),vW bs h0,.cons (.dH hi) (.cons (.dH qW) (.cons (.dH aGu) .nil)),abp,rfl,fun k b h=>by simp at h,rfl⟩
theorem age{t b sz len:Nat}{blk:aV}(h:L.slot t=.ref b sz 0 len)(hb:L.heap b=some blk)(hp:aO blk.vals=true):pB P [.tmp t] L (.ref 1 sz 0 len) [blk] :=
 ⟨[.ref b sz 0 len],[.ref 1 sz 0 len],L.heap,[b],.cons h .nil,cd.le_refl _,.cons (.ref (k:=0) rfl) .nil,by simp,rfl,fun k c hk=>by
  cases k with
  |zero=>simp at hk;subst hk;exact⟨blk,hb,rfl,hp⟩
  |succ k=>simp at hk,rfl⟩
theorem iJ{a:Nat}{T:TypeId}{b sz:Nat}{x y:LV}{m:Bool}{n:Nat}{ag:Bool}(bs:List Nat)(h0:bs.contains 0=false)(h:L.slot a=.aB b sz 0 0)(hb:L.heap b=some ⟨sz,[x],m⟩)
  (hx:x.aq=sz) (cJ:x.at 0 n ag=some x) (hT:bS P T n ag) (hi:dt (L.b9 bs).heap x y):pB P [.cell a T] L y [] :=
 ⟨[x],[y],(L.b9 bs).heap,[],.cons ⟨b,sz,0,0,_,x,n,ag,h,hb,rfl,rfl,hx,cJ,hT⟩ .nil,vW bs h0,.cons (.dH hi) .nil,abp,rfl,fun k b h=>by simp at h,rfl⟩
theorem abG{bs:List Nat}{b sz off len:Nat}{vals:List LV}{m:Bool}(hb:L.heap b=some ⟨sz,vals,m⟩)(uj:bs.contains b=true)(hp:aO vals=true)(hl:off+len<=vals.length):
  dt (L.b9 bs).heap (.ref b sz off len) (.list sz ((vals.drop off).take len)) :=
 dt.ref (blk:=⟨sz,vals,m&&!bs.contains b⟩) (by simp[St.b9,hb]) rfl hp hl (by rw[uj];simp)
theorem da{α:Type}{e:α->LV}{ag:Bool}{bs:List Nat}{b sz len:Nat}{l:List α}{m:Bool}(he:jF e sz ag)(hb:L.heap b=some ⟨sz,l.map e,m⟩)(uj:bs.contains b=true)(hl:len=l.length):
  dt (L.b9 bs).heap (.ref b sz 0 len) (.list sz (l.map e)):=by
 have:=abG (L:=L) (bs:=bs) (off:=0) (len:=len) hb uj (bm he l) (by simp[hl]);rwa[jv,List.take_of_length_le (by simp[hl])]at this
end
section
variable {P:Program} {H:cd} {ρ:Operand->LV}
theorem aM.sR{c x y:Operand}{t:Bool}(h:ρ c=.v (.bool t))(ht:t=true):aM P H ρ (.pick c x y) (ρ x):=by
 have:=aM.pick (P:=P) (H:=H) (x:=x) (y:=y) h;rwa[if_pos ht]at this
theorem aM.r7{c x y:Operand}{t:Bool}(h:ρ c=.v (.bool t))(ht:t=false):aM P H ρ (.pick c x y) (ρ y):=by
 have:=aM.pick (P:=P) (H:=H) (x:=x) (y:=y) h;rwa[if_neg (by simp[ht])]at this
end
section
variable {P:Program} {dr:Bool} {ops:Array Oper} {rest:List Oper} {L:St} {K:St->Prop} {dst:Option Tmp} {ty:TypeId} {pos:String} {af:Array Edge} {x:Operand}
theorem mv(k:opsL P dr ops rest (L.put dst (L.ev x)) K):opsL P dr ops (⟨dst,.move x,ty,pos,af,none⟩::rest) L K:=al rfl (.move _) k
theorem asg(k:opsL P dr ops rest (L.put dst (L.ev x)) K):opsL P dr ops (⟨dst,.assign x,ty,pos,af,none⟩::rest) L K:=al rfl (.assign _) k
end
section
variable {P:Program} {H:cd} {ρ:Operand->LV} {α:Type} {e:α->LV} {sz:Nat} {ag:Bool} {T E:TypeId} {x y z:Operand} {l:List α} {a h:Nat} {k k':IntKind}
theorem aM.apg(_he:jF e sz ag)(hx:ρ x=.list sz (l.map e))(hT:P.underlying T=some (.slice E))(hE:bS P E sz ag)(cI:ρ y=.v (.int k (a:Nat)))(jf:ρ z=.v (.int k' (h:Nat)))(h1:a<=h)(h2:h<=l.length):
  aM P H ρ (.slice T x (some y) (some z) none) (.list sz (((l.take h).drop a).map e)):=by
 have:=aM.acV (P:=P) (H:=H) (ρ:=ρ) (la:=some y) (ha:=some z) (a:=a) (h:=h) hx hT hE (fun w hw=>by cases hw;exact⟨_,cI⟩) (fun h=>by cases h) (fun w hw=>by cases hw;exact⟨_,jf⟩) (fun h=>by cases h) h1 (by simpa using h2);rwa[<-va,<-abj]at this
theorem aM.ad9(_he:jF e sz ag)(hx:ρ x=.list sz (l.map e))(hT:P.underlying T=some (.slice E))(hE:bS P E sz ag)(cI:ρ y=.v (.int k (a:Nat)))(h1:a<=l.length):
  aM P H ρ (.slice T x (some y) none none) (.list sz ((l.drop a).map e)):=by
 have:=aM.acV (P:=P) (H:=H) (ρ:=ρ) (la:=some y) (ha:=none) (a:=a) (h:=(l.map e).length) hx hT hE (fun w hw=>by cases hw;exact⟨_,cI⟩) (fun h=>by cases h) (fun w hw=>by cases hw) (fun _=>rfl) (by simpa using h1) (bF _);rwa[List.take_length,<-abj]at this
theorem aM.avw(_he:jF e sz ag)(hx:ρ x=.list sz (l.map e))(hT:P.underlying T=some (.slice E))(hE:bS P E sz ag)(jf:ρ z=.v (.int k' (h:Nat)))(h2:h<=l.length):
  aM P H ρ (.slice T x none (some z) none) (.list sz ((l.take h).map e)):=by
 have:=aM.acV (P:=P) (H:=H) (ρ:=ρ) (la:=none) (ha:=some z) (a:=0) (h:=h) hx hT hE (fun w hw=>by cases hw) (fun _=>rfl) (fun w hw=>by cases hw;exact⟨_,jf⟩) (fun h=>by cases h) J (by simpa using h2);rwa[jv,<-va]at this
theorem eY(he:jF e sz ag)(n:Nat)(l:List α):(LV.list n (l.map e)).pure=true:=by simp only[LV.pure];exact bm he l
end
theorem e1(L:St)(t:Nat):L.ev (.tmp t)=L.slot t:=rfl
theorem e2(L:St)(k:IntKind)(n:Int):L.ev (.const (.int k n))=.v (.int k n):=rfl
theorem e3(L:St)(b:Bool):L.ev (.const (.bool b))=.v (.bool b):=rfl
theorem e4(L:St):L.ev (.const (.slice none 0 0))=.v (.slice none 0 0):=rfl
theorem p1(L:St)(t:Nat)(r:LV):(L.put (some t) r).slot t=r:=aGv L t r
theorem p2(L:St)(t:Nat)(r:LV)(s:Nat)(h:(s==t)=false):(L.put (some t) r).slot s=L.slot s:=aE1 L t r s h
theorem p3(L:St)(r:LV):L.put none r=L:=rfl
theorem q1(L:St)(b:Nat)(x:Option aV)(s:Nat):(L.bO b x).slot s=L.slot s:=rfl
theorem q2(L:St)(bs:List Nat)(s:Nat):(L.b9 bs).slot s=L.slot s:=rfl
theorem q3(L:St)(b:Nat)(s:Nat):(L.kill b).slot s=(L.slot s).kill b:=rfl
theorem l1{α β:Type}(f:α->β)(l:List α):(l.map f).length=l.length:=cC f
theorem ub{P:Program}{dst:Option Tmp}{ty:TypeId}{pos:String}{af:Array Edge}{g:Option (Nat×Bool)}{rest:List Oper}{L:St}{K:St->Prop}{f:FuncId}{xs:Array Operand}{xh:Array TypeId}{args:List LV}{r:LV}{ops:Array Oper}(b:Nat){blk blk':aV}(hg:eg ops L ⟨dst,.call ⟨.value (.func f),xs,xh⟩,ty,pos,af,g⟩ true)
  (hb:L.heap b=some blk) (hm:blk.mt=true) (hp:aO blk.vals=true) (ha:aag L.heap b (xs.toList.map L.ev) args) (hn:Names b (xs.toList.map L.ev)) (hk:pe P f blk args r blk')
  (r8:blk'.mt=true) (mZ:aO blk'.vals=true) (hr:r.pure=true) (k:opsL P false ops rest ((L.bO b (some blk')).put dst r) K) :
  opsL P false ops (⟨dst,.call ⟨.value (.func f),xs,xh⟩,ty,pos,af,g⟩::rest) L K :=
 aaj b hg hb hm hp ha hn hk r8 mZ (by rw[LV.db _ _ hr];exact k)
end Go.Lg
end
