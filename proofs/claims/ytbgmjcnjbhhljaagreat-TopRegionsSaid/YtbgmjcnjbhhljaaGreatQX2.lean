/- Texts LgK, LgO of this proof, joined. -/
import Derived.Test.YtbgmjcnjbhhljaaGreatQX1
import Derived.Deep.Upon
import Derived.Lib.Overlaps
set_option linter.unusedVariables false
set_option linter.unusedSimpArgs false
open Array renaming all_eq_true_iff_forall_mem->aqA,ext'->tv,getD_eq_getD_getElem?->cU,getElem?_eq_getElem->nF,getElem?_eq_some_iff->fY,getElem?_modify->api,getElem?_setIfInBounds_ne->gk,getElem?_setIfInBounds_self_of_lt->kq,length_toList->jI,map->abo,mapM_eq_mapM_toList->apL,mem_of_getElem?->aqm,mem_toList_iff->abG,range->ao3,replicate->nD,size_append->ac2,toList_append->afN
open Bool renaming and_eq_true->cY,false_eq_true->zU,not_eq_true'->wa,or_eq_true->qt
open Classical renaming byContradiction->nR,not_forall->avN,not_imp->awl
open Int renaming natCast_mul->amq
open List renaming all_eq_true->mg,append_nil->eX,contains_iff_mem->oO,drop_drop->oL,drop_left->vO,drop_of_length_le->iP,drop_zero->gX,eq_nil_of_length_eq_zero->kJ,ext_getElem->apa,flatten_append->alv,flatten_cons->aft,getD_cons_succ->iG,getD_cons_zero->ij,getD_eq_getElem?_getD->bf,getElem?_append_left->vf,getElem?_append_right->alg,getElem?_cons_succ->adb,getElem?_cons_zero->pE,getElem?_eq_getElem->bO,getElem?_eq_some_iff->lg,getElem?_map->iT,getElem?_toArray->acG,length_append->kH,length_cons->dO,length_drop->oe,length_map->bF,length_nil->ff,length_take->eE,mapM_cons->ao6,map_cons->jh,map_drop->ajg,map_nil->nK,map_take->pU,map_toArray->xy,mem_append->p7,mem_filterMap->ui,mem_map->fB,mem_mapIdx->apC,mem_of_getElem?->rK,mem_range->xL,mem_replicate->xT,mem_singleton->qk,nil_append->eF,nodup_nil->y5,range->eH,replicate->aJ,replicate_succ->ahq,set_cons_succ->cd,set_cons_zero->cw,size_toArray->qS,take_append_drop->mP,take_left->acM,take_nil->gE
open List.cons renaming injEq->dq
open Nat renaming add_mul->ep,add_zero->jK,beq->mO,le_refl->bA,le_trans->bW,lt_or_ge->fH,min->aci,min_eq_left->jE,min_self->amj,mod_eq_of_lt->fa,mul_assoc->dZ,mul_eq_zero->aeY,mul_le_mul_right->dT,reduceAdd->aW,reduceBEq->aS,reduceEqDiff->cy,reduceMul->aZ,strongRecOn->zf,sub_self->sS,succ_mul->sZ,testBit_or->ard,zero_add->fW,zero_le->bJ,zero_mul->aaj
open Option renaming getD_some->vS,isNone_iff_eq_none->rT,map_eq_some_iff->ue,map_some->kj,ne_none_iff_exists'->afF
open Option.some renaming injEq->dN
open Prod.mk renaming injEq->uQ
section
set_option linter.unusedVariables false
set_option linter.unusedSimpArgs false
namespace Go.Lg
mutual
def LV.bl(f:Nat->Nat):LV->LV
 | .any=>.any
 | .v x=>.v x
 | .list sz l=>.list sz (eO f l)
 | .agg l=>.agg (eO f l)
 | .ref b sz off len=>.ref (f b) sz off len
 | .gm b sz off len cap=>.gm (f b) sz off len cap
 | .ax b sz i o=>.ax (f b) sz i o
 | .bg c=>.bg (c.bl f)
 | .bQ g l=>.bQ g (eO f l)
 | .gZ g l=>.gZ g (eO f l)
 | .aQ l=>.aQ (eO f l)
def eO(f:Nat->Nat):List LV->List LV
 | []=>[]
 |x::xs=>x.bl f::eO f xs
end
mutual
theorem LV.dF(f:Nat->Nat):∀(x:LV),x.pure=true->x.bl f=x
 | .any,_=>rfl
 | .v _,_=>rfl
 | .list sz l,h=>by simp only[LV.bl,vp f l (by simpa[LV.pure]using h)]
 | .agg l,h=>by simp only[LV.bl,vp f l (by simpa[LV.pure]using h)]
 | .ref ..,h=>by simp[LV.pure]at h
 | .gm ..,h=>by simp[LV.pure]at h
 | .ax ..,h=>by simp[LV.pure]at h
 | .bg c,h=>by simp only[LV.bl,LV.dF f c (by simpa[LV.pure]using h)]
 | .bQ g l,h=>by simp only[LV.bl,vp f l (by simpa[LV.pure]using h)]
 | .gZ g l,h=>by simp[LV.pure]at h
 | .aQ l,h=>by simp[LV.pure]at h
theorem vp(f:Nat->Nat):∀(l:List LV),aN l=true->eO f l=l
 | [],_=>rfl
 |x::xs,h=>by simp only[eO,LV.dF f x (pure_cons h).1,vp f xs (pure_cons h).2]
end
mutual
theorem LV.aet(f:Nat->Nat):∀(x:LV),(x.bl f).aj=x.aj
 | .any=>rfl | .v _=>rfl | .list ..=>rfl | .ref ..=>rfl | .gm ..=>rfl | .ax ..=>rfl | .bg _=>rfl | .bQ ..=>rfl | .gZ ..=>rfl | .aQ _=>rfl
 | .agg l=>by simp only[LV.bl,LV.aj,ai1 f l]
theorem ai1(f:Nat->Nat):∀(l:List LV),bI (eO f l)=bI l
 | []=>rfl
 |x::xs=>by simp only[eO,bI,LV.aet f x,ai1 f xs]
end
theorem LV.acF(f:Nat->Nat)(x:LV):(x.bl f).isAgg=x.isAgg:=by cases x<;>rfl
section
variable {Z:Nat->Prop} {μ aF:Nat->Option Nat} {w:World}
mutual
theorem ao.bl(f:Nat->Nat)(hm:∀b id,μ b=some id->aF (f b)=some id):∀(lv:LV) (cs:List Value),ao Z μ w lv cs->ao Z aF w (lv.bl f) cs
 | .any,_,h=>by simpa[ao,LV.bl]using h
 | .v x,cs,h=>by simpa[ao,LV.bl]using h
 | .list sz l,cs,h=>by
   simp only[ao,LV.bl]at h ⊢;obtain⟨a,len,cap,h1,h2,h3,h4,h9⟩:=h;have hl:(eO f l).length=l.length:=by
    clear h2 h4 h9;induction l with
    |nil=>rfl
    |cons x xs ih=>simp[eO,ih]
   refine⟨a,len,cap,h1,by rw[hl];exact h2,h3,?_,by rw[vp f l h9];exact h9⟩;rcases h4 with h4|⟨blk,off,c,T,fz,part,rest,e1,e2,e3,e4,e5⟩
   ·left;subst h4;rfl
   exact .inr ⟨blk,off,c,T,fz,part,rest,e1,e2,e3,e4,aw.bl f hm sz l part e5⟩
 | .agg l,cs,h=>by
   simp only[ao,LV.bl]at h ⊢;exact a8.bl f hm l cs h
 | .ref b sz off len,cs,h=>by
   simp only[ao,LV.bl]at h ⊢;rcases h with h|⟨id,cap,c,T,fz,h1,h2,h3⟩
   ·exact lp
   exact .inr ⟨id,cap,c,T,fz,h1,hm _ _ h2,h3⟩
 | .gm b sz off len cap,cs,h=>by
   simp only[ao,LV.bl]at h ⊢;obtain⟨id,c,T,fz,h1,h2,h3⟩:=h;exact⟨id,c,T,fz,h1,hm _ _ h2,h3⟩
 | .ax b sz i o,cs,h=>by
   simp only[ao,LV.bl]at h ⊢;obtain⟨id,h1,h2⟩:=h;exact⟨id,h1,hm _ _ h2⟩
 | .bg c,cs,h=>by
   simp only[ao,LV.bl]at h ⊢;obtain⟨blk,off,cc,T,fz,part,rest,h1,h2,h3,h4,h5,h6,h7⟩:=h;exact⟨blk,off,cc,T,fz,part,rest,h1,h2,h3,h4,by rw[LV.aet];exact h5,ao.bl f hm c part h6,by rw[LV.dF f c h7];exact h7⟩
 | .bQ g cap,cs,h=>by
   simp only[ao,LV.bl]at h ⊢;obtain⟨vs,h1,h2,h3⟩:=h;exact⟨vs,h1,aw.bl f hm 1 cap vs.toList h2,by rw[vp f cap h3];exact h3⟩
 | .gZ g cap,cs,h=>by
   simp only[ao,LV.bl]at h ⊢;obtain⟨vs,h1,h2⟩:=h;exact⟨vs,h1,aw.bl f hm 1 cap vs.toList h2⟩
 | .aQ _,_,h=>by simp[ao]at h
theorem aw.bl(f:Nat->Nat)(hm:∀b id,μ b=some id->aF (f b)=some id)(sz:Nat):∀(l:List LV) (cs:List Value),aw Z μ w sz l cs->aw Z aF w sz (eO f l) cs
 | [],cs,h=>by simpa[aw,eO]using h
 |x::xs,cs,h=>by
   simp only[aw,eO]at h ⊢;obtain⟨c1,c2,h1,h2,h3,h4⟩:=h;exact⟨c1,c2,h1,h2,ao.bl f hm x c1 h3,aw.bl f hm sz xs c2 h4⟩
theorem a8.bl(f:Nat->Nat)(hm:∀b id,μ b=some id->aF (f b)=some id):∀(l:List LV) (cs:List Value),a8 Z μ w l cs->a8 Z aF w (eO f l) cs
 | [],cs,h=>by simpa[a8,eO]using h
 |x::xs,cs,h=>by
   simp only[a8,eO]at h ⊢;obtain⟨c1,c2,h1,h2,h3,h4⟩:=h;exact⟨c1,c2,h1,by rw[LV.aet];exact h2,ao.bl f hm x c1 h3,a8.bl f hm xs c2 h4⟩
end
theorem dD.bl(f:Nat->Nat)(hm:∀b id,μ b=some id->aF (f b)=some id){lv:LV}{v:Value}(h:dD Z μ w lv v):dD Z aF w (lv.bl f) v :=
 ⟨fun e=>let ⟨cs,h1,h2⟩:=h.1 (by rwa[LV.acF]at e);⟨cs,h1,ao.bl f hm _ _ h2⟩,fun e=>ao.bl f hm _ _ (h.2 (by rwa[LV.acF]at e))⟩
theorem dQ.bl(f:Nat->Nat)(hm:∀b id,μ b=some id->aF (f b)=some id):∀(l:List LV) (vs:List Value),dQ Z μ w l vs->dQ Z aF w (eO f l) vs
 | [],_,h=>h
 |_::xs,_,⟨v,gV,h1,h2,h3⟩=>⟨v,gV,h1,h2.bl f hm,dQ.bl f hm xs gV h3⟩
theorem aC.bl(f:Nat->Nat)(hm:∀b id,μ b=some id->aF (f b)=some id){lv:LV}{v:Value}(h:aC Z μ w lv v):aC Z aF w (lv.bl f) v:=by
 cases lv with
 |aQ l=>obtain⟨vs,h1,h2⟩:=h;exact⟨vs,h1,dQ.bl f hm _ _ h2⟩
 |any=>trivial
 |_=>exact dD.bl f hm h
end
def nV(bs:List aL):bn:=fun n=>if n=0 then none else bs[n-1]?
def adR(P:Program)(f:FuncId):Prop:=∃fn,P.funcs[f]?=some fn/\fn.body.isNone=false/\(fn.name== "runtime.NumGoroutine")=false
def ke(P:Program)(f:FuncId)(args:List LV)(r:LV)(bs:List aL):Prop :=
 adR P f/\∀(W:World) (Z0:Nat->Prop) (vs:List Value),(∀id,Z0 id->id<W.heap.size)->dQ Z0 (fun _=>none) W args vs ->
  Calls P f vs.toArray W fun e w'=>∃v μ Z,e=.returned v/\Core W XS.no Z0 μ Z (nV bs) w'/\aC Z μ w' r v
def cQ(d k:Nat):Nat:=1000000+d*16+k
def rJ(μ cK:Nat->Option Nat)(d:Nat):Nat->Option Nat:=fun b =>
 if 1000000+d*16<=b/\b<1000000+d*16+16 then(cK (b-(1000000+d*16))).or (μ b)else μ b
section
variable {W w w':World} {X:XS} {Z0 Z Zr:Nat->Prop} {μ cK:Nat->Option Nat} {H:bn} {bs:List aL} {d:Nat}
theorem Core.call(hc:Core W X Z0 μ Z H w)(hr:Core w XS.no Z cK Zr (nV bs) w')(hlen:bs.length<16)(g8:∀blk∈bs,aN blk.vals=true)
  (hH:∀i blk,bs[i]?=some blk->∃m,H (cQ d (i+1))=some ⟨blk.sz,blk.vals,m⟩/\(blk.mt=false->m=false)/\μ (cQ d (i+1))=none) :
  ∃Z',Core W X Z0 (rJ μ cK d) Z' H w'/\(∀id,Zr id->Z' id)/\(∀id,Z id->Z' id)/\(∀b id,μ b=some id->rJ μ cK d b=some id)/\Frame Z μ w w' /\
   (∀k id,cK k=some id->rJ μ cK d (cQ d k)=some id):=by
 have hk:∀k id,cK k=some id->∃blk,1<=k/\k<=bs.length/\bs[k-1]?=some blk/\nV bs k=some blk:=fun k id h=>by
  obtain⟨blk,h1,_⟩:=hr.heap k id h;have h0:k≠0:=by rintro rfl;simp[nV]at h1
  have h2:bs[k-1]?=some blk:=by simpa[nV,h0]using h1
  have:=(lg.1 h2).1;exact⟨blk,aa,aa,h2,h1⟩
 have hHk:∀k id,cK k=some id->∃blk m,bs[k-1]?=some blk/\H (cQ d k)=some ⟨blk.sz,blk.vals,m⟩/\(blk.mt=false->m=false)/\μ (cQ d k)=none/\nV bs k=some blk/\k<16:=fun k id h=>by
  obtain⟨blk,h1,h2,h3,h4⟩:=hk k id h;obtain⟨m,g1,g2,g3⟩:=hH (k-1) blk h3;have:k-1+1=k:=aa;rw[this]at g1 g3;exact⟨blk,m,h3,g1,g2,g3,h4,aa⟩
 have gJ:∀k id,cK k=some id->rJ μ cK d (cQ d k)=some id:=fun k id h=>by
  obtain⟨blk,m,_,_,_,_,_,h6⟩:=hHk k id h;unfold rJ cQ;rw[if_pos aa];have:1000000+d*16+k-(1000000+d*16)=k:=aa;rw[this,h];rfl
 have hinv:∀b id,rJ μ cK d b=some id->(∃k,b=cQ d k/\cK k=some id)\/μ b=some id:=fun b id h=>by
  unfold rJ at h;split at h
  ·rename_i hb
   cases hq:cK (b-(1000000+d*16))with
   |none=>rw[hq]at h;exact .inr ga
   |some id' =>
    rw[hq]at h;simp only[Option.some_or,dN]at h;subst h;exact .inl ⟨b-(1000000+d*16),by unfold cQ;omega,hq⟩
  exact .inr h
 have hold:∀b id,μ b=some id->rJ μ cK d b=some id:=fun b id h=>by
  unfold rJ;split
  ·rename_i hb
   cases hq:cK (b-(1000000+d*16))with
   |none=>simpa using h
   |some id' =>
    obtain⟨blk,m,_,_,_,g,_⟩:=hHk _ _ hq;have:cQ d (b-(1000000+d*16))=b:=by unfold cQ;omega
    rw[this,h]at g;cases g
  exact h
 have bD:∀k id,cK k=some id->w.heap.size<=id:=fun k id h=>(hr.own k id h).resolve_right XS.xo;have ni:∀k,k<w.heap.size->w'.heap[k]?=w.heap[k]?:=fun k hk=>hr.bB.block k hk XS.xo;have cJ:=hc.ao9 ni;refine⟨fun id=>Zr id\/∃k blk,cK k=some id/\H (cQ d k)=some blk/\blk.mt=false,⟨?_,?_,fun id h=>.inl (hr.fZ id (hc.fZ id h)),?_,?_,?_,?_,hc.kQ,fun id h=>hold 0 id (hc.x1 id h),?_,?_,?_⟩,
  fun id h=>.inl h,fun id h=>.inl (hr.fZ id h),hold,cJ,gJ⟩
 ·exact⟨hr.bB.os.trans hc.bB.os,hr.bB.tape.trans hc.bB.tape,hr.bB.output.trans hc.bB.output,bW hc.bB.size hr.bB.size,
   fun k hk hx=>(ni k (by have:=hc.bB.size;omega)).trans (hc.bB.block k hk hx),
   fun k hx c T fz h=>let ⟨c',g1,g2⟩:=hc.bB.qm k hx c T fz h;⟨c',(ni k (fY.1 g1).1).trans g1,g2⟩⟩
 ·rintro id (h|⟨k,blk,h,_⟩)
  ·exact hr.iD id h
  exact hr.lt h
 ·rintro id (h|⟨k,blk,h,_⟩)
  ·rcases hr.g9 id h with h|h|h
   ·exact hc.g9 id h
   ·exact .inr (.inl (bW hc.bB.size h))
   exact h.elim
  exact .inr (.inl (bW hc.bB.size (bD k id h)))
 ·intro b b' id h h';rcases hinv b id h with⟨k,rfl,h1⟩|h1<;>rcases hinv b' id h' with⟨k',rfl,h2⟩|h2
  ·rw[hr.inj k k' id h1 h2]
  ·have:=bD k id h1;have:=hc.lt h2;omega
  ·have:=bD k' id h2;have:=hc.lt h1;omega
  exact hc.inj b b' id h1 h2
 ·intro b id h;rcases hinv b id h with⟨k,rfl,h1⟩|h1
  ·exact .inl (bW hc.bB.size (bD k id h1))
  exact hc.own b id h1
 ·intro b id h hx;rcases hinv b id h with⟨k,rfl,h1⟩|h1
  ·have:=bD k id h1;have:=hc.kQ id (.inl hx);have:=hc.bB.size;omega
  exact hc.x0 b id h1 hx
 ·intro b id blk h hb hm hz;rcases hinv b id h with⟨k,rfl,h1⟩|h1
  ·obtain⟨pM,m,_,g2,g3,_,g5,_⟩:=hHk k id h1;rw[g2]at hb;cases hb;simp only at hm;subst hm;have dE:pM.mt=true:=by
    cases e:pM.mt with
    |true=>rfl
    |false=>exact absurd (g3 e) az
   rcases hz with hz|⟨k',blk',j1,j2,j3⟩
   ·exact hr.gL k id pM h1 g5 dE hz
   have:=hr.inj k k' id h1 j1;subst this;rw[g2]at j2;cases j2;simp at j3
  rcases hz with hz|⟨k',blk',j1,j2,j3⟩
  ·rcases hr.g9 id hz with h|h|h
   ·exact hc.gL b id blk h1 hb hm h
   ·have:=hc.lt h1;omega
   exact h.elim
  have:=bD k' id j1;have:=hc.lt h1;omega
 ·intro b id blk h hb hm;rcases hinv b id h with⟨k,rfl,h1⟩|h1
  ·exact .inr ⟨k,blk,h1,hb,hm⟩
  exact .inl (hr.fZ id (hc.bo b id blk h1 hb hm))
 intro b id h;rcases hinv b id h with⟨k,rfl,h1⟩|h1
 ·obtain⟨pM,m,g1,g2,g3,_,g5,_⟩:=hHk k id h1;obtain⟨ahf,j1,c,T,part,rest,j2,j3,j4⟩:=hr.heap k id h1;rw[g5]at j1;cases j1;exact⟨_,g2,c,T,part,rest,j2,j3,aw.fE (fun id h=>.inl h) (fun _ _=>rfl) _ _ _ (g8 pM (rK g1)) j4⟩
 obtain⟨blk,g1,g2⟩:=hc.heap b id h1;exact⟨blk,g1,g2.mono (fun id h=>.inl (hr.fZ id h)) hold cJ (ni id (hc.lt h1))⟩
def re(blk:aL):bn:=fun n=>if n=0 then some blk else none
def jr(id:Nat):Nat->Option Nat:=fun n=>if n=0 then some id else none
def jt(P:Program)(f:FuncId)(blk:aL)(args:List LV)(r:LV)(blk':aL):Prop :=
 adR P f/\∀(W:World) (Z0:Nat->Prop) (vs:List Value) (i0:Nat),(∀id,Z0 id->id<W.heap.size)->¬Z0 i0->pK Z0 (jr i0) W blk i0->dQ Z0 (jr i0) W args vs ->
  Calls P f vs.toArray W fun e w'=>∃v μ Z,e=.returned v/\Core W (XS.one i0) Z0 μ Z (re blk') w'/\aC Z μ w' r v
theorem Core.avp{b i0:Nat}{blk blk':aL}(hc:Core W X Z0 μ Z H w)(hb:μ b=some i0)(hH:H b=some blk)(hm:blk.mt=true)(lQ:blk'.mt=true)(fy:aN blk'.vals=true)
  (hr:Core w (XS.one i0) Z cK Zr (re blk') w') :
  ∃Z',Core W X Z0 μ Z' (fun k=>if k=b then some blk' else H k) w'/\(∀id,Zr id->Z' id)/\(∀id,Z id->Z' id)/\Frame Z μ w w'/\∀k id,cK k=some id->k=0/\id=i0:=by
 have hr0:=hr.x1 i0 rfl;have kF:∀k id,cK k=some id->k=0/\id=i0:=fun k id h=>by
  obtain⟨ahf,h1,_⟩:=hr.heap k id h;have:k=0:=by
   unfold re at h1;split at h1
   ·assumption
   cases h1
  subst this;rw[hr0]at h;cases h;exact⟨rfl,rfl⟩
 have aCi:=hc.lt hb;have ni:∀k,k<w.heap.size->k≠i0->w'.heap[k]?=w.heap[k]?:=fun k hk hx=>hr.bB.block k hk (fun e=>hx (XS.aik e));have km:¬Z i0:=hc.gL b i0 blk hb hH hm;have cJ:Frame Z μ w w':=by
  refine⟨fun id h=>ni id (hc.iD id h) (fun e=>km (e▸h)),fun c id h cc T fz rp=>?_⟩;by_cases e:id=i0
  ·subst e;exact hr.bB.qm id (.inl rfl) cc T fz rp
  exact⟨cc,(ni id (hc.lt h) e).trans rp,rfl⟩
 refine⟨Zr,⟨?_,hr.iD,fun id h=>hr.fZ id (hc.fZ id h),?_,hc.inj,hc.own,hc.x0,hc.kQ,hc.x1,?_,?_,?_⟩,fun _ h=>h,hr.fZ,cJ,kF⟩
 ·refine⟨hr.bB.os.trans hc.bB.os,hr.bB.tape.trans hc.bB.tape,hr.bB.output.trans hc.bB.output,bW hc.bB.size hr.bB.size,fun k hk hx=>?_,fun k hx c T fz h=>?_⟩
  ·have:k≠i0:=by
    rintro rfl;rcases hc.own b k hb with h|h
    ·omega
    exact hx h
   exact(ni k (by have:=hc.bB.size;omega) this).trans (hc.bB.block k hk hx)
  obtain⟨c',g1,g2⟩:=hc.bB.qm k hx c T fz h;by_cases e:k=i0
  ·subst e;obtain⟨c2,g3,g4⟩:=hr.bB.qm k (.inl rfl) c' T fz g1;exact⟨c2,g3,g4.trans g2⟩
  exact⟨c',(ni k (fY.1 g1).1 e).trans g1,g2⟩
 ·intro id h;rcases hr.g9 id h with h|h|h
  ·exact hc.g9 id h
  ·exact .inr (.inl (bW hc.bB.size h))
  exact h.elim
 ·intro c id bk h g dW hz;rcases hr.g9 id hz with hz'|hz'|hz'
  ·by_cases e:c=b
   ·subst e;rw[hb]at h;cases h;exact km hz'
   rw[if_neg e]at g;exact hc.gL c id bk h g dW hz'
  ·have:=hc.lt h;omega
  exact hz'.elim
 ·intro c id bk h g dW;by_cases e:c=b
  ·rw[if_pos e]at g;cases g;rw[lQ]at dW;cases dW
  rw[if_neg e]at g;exact hr.fZ id (hc.bo c id bk h g dW)
 intro c id h;by_cases e:c=b
 ·subst e;rw[hb]at h;cases h;obtain⟨bk,g1,cc,T,part,rest,g2,g3,g4⟩:=hr.heap 0 i0 hr0;simp only[re,if_true]at g1
  cases g1
  exact⟨blk',if_pos rfl,cc,T,part,rest,g2,g3,aw.fE (fun _ h=>h) (fun _ _=>rfl) _ _ _ fy g4⟩
 obtain⟨bk,g1,g2⟩:=hc.heap c id h;have aG:id≠i0:=fun e'=>e (hc.inj c b id h (e'▸hb));exact⟨bk,by rw[if_neg e];exact g1,g2.mono hr.fZ (fun _ _ h=>h) cJ (ni id (hc.lt h) aG)⟩
end
end Go.Lg
namespace Go.Lg
def g6(P:Program)(T:TypeId)(n:Nat):Prop:=∃i,P.info? T=some i/\i.bytes=n
inductive cH (P:Program) (ρ:Operand->LV) (d:Nat):Op->LV->aL->Prop
 |make {T E l c kl kc z sz cn n m} (hT:P.underlying T=some (.slice E)) (hz:ck P E z) (hE:aX P E sz z.isAgg) (cu:z.aj=sz) (hb:g6 P E cn)
   (hl:ρ l=.v (.int kl (n:Nat))) (hc:ρ c=.v (.int kc (m:Nat))) (iz:n<=m) (hm:cn*m<=281474976710656) (fh:m<=9223372036854775807) :
   cH P ρ d (.makeSlice T l c) (.ref d sz 0 n) ⟨sz,aJ n z,true⟩
 |lit {T E n ps z sz} (hT:P.underlying T=some (.slice E)) (hz:ck P E z) (hE:aX P E sz z.isAgg) (cu:z.aj=sz) (hn:n*sz<=16777216) (h0:0<n) (cG:0<sz)
   (hp:∀p∈ps.toList,p.1<n/\lay (ρ p.2)=lay z/\ρ p.2≠.any/\∀m,ρ p.2≠.aQ m) :
   cH P ρ d (.buildSlice T n ps) (.ref d sz 0 n) ⟨sz,jf (aJ n z) (ps.toList.map fun p=>(p.1,ρ p.2)),true⟩
 |adT {T E sz ag} (hT:P.underlying T=some (.slice E)) (hE:aX P E sz ag):cH P ρ d (.buildSlice T 0 #[]) (.ref d sz 0 0) ⟨sz,[],true⟩
 |box {T x} (aG:ρ x≠.any/\∀m,ρ x≠.aQ m):cH P ρ d (.box T x) (.ax d (ρ x).aj 0 0) ⟨(ρ x).aj,[ρ x],true⟩
 |alloc {T z} (hz:ck P T z):cH P ρ d (.alloc T) (.ax d z.aj 0 0) ⟨z.aj,[z],true⟩
inductive x6 (P:Program) (H:bn) (ρ:Operand->LV) (d:Nat):Op->LV->List aL->Prop
 |func {f xs bH args r bs} (ha:dP H (xs.toList.map ρ) args) (hk:ke P f args r bs) (hlen:bs.length<16) (g8:∀blk∈bs,aN blk.vals=true) :
   x6 P H ρ d (.call ⟨.value (.func f),xs,bH⟩) (r.bl (cQ d)) bs
 |xZ {f x bH a b k sz off len r bs} (hx:ρ x=.agg [a,b,.ref k sz off len]) (ha:a.pure=true) (hb:b.pure=true) (hk:ke P f [.agg [a,b,.any]] r bs) (hlen:bs.length<16) (g8:∀blk∈bs,aN blk.vals=true) :
   x6 P H ρ d (.call ⟨.value (.func f),#[x],bH⟩) (r.bl (cQ d)) bs
 |bQ {t f cap xs bH args r bs} (ht:ρ (.tmp t)=.bQ f cap) (ha:dP H (xs.toList.map ρ) args) (sg:aN cap=true/\∀x∈cap,x.aj=1/\x.isAgg=false) (hk:ke P f (args++cap) r bs)
   (hlen:bs.length<16) (g8:∀blk∈bs,aN blk.vals=true) :
   x6 P H ρ d (.call ⟨.value (.tmp t),xs,bH⟩) (r.bl (cQ d)) bs
 |mk {f xs caps} (ha:dP H (xs.toList.map ρ) caps) (h1:∀x∈caps,x.aj=1/\x.isAgg=false):x6 P H ρ d (.makeFunc (.func f) #[] xs) (.bQ f caps) []
inductive jd (P:Program) (H:bn) (ρ:Operand->LV) (d:Nat):Op->LV->List (Nat×aL)->Prop
 |pure {op r} (h:aq P H ρ op r):jd P H ρ d op r []
 |alloc {op r blk} (h:cH P ρ d op r blk):jd P H ρ d op r [(d,blk)]
 |call {op r bs} (h:x6 P H ρ d op r bs):jd P H ρ d op r (bs.mapIdx fun i blk=>(cQ d (i+1),blk))
section
variable {P:Program} {W w:World} {X:XS} {Z0 Z:Nat->Prop} {μ:Nat->Option Nat} {H H':bn} {ρ:Operand->LV} {a:Act}
theorem aq.le{op:Op}{r:LV}(hle:H.le H')(h:aq P H ρ op r):aq P H' ρ op r:=by
 cases h with
 |eP hp hb hs hi hx hr hT =>
  obtain⟨m,g1,_⟩:=hle _ _ hb;exact .eP (blk:=⟨_,_,m⟩) hp g1 hs hi hx hr hT
 |move x=>exact .move x
 |assign x=>exact .assign x
 |pick h=>exact .pick h
 |bin hx hy h=>exact .bin hx hy h
 |sh hx hy h=>exact .sh hx hy h
 |beq hx hy hT=>exact .beq hx hy hT
 |bne hx hy hT=>exact .bne hx hy hT
 |not hx=>exact .not hx
 |neg hx=>exact .neg hx
 |conv hS hD hx=>exact .conv hS hD hx
 |extract ht hr aG=>exact .extract ht hr aG
 |field hx hT hr aG=>exact .field hx hT hr aG
 |sQ hp hT hr=>exact .sQ hp hT hr
 |wj hp hT hk=>exact .wj hp hT hk
 |xB hp hT hc=>exact .xB hp hT hc
 |abn hx=>exact .abn hx
 |ac8 hx hT hE hf hi h0 hr hp=>exact .ac8 hx hT hE hf hi h0 hr hp
 |wP hx hT hE hi h0 hm=>exact .wP hx hT hE hi h0 hm
 |tf hx hT hE hf hi h0 hr=>exact .tf hx hT hE hf hi h0 hr
 |xm hT hE hf hz hp=>exact .xm hT hE hf hz hp
 |aa6 hx=>exact .aa6 hx
 |jm hx hT hE hi h0 hr hc=>exact .jm hx hT hE hi h0 hr hc
 |v5 hx hT h0 hs=>exact .v5 hx hT h0 hs
 |vv hx hT hE hi h0 hn=>exact .vv hx hT hE hi h0 hn
 |aae hx hT hE a b c d e f=>exact .aae hx hT hE a b c d e f
 |vi hx hT hE a b c d e f g=>exact .vi hx hT hE a b c d e f g
 |abH hx hT hE a b c d e f g i=>exact .abH hx hT hE a b c d e f g i
 |um hx has hT=>exact .um hx has hT
 |vF hx has hT=>exact .vF hx has hT
 |vh hx has hT=>exact .vh hx has hT
 |agm hx has hT=>exact .agm hx has hT
 |vQ hx has hT=>exact .vQ hx has hT
 |acm hx has hT=>exact .acm hx has hT
 |ah1 hx hT hE a b c d e f g=>exact .ah1 hx hT hE a b c d e f g
 |ae0 hx hT hE hh=>exact .ae0 hx hT hE hh
 |min2 hx hy=>exact .min2 hx hy
 |max2 hx hy=>exact .max2 hx hy
 |adi hx hT hi h0 hb=>exact .adi hx hT hi h0 hb
 |v9 hf mC hb hn he hx hr h1 h2=>exact .v9 hf mC hb hn he hx hr h1 h2
 |tM hx hy h=>exact .tM hx hy h
 |uU hx hy=>exact .uU hx hy
 |uO hx hy hT=>exact .uO hx hy hT
 |uy hx hy hT=>exact .uy hx hy hT
 |tF hx hy hT hE hs hd=>exact .tF hx hy hT hE hs hd
 |ahg hS hE hD hx hb hs hv hl =>
  obtain⟨m,h1,_⟩:=hle _ _ hb;exact .ahg hS hE hD hx h1 hs hv hl
 |build hT hz hp=>exact .build hT hz hp
theorem jd.le{op:Op}{r:LV}{d:Nat}{fr:List (Nat×aL)}(hle:H.le H')(h:jd P H ρ d op r fr):jd P H' ρ d op r fr:=by
 cases h with
 |pure h=>exact .pure (h.le hle)
 |alloc h=>exact .alloc h
 |call h =>
  refine .call ?_
  cases h with
  |func ha hk hlen g8=>exact .func (dP.le hle ha) hk hlen g8
  |xZ hx ha hb hk hlen g8=>exact .xZ hx ha hb hk hlen g8
  |bQ ht ha sg hk hlen g8=>exact .bQ ht (dP.le hle ha) sg hk hlen g8
  |mk ha h1=>exact .mk (dP.le hle ha) h1
theorem acC(hc:Core W X Z0 μ Z H w):∀(xs:List Operand) (args:List LV),dP H (xs.map ρ) args->(∀x∈xs,aC Z μ w (ρ x) (a.eval x)) ->
  dQ Z (fun _=>none) w args (xs.map a.eval)
 | [],_,h,_=>by cases h;rfl
 |x::xs,_,h,hr=>by
   cases h with
   |cons h t =>
    exact⟨_,_,rfl,bR.aaK hc h (hr x az),acC hc xs _ t (fun y hy=>hr y (by simp[hy]))⟩
theorem dQ.append:∀(l m:List LV) (vs us:List Value),dQ Z μ w l vs->dQ Z μ w m us->dQ Z μ w (l++m) (vs++us)
 | [],m,vs,us,h,h'=>by cases h;exact h'
 |x::xs,m,_,us,⟨v,gV,e,h1,h2⟩,h'=>by
   subst e;exact⟨v,gV++us,by simp,h1,dQ.append xs m gV us h2 h'⟩
theorem apl{aF:Nat->Option Nat}:∀(l:List LV) (cs:List Value),aN l=true->(∀x∈l,x.aj=1/\x.isAgg=false)->aw Z μ w 1 l cs->dQ Z aF w l cs
 | [],cs,_,_,h=>by simp only[aw]at h;exact h
 |x::xs,cs,hp,h1,h=>by
   simp only[aw]at h;obtain⟨c1,c2,rfl,h2,h3,h4⟩:=h
   match c1,h2 with
   | [y],_ =>
    refine⟨y,c2,rfl,⟨fun e=>?_,fun _=>ao.fE (fun _ h=>h) (fun _ _=>rfl) _ _ (pure_cons hp).1 h3⟩,apl xs c2 (pure_cons hp).2 (fun z hz=>h1 z (by simp[hz])) h4⟩;rw[(h1 x az).2]at e;cases e
theorem aoT{aF:Nat->Option Nat}:∀(l:List LV) (vs:List Value),aN l=true->(∀x∈l,x.aj=1/\x.isAgg=false)->dQ Z μ w l vs->aw Z aF w 1 l vs
 | [],vs,_,_,h=>by simp only[aw];exact h
 |x::xs,_,hp,h1,⟨v,gV,e,h2,h3⟩=>by
   subst e;simp only[aw];exact⟨[v],gV,rfl,rfl,ao.fE (fun _ h=>h) (fun _ _=>rfl) _ _ (pure_cons hp).1 (h2.2 (h1 x az).2),aoT xs gV (pure_cons hp).2 (fun z hz=>h1 z (by simp[hz])) h3⟩
theorem zX{f:FuncId}{args:Array Value}(h:adR P f):(callFunc f args).run P w=.ok (.enter f args) w:=by
 obtain⟨fn,h1,h2,h3⟩:=h;simp only[callFunc,Sem.run_bind,run_program,Result.andThen_ok,h1,h3,zU,if_false,h2,Sem.run_pure]
theorem afp(z:Array Value)(hz:0<z.size):∀n,(madeCells z (n*z.size)).toList=(aJ n z.toList).flatten
 |0=>by simp[madeCells]
 |n+1=>by
   have ih:=afp z hz n;simp only[madeCells,Array.toList_map,Array.toList_range]at ih ⊢;rw[sZ,List.range_add,List.map_append,ih,List.replicate_succ',alv,List.map_map];congr 1;simp only[aft,List.flatten_nil,eX];apply apa
   ·simp
   intro j h1 h2;simp at h1;simp[fa h1,h1]
theorem ayj{sz:Nat}{z:LV}{ch:List Value}(h:ao Z μ w z ch)(hl:ch.length=sz)(n m:Nat)(iz:n<=m):
  ∃part rest,(aJ m ch).flatten=part++rest/\aw Z μ w sz (aJ n z) part:=by
 refine⟨(aJ n ch).flatten,(aJ (m-n) ch).flatten,?_,aw.replicate h hl n⟩;rw[<-alv,List.replicate_append_replicate,Nat.add_sub_cancel' iz]
theorem avd{cK:Nat->Option Nat}{d:Nat}{b:Nat}(h:rJ μ cK d b≠none):μ b≠none\/∃k,b=cQ d k/\cK k≠none:=by
 unfold rJ at h;split at h
 ·cases hq:cK (b-(1000000+d*16))with
  |none=>rw[hq]at h;exact .inl ga
  |some id=>exact .inr ⟨b-(1000000+d*16),by unfold cQ;omega,by rw[hq];simp⟩
 exact lp
structure acS (W:World) (X:XS) (Z0:Nat->Prop) (μ:Nat->Option Nat) (Z:Nat->Prop) (H:bn) (w:World) (r:LV) (fr:List (Nat×aL)) (v:Value) (w':World) (aF:Nat->Option Nat) (Z':Nat->Prop):Prop where
 core:Core W X Z0 aF Z' H w'
 hz:∀id,Z id->Z' id
 hm:∀b id,μ b=some id->aF b=some id
 hf:Frame Z μ w w'
 rep:aC Z' aF w' r v
 new:∀b,aF b≠none->μ b≠none\/b∈fr.map (·.1)
theorem ahI{f:FuncId}{vs:Array Value}{d:Nat}{args:List LV}{r:LV}{bs:List aL}{o:Oper}{K:Act->World->Prop}{Q:Exit->Act->World->Prop}
  (hc:Core W X Z0 μ Z H w) (hk:ke P f args r bs) (hlen:bs.length<16) (g8:∀blk∈bs,aN blk.vals=true)
  (hargs:dQ Z (fun _=>none) w args vs.toList)
  (cJ:∀i blk,bs[i]?=some blk->∃m,H (cQ d (i+1))=some ⟨blk.sz,blk.vals,m⟩/\(blk.mt=false->m=false)/\μ (cQ d (i+1))=none)
  (de:(execOp a.eval o).run P w=.ok (.enter f vs) w)
  (hK:∀v w' aF Z',acS W X Z0 μ Z H w (r.bl (cQ d)) (bs.mapIdx fun i blk=>(cQ d (i+1),blk)) v w' aF Z'->K (a.put o.dst v) w'):o.wp P a w K Q:=by
 unfold Oper.wp;rw[de,Oper.upon_enter];have:=hk.2 w Z vs.toList hc.iD hargs;rw[Array.toArray_toList]at this;refine this.mono ?_;rintro e w' ⟨v,cK,Zr,rfl,hr,hv⟩;obtain⟨Z',h1,h2,h3,h4,h5,h6⟩:=hc.call hr hlen g8 cJ;refine hK v w' _ Z' ⟨h1,h3,h4,h5,?_,?_⟩
 ·exact(hv.mono h2 (fun _ _ h=>h) ⟨fun _ _=>rfl,(Frame.refl Zr cK w').m⟩).bl (cQ d) h6
 intro b hb;rcases avd hb with h|⟨k,rfl,h⟩
 ·exact lp
 right;obtain⟨id,hid⟩:=afF.1 h;obtain⟨blk,g1,_⟩:=hr.heap k id hid;have h0:k≠0:=by rintro rfl;simp[nV]at g1
 have g2:bs[k-1]?=some blk:=by simpa[nV,h0]using g1
 simp only[fB,apC];refine⟨_,⟨k-1,(lg.1 g2).1,rfl⟩,?_⟩;show cQ d (k-1+1)=cQ d k;congr 1;omega
theorem alO{sz:Nat}:∀(l:List LV) (cs:List Value),(∀x∈l,x.aj=sz)->aw Z μ w sz l cs->a8 Z μ w l cs
 | [],cs,_,h=>by simpa[aw,a8]using h
 |x::xs,cs,hx,h=>by
   simp only[aw,a8]at h ⊢;obtain⟨c1,c2,h1,h2,h3,h4⟩:=h;exact⟨c1,c2,h1,by rw[h2,hx x az],h3,alO xs c2 (fun y hy=>hx y (by simp[hy])) h4⟩
theorem ap6{sz:Nat}:∀(l:List LV) (cs:List Value),(∀x∈l,x.aj=sz)->a8 Z μ w l cs->aw Z μ w sz l cs
 | [],cs,_,h=>by simpa[aw,a8]using h
 |x::xs,cs,hx,h=>by
   simp only[aw,a8]at h ⊢;obtain⟨c1,c2,h1,h2,h3,h4⟩:=h;exact⟨c1,c2,h1,by rw[h2,hx x az],h3,ap6 xs c2 (fun y hy=>hx y (by simp[hy])) h4⟩
theorem ank(x:Nat×Bool):∀n,jY (aJ n x)=n*x.1
 |0=>by simp[jY]
 |n+1=>by simp[ahq,jY,ank x n,sZ];omega
theorem ajD:∀(qs:List (Nat×LV)) (zs:List LV) (n:Nat×Bool),(∀x∈zs,lay x=n)->(∀q∈qs,lay q.2=n)->∀x∈jf zs qs,lay x=n
 | [],zs,n,h,_=>h
 |q::qs,zs,n,h,hq=>by
   refine ajD qs (zs.set q.1 q.2) n (fun x hx=>?_) (fun q' h'=>hq q' (by simp[h']));rcases List.mem_or_eq_of_mem_set hx with hx|rfl
   ·exact h x hx
   exact hq q az
theorem awZ{T E:TypeId}{n:Nat}{ps:Array (Nat×Operand)}{z:LV}{sz:Nat}(hT:P.underlying T=some (.slice E))(hz:ck P E z)(hE:aX P E sz z.isAgg)(cu:z.aj=sz)
  (hn:n*sz<=16777216) (h0:0<n) (cG:0<sz) (hp:∀p∈ps.toList,p.1<n/\lay (ρ p.2)=lay z/\ρ p.2≠.any/\∀m,ρ p.2≠.aQ m)
  (bz:∀p∈ps.toList,aC Z μ w (ρ p.2) (a.eval p.2)) :
  ∃cs,(Instr.buildSlice T n (ps.map fun(i,x)=>(i,a.eval x))).run P w=.ok (.slice (some ⟨w.heap.size,0,none⟩) n n) (w.alloc (.cells cs E)) /\
   aw Z μ w sz (jf (aJ n z) (ps.toList.map fun p=>(p.1,ρ p.2))) cs.toList:=by
 obtain⟨i,zv,z1,z2,z3,z4⟩:=hz;have aG:=LV.eg z3;have a6:i.size=sz:=by have:=hE.1;rw[z1]at this;simpa using this
 have jw:=ao.len (z4 Z μ w) aG;have aeO:zv.cells.size=sz:=by rw[<-jI,jw,cu]
 have atN:(madeCells zv.cells (n*sz)).toList=(aJ n zv.cells.toList).flatten:=by
  have:=afp zv.cells aa n;rwa[aeO]at this
 have dz:aw Z μ w sz (aJ n z) (madeCells zv.cells (n*sz)).toList:=by
  rw[atN];exact aw.replicate (z4 Z μ w) (by rw[jw,cu]) n
 have xi:∀x∈aJ n z,x.aj=sz:=fun x hx=>by rw[(xT.1 hx).2,cu]
 obtain⟨cs,f1,f2⟩:=adX (Z:=Z) (μ:=μ) (w:=w) (ls:=aJ n (lay z)) (fun k=>some (k*sz,sz))
  (fun k m hk=>by
   obtain⟨h1,h2⟩:=lg.1 hk;simp at h1 h2;subst h2;rw[List.take_replicate,ank,jE aa];simp[lay,cu])
  (ps.toList.map fun p=>(p.1,a.eval p.2)) (ps.toList.map fun p=>(p.1,ρ p.2)) (aJ n z) (madeCells zv.cells (n*sz)) az (alO _ _ xi dz) az
  (fun j p q ir qu=>by
   simp only[iT,ue]at ir qu;obtain⟨x,hx,rfl⟩:=ir;obtain⟨y,hy,rfl⟩:=qu;rw[hx]at hy;cases hy;have hm:=rK hx;obtain⟨_,_,h3,h4⟩:=hp x hm;exact⟨aC.qY h4 h3 (bz x hm),h3⟩)
  (fun q hq=>by
   simp only[fB]at hq;obtain⟨x,hx,rfl⟩:=hq;obtain⟨h1,h2,_⟩:=hp x hx;exact⟨lay z,by simp[h1],h2⟩)
 refine⟨cs,?_,ap6 _ _ (fun x hx=>?_) f2⟩
 ·have ud:(zeroValue E).run P w=.ok zv w:=by simp[zeroValue,typeInfo,z1,z2]
  have hso:(sizeOf E).run P w=.ok sz w:=run_sizeOf hE;have hns:¬n*sz=0:=by
   intro h;rcases aeY.1 h with h|h<;>omega
  have hle:¬2^24<n*sz:=by
   have:(2:Nat)^24=16777216:=an;omega
  have yI:(abo (fun x=>match x with|(i,x)=>(i,a.eval x)) ps).toList=ps.toList.map fun p=>(p.1,a.eval p.2):=az;simp only[Instr.buildSlice,Sem.run_bind,run_underlying hT,Result.andThen_ok,hso,gt_iff_lt,hle,if_false,Sem.run_ite,hns,ud,Sem.run_pure,yI];have hmk:(ao3 (n*sz)).map (fun x=>zv.cells[x%zv.cells.size]!)=madeCells zv.cells (n*sz):=rfl;rw[hmk,f1];rfl
 have hb:=ajD (ps.toList.map fun p=>(p.1,ρ p.2)) (aJ n z) (lay z) (fun x hx=>by rw[(xT.1 hx).2]) (fun q hq=>by
  simp only[fB]at hq;obtain⟨y,hy,rfl⟩:=hq;exact(hp y hy).2.1) x hx
 have:=congrArg Prod.fst hb;simpa[lay,cu]using this
theorem agY(z:Array Value)(n:Nat):(Builtin.zeroCells z n).toList=(aJ n z.toList).flatten:=by
 have hl:((aJ n z.toList).flatten).length=n*z.size:=by
  induction n with
  |zero=>simp
  |succ n ih=>simp only[ahq,aft,kH,ih,sZ];simp;omega
 refine apa (by rw[hl];simp[Builtin.zeroCells]) (fun i h1 h2=>?_);have hi:i<n*z.size:=by rw[hl]at h2;exact h2
 have hz:0<z.size:=Nat.pos_of_ne_zero fun e=>by rw[e]at hi;simp at hi
 have key:∀(n i:Nat),i<n*z.size->(aJ n z.toList).flatten[i]?=z.toList[i%z.size]?:=by
  intro n
  induction n with
  |zero=>intro i h;simp at h
  |succ n ih =>
   intro i h;rw[ahq,aft];rcases fH i z.size with h3|h3
   ·rw[vf (by simpa using h3),fa h3]
   rw[alg (by simpa using h3)];have e:z.toList.length=z.size:=az;rw[e,ih (i-z.size) (by rw[sZ]at h;omega),<-Nat.mod_eq_sub_mod h3]
 have h3:=key n i hi;rw[bO h2]at h3;have hm:i%z.size<z.size:=Nat.mod_lt _ hz;rw[bO (by simpa using hm)]at h3;simp only[dN]at h3;rw[h3];simp[Builtin.zeroCells,hm]
theorem asA{P:Program}{w:World}(T U E ty:TypeId)(k kl:IntKind)(i:TypeInfo)(z:Value)(ht:P.underlying T=some (.slice E))(hu:P.underlying U=some (.int k))(hi:P.info? E=some i)(hz:i.zero=some z)(n:Nat)
  (h0:0<n) (cG:0<i.size) (ee:(n:Int)<=4611686018427387904) (gS:n*i.bytes<=140737488355328) (lK:Builtin.nextslicecap n 0*i.bytes<=281474976710656) :
  (Builtin.append_ #[T,U] ty #[.slice none 0 0,.int kl (n:Int)]).run P w =
   .ok (.slice (some ⟨w.heap.size,0,none⟩) n (grownCap w n 0 E))
    (w.drew.alloc (.cells (Builtin.zeroCells z.cells n++Builtin.zeroCells z.cells (grownCap w n 0 E-n)) E)):=by
 have hn:¬(n<=0):=aa;have fw:¬n=0:=aa;have hw:IntKind.i64.wrap (n:Int)=(n:Int):=by simp[IntKind.wrap,show IntKind.i64.bits=64 from rfl];omega
 have h1:¬((n:Int)<0):=aa;have h2:¬(281474976710656<(n:Int)*(i.bytes:Int)):=by
  have h5:((n*i.bytes:Nat):Int)<=140737488355328:=aa;rw[amq]at h5;omega
 have afQ:¬(9223372036854775807<(n:Int)):=aa;have agB:¬(281474976710656<Builtin.nextslicecap n 0*i.bytes):=aa;have a6:¬(i.size=0):=aa;simp[Builtin.append_,run_underlying ht,run_underlying hu,sizeOf,typeInfo,zeroValue,hi,hz,hn,fw,hw,h1,h2,afQ,agB,asInt,asIntOf,Question.forced,Builtin.firstCells,newRow,grownCap];intro h;rcases aeY.1 h with h|h<;>omega
theorem avR{op:Op}{r:LV}{d:Nat}{blk:aL}(hc:Core W X Z0 μ Z H w)(ho:cH P ρ d op r blk)(bz:∀x∈op.operands,aC Z μ w (ρ x) (a.eval x))
  {m:Bool} (hH:H d=some ⟨blk.sz,blk.vals,m⟩) (oN:μ d=none) (dst:Option Tmp) (ty:TypeId) (pos:String) (after:Array Edge) (g:Option (Nat×Bool)) :
  ∃v w' aF Z',(execOp a.eval ⟨dst,op,ty,pos,after,g⟩).run P w=.ok (.value v) w'/\acS W X Z0 μ Z H w r [(d,blk)] v w' aF Z':=by
 have gJ:∀id b,l9 μ d id b≠none->μ b≠none\/b∈[(d,blk)].map (·.1):=fun id b h=>by
  unfold l9 at h;split at h
  ·subst_vars;right;simp
  exact lp
 cases ho with
 | @make T E l c kl kc z sz cn n cp hT hz hE cu hb hl gh iz pF fh =>
  obtain⟨i,zv,z1,z2,z3,z4⟩:=hz;have e1:=bz l aY;rw[hl]at e1;have e1:=e1.cV;have e2:=bz c aY;rw[gh]at e2;have e2:=e2.cV;have aG:=LV.eg z3;have a6:i.size=sz:=by have:=hE.1;rw[z1]at this;simpa using this
  have gS:i.bytes=cn:=by obtain⟨i',g1,g2⟩:=hb;rw[z1]at g1;cases g1;exact g2
  have jw:=ao.len (z4 Z μ w) aG;have aeO:zv.cells.size=sz:=by rw[<-jI,jw,cu]
  have hr:=run_make (P:=P) w T E i zv hT z1 z2 kl kc (n:Int) (cp:Int) aa aa (by rw[gS];omega) aa;simp only[Int.toNat_natCast,a6]at hr;obtain⟨part,rest,p1,p2⟩:=ayj (sz:=sz) (z4 Z μ w) (by rw[jw,cu]) n cp iz;have afy:(madeCells zv.cells (cp*sz)).toList=part++rest:=by
   by_cases lW:0<zv.cells.size
   ·rw[<-aeO,afp _ lW,p1]
   have:sz=0:=aa;rw[<-p1,this];have h0:zv.cells.toList=[]:=by
    apply kJ;rw[jI];omega
   simp[madeCells,h0]
  obtain⟨Z',h1,h2,h3,h4,h5,h6⟩:=hc.push hH oN (nS.alloc w (.cells (madeCells zv.cells (cp*sz)) E)) afy p2;refine⟨_,_,_,Z',by simp only[execOp,e1,e2];rw[Sem.run_bind,hr];rfl,h1,h2,h3,h4,⟨by simp[LV.isAgg],fun _=>?_⟩,gJ _⟩;simp only[ao];exact .inr ⟨w.heap.size,cp,_,E,(0,0),by simp,h5,iz,h6,by rw[size_madeCells];simp⟩
 | @lit T E n ps z sz hT hz hE cu hn h0 cG hp =>
  have hpm:∀p∈ps.toList,aC Z μ w (ρ p.2) (a.eval p.2):=fun p hp=>bz p.2 (by simp[Op.operands];exact⟨p.1,by simpa using hp⟩);obtain⟨cs,r1,r2⟩:=awZ (P:=P) (Z:=Z) (μ:=μ) (w:=w) (a:=a) hT hz hE cu hn h0 cG hp hpm;obtain⟨Z',h1,h2,h3,h4,h5,h6⟩:=hc.push hH oN (nS.alloc w (.cells cs E)) (eX _).symm r2;refine⟨_,_,_,Z',by simp only[execOp];rw[Sem.run_bind,r1];rfl,h1,h2,h3,h4,⟨by simp[LV.isAgg],fun _=>?_⟩,gJ _⟩;simp only[ao];have hl:=aw.length _ _ r2;have uW:(jf (aJ n z) (ps.toList.map fun p=>(p.1,ρ p.2))).length=n:=by
   have:∀(qs:List (Nat×LV)) (zs:List LV),(jf zs qs).length=zs.length:=fun qs=>by
    induction qs with
    |nil=>intro zs;rfl
    |cons q qs ih=>intro zs;exact(ih _).trans az
   rw[this];simp
  exact .inr ⟨w.heap.size,n,cs,E,(0,0),by simp,h5,bA _,h6,by rw[<-jI,hl,uW];simp⟩
 | @adT T E sz ag hT hE =>
  obtain⟨Z',h1,h2,h3,h4,h5,h6⟩:=hc.push hH oN (nS.alloc w (.cells #[] E)) (part:=[]) (rest:=[]) rfl (by simp[aw]);refine⟨_,_,_,Z',by simp[execOp,Instr.buildSlice,run_underlying hT,run_sizeOf hE,Instr.fill,newRow,show (abo (fun _:Nat=>(default:Value)) (ao3 0))=#[] from by apply tv;simp];exact rfl,h1,h2,h3,h4,⟨by simp[LV.isAgg],fun _=>?_⟩,gJ _⟩;simp only[ao];exact .inr ⟨w.heap.size,0,#[],E,(0,0),by rw[aaj],h5,bA _,h6,by simp⟩
 | @box T x aG =>
  have e1:=bz x aY;obtain⟨c1,c2,_,_⟩:=(aC.qY aG.2 aG.1 e1).cells aG.1;have tP:aw Z μ w (ρ x).aj [ρ x] (a.eval x).cells.toList:=by
   simp only[aw];exact⟨_,[],by simp,by simp[c2],c1,rfl⟩
  obtain⟨Z',h1,h2,h3,h4,h5,h6⟩:=hc.push (T:=T) (c:=(a.eval x).cells) hH oN (nS.alloc w _) (eX _).symm tP;refine⟨_,_,_,Z',by simp only[execOp,Instr.box,newVar,newRow,Sem.run_bind,run_newObj,Result.andThen_ok,Sem.run_pure];rfl,h1,h2,h3,h4,⟨by simp[LV.isAgg],fun _=>?_⟩,gJ _⟩;simp only[ao];exact⟨w.heap.size,by simp,h5⟩
 | @alloc T z hz =>
  obtain⟨i,zv,z1,z2,z3,z4⟩:=hz;have aG:=LV.eg z3;have jw:=ao.len (z4 Z μ w) aG;have tP:aw Z μ w z.aj [z] zv.cells.toList:=by
   simp only[aw];exact⟨_,[],by simp,by simpa using jw,z4 Z μ w,rfl⟩
  obtain⟨Z',h1,h2,h3,h4,h5,h6⟩:=hc.push (T:=T) (c:=zv.cells) hH oN (nS.alloc w _) (eX _).symm tP;have ud:(zeroValue T).run P w=.ok zv w:=by simp[zeroValue,typeInfo,z1,z2]
  refine⟨_,_,_,Z',by simp only[execOp,Instr.alloc,newVar,newRow,Sem.run_bind,ud,run_newObj,Result.andThen_ok,Sem.run_pure];rfl,h1,h2,h3,h4,⟨by simp[LV.isAgg],fun _=>?_⟩,gJ _⟩;simp only[ao];exact⟨w.heap.size,by simp,h5⟩
theorem ayo{op:Op}{r:LV}{d:Nat}{bs:List aL}(hc:Core W X Z0 μ Z H w)(ho:x6 P H ρ d op r bs)(bz:∀x∈op.operands,aC Z μ w (ρ x) (a.eval x))
  (cJ:∀i blk,bs[i]?=some blk->∃m,H (cQ d (i+1))=some ⟨blk.sz,blk.vals,m⟩/\(blk.mt=false->m=false)/\μ (cQ d (i+1))=none)
  (dst:Option Tmp) (ty:TypeId) (pos:String) (after:Array Edge) (g:Option (Nat×Bool)) {K:Act->World->Prop} {Q:Exit->Act->World->Prop}
  (hK:∀v w' aF Z',acS W X Z0 μ Z H w r (bs.mapIdx fun i blk=>(cQ d (i+1),blk)) v w' aF Z'->K (a.put dst v) w') :
  (⟨dst,op,ty,pos,after,g⟩:Oper).wp P a w K Q:=by
 cases ho with
 | @func f xs bH args r bs ha hk hlen g8 =>
  have hargs:=acC (a:=a) hc xs.toList args ha (fun x hx=>bz x (by simp[Op.operands,Call.operands];right;simpa using hx));refine ahI (vs:=xs.map a.eval) hc hk hlen g8 (by simpa using hargs) cJ ?_ hK;simp only[execOp,resolve,Act.eval,Deferred.ofValue,Sem.run_bind,Sem.run_pure,Result.andThen_ok,invoke];have:=zX (P:=P) (w:=w) (args:=xs.map a.eval) hk.1;simpa using this
 | @xZ f x bH u v k sz off len r bs hx ha hb hk hlen g8 =>
  have h1:=bz x gG;rw[hx]at h1;obtain⟨cs,e0,h⟩:=h1.1 rfl;have hargs:dQ Z (fun _=>none) w [.agg [u,v,.any]] [a.eval x]:=by
   refine⟨a.eval x,[],rfl,⟨fun _=>⟨cs,e0,?_⟩,fun e=>by simp[LV.isAgg]at e⟩,rfl⟩;simp only[ao,a8]at h ⊢;obtain⟨c1,c2,e1,l1,g1,c3,c4,e2,l2,g2,c5,c6,e3,l3,g3,e4⟩:=h;exact⟨c1,c2,e1,l1,ao.fE (fun _ h=>h) (fun _ _=>rfl) _ _ ha g1,c3,c4,e2,l2,ao.fE (fun _ h=>h) (fun _ _=>rfl) _ _ hb g2,c5,c6,e3,l3,ao.one (Z:=Z) (μ:=μ) (w:=w) (.ref k sz off len) c5 (by simp only[ao];exact g3),e4⟩
  refine ahI (vs:=#[a.eval x]) hc hk hlen g8 (by simpa using hargs) cJ ?_ hK;simp only[execOp,resolve,Act.eval,Deferred.ofValue,Sem.run_bind,Sem.run_pure,Result.andThen_ok,invoke];have:=zX (P:=P) (w:=w) (args:=#[a.eval x]) hk.1;simpa[Act.eval]using this
 | @bQ t f cap xs bH args r bs ht ha sg hk hlen g8 =>
  have hargs:=acC (a:=a) hc xs.toList args ha (fun x hx=>bz x (by simp[Op.operands,Call.operands];right;simpa using hx));have e1:=bz (.tmp t) gG;rw[ht]at e1;have e2:=e1.2 rfl;simp only[ao]at e2;obtain⟨cv,q1,q2,_⟩:=e2;simp only[dq,and_true]at q1;have hcv:=apl (aF:=fun _=>none) cap cv.toList sg.1 sg.2 q2;refine ahI (vs:=xs.map a.eval++cv) hc hk hlen g8 (by simpa using dQ.append _ _ _ _ hargs hcv) cJ ?_ hK;have:=zX (P:=P) (w:=w) (args:=xs.map a.eval++cv) hk.1;simp only[execOp,resolve,q1,Deferred.ofValue,Sem.run_bind,Sem.run_pure,Result.andThen_ok,invoke];simpa using this
 | @mk f xs caps ha h1 =>
  have hargs:=acC (a:=a) hc xs.toList caps ha (fun x hx=>bz x (by simp[Op.operands];simpa using hx));have hp:=(dP.lay ha).2;have de:(execOp a.eval ⟨dst,.makeFunc (.func f) #[] xs,ty,pos,after,g⟩).run P w=.ok (.value (.func (.func f) #[] (xs.map a.eval))) w:=by
   simp[execOp,Instr.makeFunc]
  unfold Oper.wp;rw[de,Oper.upon_value];refine hK _ w μ Z ⟨hc,fun _ h=>h,fun _ _ h=>h,Frame.refl _ _ _,⟨by simp[LV.isAgg],fun _=>?_⟩,fun b h=>.inl h⟩;simp only[ao];exact⟨_,rfl,aoT caps _ hp h1 (by simpa using hargs),hp⟩
theorem jd.sound{op:Op}{r:LV}{d:Nat}{fr:List (Nat×aL)}(hc:Core W X Z0 μ Z H w)(ho:jd P H ρ d op r fr)(bz:∀x∈op.operands,aC Z μ w (ρ x) (a.eval x))
  (cJ:∀b blk,(b,blk)∈fr->∃m,H b=some ⟨blk.sz,blk.vals,m⟩/\(blk.mt=false->m=false)/\μ b=none)
  (dst:Option Tmp) (ty:TypeId) (pos:String) (after:Array Edge) (g:Option (Nat×Bool)) {K:Act->World->Prop} {Q:Exit->Act->World->Prop}
  (hK:∀v w' aF Z',acS W X Z0 μ Z H w r fr v w' aF Z'->K (a.put dst v) w') :
  (⟨dst,op,ty,pos,after,g⟩:Oper).wp P a w K Q:=by
 cases ho with
 |pure h =>
  obtain⟨v,h1,h2⟩:=h.sound bz hc.heap dst ty pos after g;unfold Oper.wp;rw[h1,Oper.upon_value];exact hK v w μ Z ⟨hc,fun _ h=>h,fun _ _ h=>h,Frame.refl _ _ _,h2,fun b h=>.inl h⟩
 | @alloc blk h =>
  obtain⟨m,g1,_,g3⟩:=cJ d blk az;obtain⟨v,w',aF,Z',h1,h2⟩:=avR hc h bz g1 g3 dst ty pos after g;unfold Oper.wp;rw[h1,Oper.upon_value];exact hK v w' aF Z' h2
 | @call bs h =>
  refine ayo hc h bz (fun i blk hb=>cJ _ blk ?_) dst ty pos after g hK;rw[apC];obtain⟨h1,h2⟩:=lg.1 hb;exact⟨i,h1,by rw[h2]⟩
end
end Go.Lg
namespace Go.Lg
mutual
def LV.kill(b:Nat):LV->LV
 | .ref c sz off len=>if c=b then .any else .ref c sz off len
 | .gm c sz off len cap=>if c=b then .any else .gm c sz off len cap
 | .ax c sz i o=>if c=b then .any else .ax c sz i o
 | .agg l=>.agg (a9 b l)
 | .aQ l=>.aQ (a9 b l)
 | .any=>.any
 | .v x=>.v x
 | .list sz l=>.list sz l
 | .bg c=>.bg c
 | .bQ f l=>.bQ f l
 | .gZ f l=>.gZ f (a9 b l)
def a9(b:Nat):List LV->List LV
 | []=>[]
 |x::xs=>x.kill b::a9 b xs
end
mutual
theorem LV.anf(b:Nat):∀(x:LV),(x.kill b).aj=x.aj
 | .any=>rfl | .v _=>rfl | .list ..=>rfl | .bg _=>rfl | .bQ ..=>rfl | .gZ ..=>rfl
 | .aQ _=>rfl
 | .ref c sz off len=>by simp only[LV.kill];split<;>rfl
 | .gm c sz off len cap=>by simp only[LV.kill];split<;>rfl
 | .ax c sz i o=>by simp only[LV.kill];split<;>rfl
 | .agg l=>by simp only[LV.kill,LV.aj,ajS b l]
theorem ajS(b:Nat):∀(l:List LV),bI (a9 b l)=bI l
 | []=>rfl
 |x::xs=>by simp only[a9,bI,LV.anf b x,ajS b xs]
end
theorem LV.akk(b:Nat)(x:LV):(x.kill b).isAgg=x.isAgg:=by
 cases x with
 |ref c sz off len=>simp only[LV.kill];split<;>rfl
 |gm c sz off len cap=>simp only[LV.kill];split<;>rfl
 |ax c sz i o=>simp only[LV.kill];split<;>rfl
 |_=>rfl
mutual
theorem LV.kM(b:Nat):∀(x:LV),x.pure=true->x.kill b=x
 | .any,_=>rfl
 | .v _,_=>rfl
 | .list sz l,_=>rfl
 | .agg l,h=>by simp only[LV.kill,acP b l (by simpa[LV.pure]using h)]
 | .ref ..,h=>by simp[LV.pure]at h
 | .gm ..,h=>by simp[LV.pure]at h
 | .ax ..,h=>by simp[LV.pure]at h
 | .bg c,_=>rfl
 | .bQ g l,_=>rfl
 | .gZ g l,h=>by simp[LV.pure]at h
 | .aQ l,h=>by simp[LV.pure]at h
theorem acP(b:Nat):∀(l:List LV),aN l=true->a9 b l=l
 | [],_=>rfl
 |x::xs,h=>by simp only[a9,LV.kM b x (pure_cons h).1,acP b xs (pure_cons h).2]
end
section
variable {Z Z':Nat->Prop} {μ aF:Nat->Option Nat} {w w':World} {b:Nat}
mutual
theorem ao.kill(hz:∀id,Z id->Z' id)(hm:∀c id,c≠b->μ c=some id->aF c=some id)(hf:Frame Z μ w w'):
  ∀(lv:LV) (cs:List Value),ao Z μ w lv cs->ao Z' aF w' (lv.kill b) cs
 | .any,_,h=>by simpa[ao,LV.kill]using h
 | .v x,cs,h=>by simpa[ao,LV.kill]using h
 | .list sz l,cs,h=>by
   have hp:(LV.list sz l).pure=true:=by
    simp only[ao]at h;obtain⟨a,len,cap,_,_,_,_,h9⟩:=h;simpa[LV.pure]using h9
   exact ao.fE hz hf.z _ _ hp h
 | .agg l,cs,h=>by
   simp only[ao,LV.kill]at h ⊢;exact a8.kill hz hm hf l cs h
 | .ref c sz off len,cs,h=>by
   simp only[LV.kill];split
   ·exact fun u hu=>ao.one _ _ h u hu
   rename_i aG;simp only[ao]at h ⊢;rcases h with h|⟨id,cap,c',T,fz,h1,h2,h3,h4,h5⟩
   ·exact lp
   obtain⟨c2,h6,h7⟩:=hf.m c id h2 c' T fz h4;exact .inr ⟨id,cap,c2,T,fz,h1,hm _ _ aG h2,h3,h6,aa⟩
 | .gm c sz off len cap,cs,h=>by
   simp only[LV.kill];split
   ·exact fun u hu=>ao.one _ _ h u hu
   rename_i aG;simp only[ao]at h ⊢;obtain⟨id,c',T,fz,h1,h2,h3,h4,h5⟩:=h;obtain⟨c2,h6,h7⟩:=hf.m c id h2 c' T fz h4;exact⟨id,c2,T,fz,h1,hm _ _ aG h2,h3,h6,aa⟩
 | .ax c sz i o,cs,h=>by
   simp only[LV.kill];split
   ·exact fun u hu=>ao.one _ _ h u hu
   rename_i aG;simp only[ao]at h ⊢;obtain⟨id,h1,h2⟩:=h;exact⟨id,h1,hm _ _ aG h2⟩
 | .bg c,cs,h=>by
   have hp:(LV.bg c).pure=true:=by
    simp only[ao]at h;obtain⟨blk,off,cc,T,fz,part,rest,_,_,_,_,_,_,h7⟩:=h;simpa[LV.pure]using h7
   exact ao.fE hz hf.z _ _ hp h
 | .bQ f cap,cs,h=>by
   have hp:(LV.bQ f cap).pure=true:=by
    simp only[ao]at h;obtain⟨vs,_,_,h3⟩:=h;simpa[LV.pure]using h3
   exact ao.fE hz hf.z _ _ hp h
 | .gZ f cap,cs,h=>by
   simp only[ao,LV.kill]at h ⊢;obtain⟨vs,h1,h2⟩:=h;exact⟨vs,h1,aw.kill hz hm hf cap vs.toList h2⟩
 | .aQ _,_,h=>by simp[ao]at h
theorem a8.kill(hz:∀id,Z id->Z' id)(hm:∀c id,c≠b->μ c=some id->aF c=some id)(hf:Frame Z μ w w'):
  ∀(l:List LV) (cs:List Value),a8 Z μ w l cs->a8 Z' aF w' (a9 b l) cs
 | [],cs,h=>by simpa[a8,a9]using h
 |x::xs,cs,h=>by
   simp only[a8,a9]at h ⊢;obtain⟨c1,c2,h1,h2,h3,h4⟩:=h;exact⟨c1,c2,h1,by rw[LV.anf];exact h2,ao.kill hz hm hf x c1 h3,a8.kill hz hm hf xs c2 h4⟩
theorem aw.kill(hz:∀id,Z id->Z' id)(hm:∀c id,c≠b->μ c=some id->aF c=some id)(hf:Frame Z μ w w'){sz:Nat}:
  ∀(l:List LV) (cs:List Value),aw Z μ w sz l cs->aw Z' aF w' sz (a9 b l) cs
 | [],cs,h=>by simpa[aw,a9]using h
 |x::xs,cs,h=>by
   simp only[aw,a9]at h ⊢;obtain⟨c1,c2,h1,h2,h3,h4⟩:=h;exact⟨c1,c2,h1,h2,ao.kill hz hm hf x c1 h3,aw.kill hz hm hf xs c2 h4⟩
end
theorem dD.kill(hz:∀id,Z id->Z' id)(hm:∀c id,c≠b->μ c=some id->aF c=some id)(hf:Frame Z μ w w'){lv:LV}{v:Value}
  (h:dD Z μ w lv v):dD Z' aF w' (lv.kill b) v :=
 ⟨fun e=>let ⟨cs,h1,h2⟩:=h.1 (by rwa[LV.akk]at e);⟨cs,h1,ao.kill hz hm hf _ _ h2⟩,fun e=>ao.kill hz hm hf _ _ (h.2 (by rwa[LV.akk]at e))⟩
theorem dQ.kill(hz:∀id,Z id->Z' id)(hm:∀c id,c≠b->μ c=some id->aF c=some id)(hf:Frame Z μ w w'):
  ∀(l:List LV) (vs:List Value),dQ Z μ w l vs->dQ Z' aF w' (a9 b l) vs
 | [],_,h=>h
 |_::xs,_,⟨v,gV,h1,h2,h3⟩=>⟨v,gV,h1,h2.kill hz hm hf,dQ.kill hz hm hf xs gV h3⟩
theorem aC.kill(hz:∀id,Z id->Z' id)(hm:∀c id,c≠b->μ c=some id->aF c=some id)(hf:Frame Z μ w w'){lv:LV}{v:Value}
  (h:aC Z μ w lv v):aC Z' aF w' (lv.kill b) v:=by
 cases lv with
 |aQ l=>obtain⟨vs,h1,h2⟩:=h;exact⟨vs,h1,dQ.kill hz hm hf _ _ h2⟩
 |any=>trivial
 |_ =>
  refine aC.nZ (fun l e=>?_) (dD.kill hz hm hf h);simp only[LV.kill]at e
  first
   |cases e
   |(split at e<;>cases e)
end
structure St where
 slot:Nat->LV
 heap:bn
def St.ev(L:St):Operand->LV
 | .tmp t=>L.slot t
 | .const v=>if v.oneCell' then .v v else .any
 | .func f=>.bQ f []
 | .global _=>.any
def St.put(L:St)(d:Option Nat)(r:LV):St :=
 match d with
 |some t=>⟨fun s=>bif mO s t then r else L.slot s,L.heap⟩
 |none=>L
theorem fu(L:St)(t:Nat)(r:LV)(s:Nat):(L.put (some t) r).slot s=if s=t then r else L.slot s:=by
 show (bif mO s t then r else L.slot s)=_;by_cases h:s=t
 ·subst h;simp
 have:mO s t=false:=by rw[<-Bool.not_eq_true,Nat.beq_eq];exact h
 rw[this,if_neg h];rfl
def St.a5(L:St)(b:Nat)(x:Option aL):St:=⟨L.slot,fun c=>if c=b then x else L.heap c⟩
def St.kill(L:St)(b:Nat):St :=
 ⟨fun t=>(L.slot t).kill b,fun c=>if c=b then none else(L.heap c).map fun blk=>⟨blk.sz,a9 b blk.vals,blk.mt⟩⟩
def dM(n:Nat)(W:World)(X:XS)(Z0:Nat->Prop)(L:St)(a:Act)(w:World):Prop :=
 a.defers=[]/\a.tmps.size=n/\∃μ Z,Core W X Z0 μ Z L.heap w/\∀t,aC Z μ w (L.slot t) (a.tmps.getD t undef)
inductive qo (H:bn) (b:Nat):LV->LV->Prop
 |cC {x y} (h:bR H x y):qo H b x y
 |ref {sz off len}:qo H b (.ref b sz off len) (.ref 0 sz off len)
 |ptr {sz i o}:qo H b (.ax b sz i o) (.ax 0 sz i o)
inductive p9 (H:bn) (b:Nat):List LV->List LV->Prop
 |nil:p9 H b [] []
 |cons {x y xs ys} (h:qo H b x y) (t:p9 H b xs ys):p9 H b (x::xs) (y::ys)
inductive Names (b:Nat):List LV->Prop
 |ref {sz off len xs} (h:0<len):Names b (.ref b sz off len::xs)
 |ptr {sz i o xs}:Names b (.ax b sz i o::xs)
 |tl {x xs} (h:Names b xs):Names b (x::xs)
inductive OpM (P:Program) (L:St) (dst:Option Tmp):Op->St->Prop
 |call {f xs bH args r b blk blk'} (hb:L.heap b=some blk) (hm:blk.mt=true) (hp:aN blk.vals=true) (ha:p9 L.heap b (xs.toList.map L.ev) args) (hn:Names b (xs.toList.map L.ev)) (hk:jt P f blk args r blk')
   (lQ:blk'.mt=true) (fy:aN blk'.vals=true) :
   OpM P L dst (.call ⟨.value (.func f),xs,bH⟩) ((L.a5 b (some blk')).put dst (r.bl fun _=>b))
 |aef {T U E x y z k kl sz cn n d} (hT:P.underlying T=some (.slice E)) (hU:P.underlying U=some (.int k)) (hz:ck P E z) (hE:aX P E sz z.isAgg) (cu:z.aj=sz) (hb:g6 P E cn)
   (hx:L.ev x=.v (.slice none 0 0)) (hy:L.ev y=.v (.int kl (n:Nat))) (eI:L.heap d=none) (h0:0<n) (cG:0<sz) (hm:n*cn<=140737488355328) (ee:n<=4611686018427387904) :
   OpM P L dst (.call ⟨.builtin .append,#[x,y],#[T,U]⟩) ((L.a5 d (some ⟨sz,aJ n z,true⟩)).put dst (.ref d sz 0 n))
 |aey {T U E x y z k kl sz cn len cp n d b blk} (hT:P.underlying T=some (.slice E)) (hU:P.underlying U=some (.int k)) (hz:ck P E z) (hE:aX P E sz z.isAgg) (cu:z.aj=sz) (hb:g6 P E cn)
   (hx:L.ev x=.gm b sz 0 len cp) (gR:L.heap b=some blk) (hs:blk.sz=sz) (hlen:len<=blk.vals.length) (hy:L.ev y=.v (.int kl (n:Nat))) (eI:L.heap d=none) (hg:cp<len+n) (cG:0<sz) (hm:(len+n)*cn<=140737488355328) (ee:len+n<=4611686018427387904) :
   OpM P L dst (.call ⟨.builtin .append,#[x,y],#[T,U]⟩) ((L.a5 d (some ⟨sz,blk.vals.take len++aJ n z,true⟩)).put dst (.ref d sz 0 (len+n)))
 |ovl {f x y Tx Ty fn b c sz o1 n1 o2 n2 ag tS tR e} (hf:P.funcs[f]?=some fn) (mC:(fn.name== "runtime.NumGoroutine")=false) (hb:fn.body.isNone=true) (hn:Extern.findNext fn=none) (he:Extern.find fn=some (Extern.SlicesOverlaps.overlaps #[tS,tS] #[tR]))
   (ht:P.underlying tS=some (.slice e)) (hE:aX P e sz ag) (hx:L.ev x=.ref b sz o1 n1) (hy:L.ev y=.ref c sz o2 n2) (ve:b≠c) (h1:0<n1) (h2:0<n2) (cG:0<sz) :
   OpM P L dst (.call ⟨.value (.func f),#[x,y],#[Tx,Ty]⟩) (L.put dst (.v (.bool false)))
inductive ey (P:Program) (L:St) (dst:Option Tmp):Op->St->Prop
 |store {T p x b sz i o blk y y'} (hp:L.ev p=.ax b sz i o) (hb:L.heap b=some blk) (hs:blk.sz=sz) (hm:blk.mt=true) (hi:blk.vals[i]?=some y) (hy:y.aj=sz)
   (ki:y.put o (L.ev x)=some y') (hT:aX P T (L.ev x).aj (L.ev x).isAgg) (aG:L.ev x≠.any/\∀l,L.ev x≠.aQ l) :
   ey P L dst (.store T p x) ((L.a5 b (some ⟨sz,blk.vals.set i y',true⟩)).put dst .any)
 |iJ {T U E E' d b sz len blk x y news z cn} (hx:L.ev x=.ref b sz 0 len) (hb:L.heap b=some blk) (hs:blk.sz=sz) (hm:blk.mt=true) (hlen:len<=blk.vals.length) (eI:d=b\/L.heap d=none) (fp:b≠0)
   (hT:P.underlying T=some (.slice E)) (hU:P.underlying U=some (.slice E')) (hz:ck P E z) (hE:aX P E sz z.isAgg) (cu:z.aj=sz) (gS:g6 P E cn)
   (hy:(∃c off cL,L.ev y=.ref c sz off news.length/\c≠b/\L.heap c=some cL/\cL.sz=sz/\off+news.length<=cL.vals.length/\news=(cL.vals.drop off).take news.length/\aN news=true) \/
    L.ev y=.list sz news\/(L.ev y=.v (.slice none 0 0)/\news=[]))
   (a6:(len+news.length)*cn<=140737488355328) (ee:len+news.length<=4611686018427387904) (cG:0<sz) :
   ey P L dst (.call ⟨.builtin .append,#[x,y],#[T,U]⟩) (((L.kill b).a5 d (some ⟨sz,a9 b (blk.vals.take len++news),true⟩)).put dst (.ref d sz 0 (len+news.length)))
 |vE {T U E E' d sz x y news z cn} (hx:L.ev x=.v (.slice none 0 0)) (eI:L.heap d=none)
   (hT:P.underlying T=some (.slice E)) (hU:P.underlying U=some (.slice E')) (hz:ck P E z) (hE:aX P E sz z.isAgg) (cu:z.aj=sz) (gS:g6 P E cn)
   (hy:(∃c off cL,L.ev y=.ref c sz off news.length/\L.heap c=some cL/\cL.sz=sz/\off+news.length<=cL.vals.length/\news=(cL.vals.drop off).take news.length/\aN news=true) \/
    L.ev y=.list sz news)
   (hn:0<news.length) (a6:news.length*cn<=140737488355328) (ee:news.length<=4611686018427387904) (cG:0<sz) :
   ey P L dst (.call ⟨.builtin .append,#[x,y],#[T,U]⟩) ((L.a5 d (some ⟨sz,news,true⟩)).put dst (.ref d sz 0 news.length))
 |clr {T E x b sz off n blk z} (hx:L.ev x=.ref b sz off n) (hb:L.heap b=some blk) (hs:blk.sz=sz) (hm:blk.mt=true) (hl:off+n<=blk.vals.length) (hT:P.underlying T=some (.slice E)) (hz:ck P E z) (cu:z.aj=sz) :
   ey P L dst (.call ⟨.builtin .clear,#[x],#[T]⟩) ((L.a5 b (some ⟨sz,blk.vals.take off++aJ n z++blk.vals.drop (off+n),true⟩)).put dst .any)
 |cpy {T U E E' x y b sz off news blk ag} (hx:L.ev x=.ref b sz off news.length) (hb:L.heap b=some blk) (hs:blk.sz=sz) (hm:blk.mt=true) (hl:off+news.length<=blk.vals.length) (hT:P.underlying T=some (.slice E)) (hU:P.underlying U=some (.slice E')) (hE:aX P E sz ag)
   (hy:(∃c jv cL,L.ev y=.ref c sz jv news.length/\L.heap c=some cL/\cL.sz=sz/\jv+news.length<=cL.vals.length/\news=(cL.vals.drop jv).take news.length)\/L.ev y=.list sz news) :
   ey P L dst (.call ⟨.builtin .copy,#[x,y],#[T,U]⟩) ((L.a5 b (some ⟨sz,blk.vals.take off++news++blk.vals.drop (off+news.length),true⟩)).put dst .any)
 |aua {T U E E' x y b sz off n1 blk c jv n2 cL news ag} (hx:L.ev x=.ref b sz off n1) (hb:L.heap b=some blk) (hs:blk.sz=sz) (hm:blk.mt=true) (hl:off<=blk.vals.length) (hT:P.underlying T=some (.slice E)) (hU:P.underlying U=some (.slice E')) (hE:aX P E sz ag)
   (hy:L.ev y=.ref c sz jv n2) (hc:L.heap c=some cL) (jq:cL.sz=sz) (hn:news.length=aci n2 n1) (h0:0<news.length) (qO:jv+news.length<=cL.vals.length) (lD:news=(cL.vals.drop jv).take news.length) :
   ey P L dst (.call ⟨.builtin .copy,#[x,y],#[T,U]⟩) ((L.a5 b (some ⟨sz,blk.vals.take off++news++blk.vals.drop (off+news.length),true⟩)).put dst .any)
theorem ey.app{P:Program}{L:St}{dst:Option Tmp}{T:TypeId}{U:TypeId}{E:TypeId}{E':TypeId}{d:Nat}{b:Nat}{sz:Nat}{len:Nat}{blk:aL}{x:Operand}{y:Operand}{news:List LV}{z:LV}{cn:Nat}(hd:dst=some d)(hx:L.ev x=.ref b sz 0 len)(hb:L.heap b=some blk)(hs:blk.sz=sz)(hm:blk.mt=true)(hlen:len<=blk.vals.length)(eI:d=b\/L.heap d=none)(fp:b≠0)
   (hT:P.underlying T=some (.slice E)) (hU:P.underlying U=some (.slice E')) (hz:ck P E z) (hE:aX P E sz z.isAgg) (cu:z.aj=sz) (gS:g6 P E cn)
   (hy:(∃c off cL,L.ev y=.ref c sz off news.length/\c≠b/\L.heap c=some cL/\cL.sz=sz/\off+news.length<=cL.vals.length/\news=(cL.vals.drop off).take news.length/\aN news=true) \/
    L.ev y=.list sz news\/(L.ev y=.v (.slice none 0 0)/\news=[]))
   (a6:(len+news.length)*cn<=140737488355328) (ee:len+news.length<=4611686018427387904) (cG:0<sz) :
  ey P L dst (.call ⟨.builtin .append,#[x,y],#[T,U]⟩) (((L.kill b).a5 d (some ⟨sz,a9 b (blk.vals.take len++news),true⟩)).put dst (.ref d sz 0 (len+news.length))):=.iJ hx hb hs hm hlen eI fp hT hU hz hE cu gS hy a6 ee cG
section
variable {P:Program} {W w w':World} {X:XS} {Z0 Z:Nat->Prop} {μ:Nat->Option Nat} {H:bn} {a:Act} {L L':St} {n:Nat}
theorem fS(h:∀t,aC Z μ w (L.slot t) (a.tmps.getD t undef))(x:Operand):aC Z μ w (L.ev x) (a.eval x):=by
 cases x with
 |tmp t=>exact h t
 |const v =>
  simp only[St.ev,Act.eval];split
  ·exact aC.v (by assumption)
  trivial
 |func f =>
  simp only[St.ev,Act.eval];exact⟨by simp[LV.isAgg],fun _=>by simp[ao,aw,aN]⟩
 |global g=>simp only[St.ev];trivial
theorem lI{d:Option Nat}{r:LV}{v:Value}(hd:∀t,d=some t->t<a.tmps.size)(h:∀t,aC Z μ w (L.slot t) (a.tmps.getD t undef))(hv:aC Z μ w r v):
  ∀t,aC Z μ w ((L.put d r).slot t) ((a.put d v).tmps.getD t undef):=by
 intro t
 cases d with
 |none=>exact h t
 |some s =>
  rw[fu];simp only[Act.put];by_cases hts:t=s
  ·subst hts;have:=hd t rfl;simp[this];exact hv
  have:=h t;simp only[hts,if_false,cU,gk (Ne.symm hts)]at this ⊢;exact this
theorem lG(a:Act)(d:Option Nat)(v:Value):(a.put d v).tmps.size=a.tmps.size:=by cases d<;>simp[Act.put]
theorem put_defers(a:Act)(d:Option Nat)(v:Value):(a.put d v).defers=a.defers:=by cases d<;>rfl
theorem gD(L:St)(d:Option Nat)(r:LV):(L.put d r).heap=L.heap:=by cases d<;>rfl
end
end Go.Lg
namespace Go.Lg
section
variable {P:Program} {W w w':World} {X:XS} {Z0 Z:Nat->Prop} {μ:Nat->Option Nat} {H:bn} {a:Act} {L L':St} {n:Nat}
theorem Core.rewrite{b id:Nat}{blk blk':aL}{c c':Array Value}{T:TypeId}{part rest:List Value}(hc:Core W X Z0 μ Z H w)(hb:μ b=some id)(hH:H b=some blk)(hm:blk.mt=true)(lQ:blk'.mt=true)
  (hcell:w.heap[id]?=some (.cells c T (0,0))) (a6:c'.size=c.size) (h1:c'.toList=part++rest) (h2:aw Z μ w blk'.sz blk'.vals part)
  (hw:w'=w.setRow id c') :
  Core W X Z0 μ Z (fun k=>if k=b then some blk' else H k) w'/\Frame Z μ w w':=by
 subst hw;have xC:(w.setRow id c').heap[id]?=some (.cells c' T (0,0)):=setRow_heap w id c c' T (0,0) hcell;have r9:∀k,k≠id->(w.setRow id c').heap[k]?=w.heap[k]?:=fun k hk=>by
  simp only[World.setRow,api,if_neg (Ne.symm hk)]
 have abm:(w.setRow id c').heap.size=w.heap.size:=by simp[World.setRow]
 have km:¬Z id:=hc.gL b id blk hb hH hm;have cJ:Frame Z μ w (w.setRow id c'):=by
  refine⟨fun k hk=>r9 k (fun e=>km (e▸hk)),fun b' k hk cc T' fz rp=>?_⟩;by_cases e:k=id
  ·subst e;rw[hcell]at rp;cases rp;exact⟨c',xC,a6⟩
  exact⟨cc,(r9 k e).trans rp,rfl⟩
 refine⟨⟨?_,fun k hk=>by rw[abm];exact hc.iD k hk,hc.fZ,hc.g9,hc.inj,hc.own,hc.x0,hc.kQ,hc.x1,?_,?_,?_⟩,cJ⟩
 ·refine⟨hc.bB.os,hc.bB.tape,hc.bB.output,by rw[abm];exact hc.bB.size,fun k hk hx=>?_,fun k hx c0 T0 pG h0=>?_⟩;have:k≠id:=by
   rintro rfl;rcases hc.own b k hb with h|h
   ·omega
   exact hx h
  exact(r9 k this).trans (hc.bB.block k hk hx);obtain⟨c1,g1,g2⟩:=hc.bB.qm k hx c0 T0 pG h0;by_cases e:k=id
  ·subst e;rw[hcell]at g1;cases g1;exact⟨c',xC,a6.trans g2⟩
  exact⟨c1,(r9 k e).trans g1,g2⟩
 ·intro b' k bk h g dW;by_cases e:b'=b
  ·subst e;rw[hb]at h;cases h;exact km
  rw[if_neg e]at g;exact hc.gL b' k bk h g dW
 ·intro b' k bk h g dW;by_cases e:b'=b
  ·subst e;rw[if_pos rfl]at g;cases g;rw[lQ]at dW;cases dW
  rw[if_neg e]at g;exact hc.bo b' k bk h g dW
 intro b' k h;by_cases e:b'=b
 ·subst e;rw[hb]at h;cases h;exact⟨blk',if_pos rfl,c',T,part,rest,xC,h1,h2.mono (fun _ h=>h) (fun _ _ h=>h) cJ⟩
 obtain⟨bk,g1,g2⟩:=hc.heap b' k h;have aG:k≠id:=fun e'=>e (hc.inj b' b k h (e'▸hb));exact⟨bk,by rw[if_neg e];exact g1,g2.mono (fun _ h=>h) (fun _ _ h=>h) cJ (r9 k aG)⟩
theorem as9{T:TypeId}{id off:Nat}{c:Array Value}{U:TypeId}{v:Value}{sz:Nat}{ag:Bool}(hT:aX P T sz ag)(hcell:w.heap[id]?=some (.cells c U (0,0)))
  (hv:v.cells.size=sz) (h1:∀u∈v.cells.toList,u.oneCell'=true) (lK:off+sz<=c.size) :
  (storeVar T ⟨id,off,none⟩ v).run P w=.ok () (w.setRow id (c.toList.take off++v.cells.toList++c.toList.drop (off+sz)).toArray):=by
 have:=run_storeCells_at P id off U v.cells.toList 0 c w hcell bm h1;simp only[storeVar,Sem.run_bind,run_sizeOf hT,Result.andThen_ok,hv,ne_eq,not_true_eq_false,if_false,Sem.run_ite];simpa[hv]using this
theorem axA{T:TypeId}{p x:Operand}{b sz i o:Nat}{blk:aL}{y y':LV}(hc:Core W X Z0 μ Z L.heap w)(hr:∀t,aC Z μ w (L.slot t) (a.tmps.getD t undef))
  (hp:L.ev p=.ax b sz i o) (hb:L.heap b=some blk) (hs:blk.sz=sz) (hm:blk.mt=true) (hi:blk.vals[i]?=some y) (hy:y.aj=sz)
  (ki:y.put o (L.ev x)=some y') (hT:aX P T (L.ev x).aj (L.ev x).isAgg) (aG:L.ev x≠.any/\∀l,L.ev x≠.aQ l)
  (dst:Option Tmp) (ty:TypeId) (pos:String) (after:Array Edge) (g:Option (Nat×Bool)) :
  ∃w',(execOp a.eval ⟨dst,.store T p x,ty,pos,after,g⟩).run P w=.ok .skip w'/\Core W X Z0 μ Z (L.a5 b (some ⟨sz,blk.vals.set i y',true⟩)).heap w'/\Frame Z μ w w':=by
 have e1:=fS (L:=L) hr p;rw[hp]at e1;have e2:=e1.2 rfl;simp only[ao]at e2;obtain⟨id,h1,h2⟩:=e2;simp only[dq,and_true]at h1;obtain⟨blk',l6,c,U,part,rest,q1,q2,q3⟩:=hc.heap b id h2;rw[hb]at l6;cases l6;obtain⟨c1,c2,c3,_⟩:=(aC.qY aG.2 aG.1 (fS (L:=L) hr x)).cells aG.1;obtain⟨pre,ch,post,g1,g2,g3,g4,g5⟩:=aw.get blk.vals part i y q3 hi;obtain⟨tH,qq,qN,j1,j2,j3,j4,j5⟩:=LV.anc (L.ev x) (a.eval x).cells.toList c1 (by simpa using c2) y o y' ch ki g4 (by rw[g3,hs,hy]);have jo:=g5 y' _ j4 (by
  have:=congrArg List.length j1;simp only[kH]at this ⊢;omega)
 have hlen:c.toList.length=pre.length+(tH.length+(qq.length+qN.length)+post.length)+rest.length:=by
  rw[q2,g1,j1];simp;omega
 have lK:i*sz+o+(L.ev x).aj<=c.size:=by
  rw[<-jI,hlen];rw[hs]at g2;have:qq.length=(L.ev x).aj:=by rw[j3];simpa using c2
  omega
 have de:=as9 (P:=P) (id:=id) (off:=i*sz+o) hT q1 c2 c3 lK;have gJ:(c.toList.take (i*sz+o)++(a.eval x).cells.toList++c.toList.drop (i*sz+o+(L.ev x).aj))=(pre++((tH++((a.eval x).cells.toList++qN))++post))++rest:=by
  rw[q2,g1,j1];have jL:i*sz+o=(pre++tH).length:=by rw[hs]at g2;simp;omega
  have qO:(L.ev x).aj=qq.length:=by rw[j3];simpa using c2.symm
  rw[jL,qO];have e:(pre++(tH++(qq++qN)++post))++rest=(pre++tH)++(qq++(qN++(post++rest))):=az;rw[e,acM];have e2:List.drop ((pre++tH).length+qq.length) ((pre++tH)++(qq++(qN++(post++rest))))=qN++(post++rest):=by
   rw[<-oL,vO,vO]
  rw[e2];simp
 rw[gJ]at de;have hcs:c.size=c.toList.length:=jI.symm;have hA:(a.eval x).cells.toList.length=qq.length:=j3.symm;obtain⟨k1,k2⟩:=Core.rewrite (w':=w.setRow id ((pre++((tH++((a.eval x).cells.toList++qN))++post))++rest).toArray) (blk':=⟨sz,blk.vals.set i y',true⟩)
  (part:=pre++((tH++((a.eval x).cells.toList++qN))++post)) (rest:=rest) hc h2 hb hm rfl q1
  (by rw[hcs,hlen];simp only[qS,kH,hA]) az (by rw[<-hs];exact jo) rfl
 exact⟨_,by simp only[execOp,h1,Instr.storeAt,Instr.sureAddr,Sem.run_bind,Sem.run_pure,Result.andThen_ok,de],k1,k2⟩
theorem qo.sound{b i0:Nat}(hc:Core W X Z0 μ Z H w)(hb:μ b=some i0){x y:LV}{v:Value}(h:qo H b x y)(hr:aC Z μ w x v):dD Z (jr i0) w y v:=by
 cases h with
 |cC h=>exact bR.aaK hc h hr
 |ref =>
  have:=hr.2 rfl;refine⟨by simp[LV.isAgg],fun _=>?_⟩;simp only[ao]at this ⊢;rcases this with h|⟨id,cap,c,T,fz,h1,h2,h3⟩
  ·exact lp
  rw[hb]at h2;cases h2;exact .inr ⟨i0,cap,c,T,fz,h1,rfl,h3⟩
 |ptr =>
  have:=hr.2 rfl;refine⟨by simp[LV.isAgg],fun _=>?_⟩;simp only[ao]at this ⊢;obtain⟨id,h1,h2⟩:=this;rw[hb]at h2;cases h2;exact⟨i0,h1,rfl⟩
theorem qo.ne{b:Nat}{x y:LV}(h:qo H b x y):(x≠.any/\∀m,x≠.aQ m):=by
 cases h with
 |cC h=>exact h.ne
 |ref=>exact⟨by simp,by simp⟩
 |ptr=>exact⟨by simp,by simp⟩
theorem adu{b i0:Nat}(hc:Core W X Z0 μ Z H w)(hb:μ b=some i0){ρ:Operand->LV}:∀(xs:List Operand) (args:List LV),p9 H b (xs.map ρ) args->(∀x∈xs,aC Z μ w (ρ x) (a.eval x)) ->
  dQ Z (jr i0) w args (xs.map a.eval)
 | [],_,h,_=>by cases h;rfl
 |x::xs,_,h,hr=>by
   cases h with
   |cons h t=>exact⟨_,_,rfl,h.sound hc hb (hr x az),adu hc hb xs _ t (fun y hy=>hr y (by simp[hy]))⟩
theorem Names.mu{b:Nat}{ρ:Operand->LV}:∀(xs:List Operand),Names b (xs.map ρ)->(∀x∈xs,aC Z μ w (ρ x) (a.eval x))->∃id,μ b=some id
 | [],h,_=>by cases h
 |x::xs,h,hr=>by
   have h1:=hr x az;generalize hq:ρ x=q at h h1;simp only[jh,hq]at h
   cases h with
   |ref hl =>
    have:=h1.2 rfl;simp only[ao]at this;rcases this with⟨_,h⟩|⟨id,_,_,_,_,_,h2,_⟩
    ·omega
    exact⟨id,h2⟩
   |ptr =>
    have:=h1.2 rfl;simp only[ao]at this;obtain⟨id,_,h2⟩:=this;exact⟨id,h2⟩
   |tl h=>exact Names.mu xs h (fun y hy=>hr y (by simp[hy]))
theorem azW{f:FuncId}{xs:Array Operand}{bH:Array TypeId}{args:List LV}{r:LV}{b:Nat}{blk blk':aL}{dst:Option Tmp}{ty:TypeId}{pos:String}{af:Array Edge}{g:Option (Nat×Bool)}
  {K:Act->World->Prop} {Q:Exit->Act->World->Prop}
  (hc:Core W X Z0 μ Z L.heap w) (hr:∀t,aC Z μ w (L.slot t) (a.tmps.getD t undef)) (hb:L.heap b=some blk) (hm:blk.mt=true) (hp:aN blk.vals=true)
  (ha:p9 L.heap b (xs.toList.map L.ev) args) (hn:Names b (xs.toList.map L.ev)) (hk:jt P f blk args r blk') (lQ:blk'.mt=true) (fy:aN blk'.vals=true)
  (hK:∀v w' Z',Core W X Z0 μ Z' (L.a5 b (some blk')).heap w'->(∀t,aC Z' μ w' (L.slot t) (a.tmps.getD t undef))->aC Z' μ w' (r.bl fun _=>b) v->K (a.put dst v) w') :
  (Oper.mk dst (.call ⟨.value (.func f),xs,bH⟩) ty pos af g).wp P a w K Q:=by
 obtain⟨i0,iY⟩:=Names.mu (μ:=μ) (Z:=Z) (w:=w) (a:=a) xs.toList hn (fun x _=>fS (L:=L) hr x);have hargs:=adu (a:=a) hc iY xs.toList args ha (fun x _=>fS (L:=L) hr x);have de:(execOp a.eval (Oper.mk dst (.call ⟨.value (.func f),xs,bH⟩) ty pos af g)).run P w=.ok (.enter f (xs.map a.eval)) w:=by
  have:=zX (P:=P) (w:=w) (args:=xs.map a.eval) hk.1;simp only[execOp,resolve,Act.eval,Deferred.ofValue,Sem.run_bind,Sem.run_pure,Result.andThen_ok,invoke];simpa using this
 unfold Oper.wp;rw[de,Oper.upon_enter];obtain⟨ahf,g1,g2⟩:=hc.heap b i0 iY;rw[hb]at g1;cases g1;have iC:pK Z (jr i0) w blk i0:=by
  obtain⟨c,T,part,rest,q1,q2,q3⟩:=g2;exact⟨c,T,part,rest,q1,q2,aw.fE (fun _ h=>h) (fun _ _=>rfl) _ _ _ hp q3⟩
 have:=hk.2 w Z (xs.toList.map a.eval) i0 hc.iD (hc.gL b i0 blk iY hb hm) iC hargs;rw[show (xs.toList.map a.eval).toArray=xs.map a.eval from by apply tv;simp]at this;refine this.mono ?_;rintro e w' ⟨v,cK,Zr,rfl,zr,hv⟩;obtain⟨Z',h1,h2,h3,h4,h5⟩:=hc.avp iY hb hm lQ fy zr;refine hK v w' Z' h1 (fun t=>(hr t).mono h3 (fun _ _ h=>h) h4) ?_;exact(hv.mono h2 (fun _ _ h=>h) ⟨fun _ _=>rfl,(Frame.refl Zr cK w').m⟩).bl (fun _=>b) (fun k id h=>by obtain⟨rfl,rfl⟩:=h5 k id h;exact iY)
end
end Go.Lg
namespace Go.Lg
section
variable {P:Program} {W w w':World} {X:XS} {Z0 Z:Nat->Prop} {μ:Nat->Option Nat} {H:bn} {a:Act} {L L':St} {n:Nat}
def jV(μ:Nat->Option Nat)(b:Nat):Nat->Option Nat:=fun c=>if c=b then none else μ c
theorem Core.kill(b:Nat)(fp:b≠0)(hc:Core W X Z0 μ Z L.heap w):Core W X Z0 (jV μ b) Z (L.kill b).heap w:=by
 have hinv:∀c id,jV μ b c=some id->c≠b/\μ c=some id:=fun c id h=>by
  unfold jV at h;split at h
  ·cases h
  exact⟨by assumption,h⟩
 have hH:∀c blk,(L.kill b).heap c=some blk->c≠b->∃bk,L.heap c=some bk/\blk=⟨bk.sz,a9 b bk.vals,bk.mt⟩:=fun c blk h aG=>by
  simp only[St.kill,if_neg aG,ue]at h;obtain⟨bk,h1,h2⟩:=h;exact⟨bk,h1,h2.symm⟩
 refine⟨hc.bB,hc.iD,hc.fZ,hc.g9,?_,?_,?_,hc.kQ,fun id h=>by simp only[jV,if_neg (Ne.symm fp)];exact hc.x1 id h,?_,?_,?_⟩
 ·intro c c' id h h';exact hc.inj c c' id (hinv c id h).2 (hinv c' id h').2
 ·intro c id h;exact hc.own c id (hinv c id h).2
 ·intro c id h;exact hc.x0 c id (hinv c id h).2
 ·intro c id blk h g hm;obtain⟨bk,g1,rfl⟩:=hH c blk g (hinv c id h).1;exact hc.gL c id bk (hinv c id h).2 g1 hm
 ·intro c id blk h g hm;obtain⟨bk,g1,rfl⟩:=hH c blk g (hinv c id h).1;exact hc.bo c id bk (hinv c id h).2 g1 hm
 intro c id h;obtain⟨aG,h1⟩:=hinv c id h;obtain⟨bk,g1,cc,T,part,rest,g2,g3,g4⟩:=hc.heap c id h1;refine⟨⟨bk.sz,a9 b bk.vals,bk.mt⟩,by simp[St.kill,aG,g1],cc,T,part,rest,g2,g3,?_⟩;exact aw.kill (fun _ h=>h) (fun k id hk h=>by simp[jV,hk,h]) (Frame.refl _ _ _) _ _ g4
theorem acu(b:Nat)(hr:∀t,aC Z μ w (L.slot t) (a.tmps.getD t undef)):∀t,aC Z (jV μ b) w ((L.kill b).slot t) (a.tmps.getD t undef):=fun t =>
 aC.kill (fun _ h=>h) (fun k id hk h=>by simp[jV,hk,h]) (Frame.refl _ _ _) (hr t)
theorem Core.attach{d id:Nat}{blk:aL}{c c':Array Value}{T:TypeId}{part rest:List Value}(hc:Core W X Z0 μ Z H w)(hd:μ d=none)(hm:blk.mt=true)
  (nA:∀k,μ k≠some id) (km:¬Z id) (bD:W.heap.size<=id\/X.y id) (a6:c'.size=c.size)
  (hcell:w.heap[id]?=some (.cells c T (0,0))) (h1:c'.toList=part++rest) (h2:aw Z μ w blk.sz blk.vals part)
  (hw:w'=w.setRow id c') :
  Core W X Z0 (l9 μ d id) Z (fun k=>if k=d then some blk else H k) w'/\Frame Z μ w w'/\(∀b k,μ b=some k->l9 μ d id b=some k)/\w'.heap[id]?=some (.cells c' T (0,0)):=by
 subst hw;have xC:(w.setRow id c').heap[id]?=some (.cells c' T (0,0)):=setRow_heap w id c c' T (0,0) hcell;have r9:∀k,k≠id->(w.setRow id c').heap[k]?=w.heap[k]?:=fun k hk=>by
  simp only[World.setRow,api,if_neg (Ne.symm hk)]
 have abm:(w.setRow id c').heap.size=w.heap.size:=by simp[World.setRow]
 have cJ:Frame Z μ w (w.setRow id c') :=
  ⟨fun k hk=>r9 k (fun e=>km (e▸hk)),fun b' k hk cc T' fz rp=>⟨cc,(r9 k (fun e=>nA b' (e▸hk))).trans rp,rfl⟩⟩
 have uS:∀b k,μ b=some k->l9 μ d id b=some k:=fun b k h=>by
  unfold l9;split
  ·subst_vars;rw[hd]at h;cases h
  exact h
 have hinv:∀b k,l9 μ d id b=some k->(b=d/\k=id)\/(b≠d/\μ b=some k):=fun b k h=>by
  unfold l9 at h;split at h
  ·cases h;exact .inl ⟨by assumption,rfl⟩
  exact .inr ⟨by assumption,h⟩
 refine⟨⟨?_,fun k hk=>by rw[abm];exact hc.iD k hk,hc.fZ,hc.g9,?_,?_,?_,hc.kQ,fun k h=>uS 0 k (hc.x1 k h),?_,?_,?_⟩,cJ,uS,xC⟩
 ·exact⟨hc.bB.os,hc.bB.tape,hc.bB.output,by rw[abm];exact hc.bB.size,fun k hk hx=>(r9 k (by
    rintro rfl;rcases bD with h|h
    ·omega
    exact hx (.inr h))).trans (hc.bB.block k hk hx),
   fun k hx c0 T0 pG h0=>by
    obtain⟨c1,g1,g2⟩:=hc.bB.qm k hx c0 T0 pG h0;by_cases e:k=id
    ·subst e;rw[hcell]at g1;cases g1;exact⟨c',xC,a6.trans g2⟩
    exact⟨c1,(r9 k e).trans g1,g2⟩⟩
 ·intro b b' k h h';rcases hinv b k h with⟨rfl,rfl⟩|⟨n1,h3⟩<;>rcases hinv b' _ h' with⟨rfl,e⟩|⟨n2,h4⟩
  ·rfl
  ·exact absurd h4 (nA b')
  ·exact absurd (e▸h3) (nA b)
  exact hc.inj b b' k h3 h4
 ·intro b k h;rcases hinv b k h with⟨rfl,rfl⟩|⟨n1,h3⟩
  ·exact bD.imp (fun h=>h) .inr
  exact hc.own b k h3
 ·intro b k h hx;rcases hinv b k h with⟨rfl,rfl⟩|⟨n1,h3⟩
  ·exact absurd (hc.x1 _ hx) (nA 0)
  exact hc.x0 b k h3 hx
 ·intro b k bk h g dW;rcases hinv b k h with⟨rfl,rfl⟩|⟨n1,h3⟩
  ·exact km
  rw[if_neg n1]at g;exact hc.gL b k bk h3 g dW
 ·intro b k bk h g dW;rcases hinv b k h with⟨rfl,rfl⟩|⟨n1,h3⟩
  ·rw[if_pos rfl]at g;cases g;rw[hm]at dW;cases dW
  rw[if_neg n1]at g;exact hc.bo b k bk h3 g dW
 intro b k h;rcases hinv b k h with⟨rfl,rfl⟩|⟨n1,h3⟩
 ·exact⟨blk,if_pos rfl,c',T,part,rest,xC,h1,h2.mono (fun _ h=>h) uS cJ⟩
 obtain⟨bk,g1,g2⟩:=hc.heap b k h3;exact⟨bk,by rw[if_neg n1];exact g1,g2.mono (fun _ h=>h) uS cJ (r9 k (fun e=>nA b (e▸h3)))⟩
theorem aeX{U E':TypeId}{y:Operand}{news:List LV}{sz:Nat}(hc:Core W X Z0 μ Z L.heap w)(hr:∀t,aC Z μ w (L.slot t) (a.tmps.getD t undef))(hU:P.underlying U=some (.slice E'))
  (hy:(∃c off cL,L.ev y=.ref c sz off news.length/\L.heap c=some cL/\cL.sz=sz/\off+news.length<=cL.vals.length/\news=(cL.vals.drop off).take news.length) \/
    L.ev y=.list sz news\/(L.ev y=.v (.slice none 0 0)/\news=[])) :
  ∃cells,Src P sz U (a.eval y) news.length cells w/\aw Z μ w sz news cells:=by
 have e1:=fS (L:=L) hr y;have one:∀(l:List LV) (cs:List Value),aw Z μ w sz l cs->∀u∈cs,u.oneCell'=true:=by
  intro l
  induction l with
  |nil=>intro cs h;simp only[aw]at h;simp[h]
  |cons x xs ih =>
   intro cs h u hu;simp only[aw]at h;obtain⟨c1,c2,rfl,h2,h3,h4⟩:=h;rcases p7.1 hu with hu|hu
   ·exact ao.one _ _ h3 u hu
   exact ih c2 h4 u hu
 rcases hy with⟨cc,off,cL,h1,h2,h3,h4,h5⟩|h1|⟨h1,rfl⟩
 ·rw[h1]at e1;have e2:=e1.2 rfl;simp only[ao]at e2;rcases e2 with⟨q1,q2⟩|⟨id,cap,c,T,fz,q1,q2,q3,q4,q5⟩
  ·simp only[dq,and_true]at q1;have uX:=kJ q2;subst uX;refine⟨[],?_,by simp[aw]⟩;rw[q1];exact Src.ofNil w hU 0
  simp only[dq,and_true]at q1;obtain⟨bk,g1,c',T',part,rest,g2,g3,g4⟩:=hc.heap cc id q2;rw[h2]at g1;cases g1;rw[q4]at g2;cases g2;obtain⟨c1,c2,d1,d2,d3⟩:=aw.split (cL.vals.take off) (cL.vals.drop off) part yz;obtain⟨c3,c4,d4,d5,d6⟩:=aw.split ((cL.vals.drop off).take news.length) ((cL.vals.drop off).drop news.length) c2 (by rw[mP];exact d3);rw[<-h5,h3]at d5;have jL:=aw.length _ _ d2;rw[eE,jE aa,h3]at jL;have uw:=zJ (w:=w) (off:=off*sz) (part:=c3) (rest:=c4++rest) q4 (by rw[g3,d1,d4,<-jL];simp);refine⟨c3,?_,d5⟩;rw[q1];exact Src.ofSlice w hU _ _ _ c3 (aw.length _ _ d5) (fun j u hj=>by rw[Addr.add_mid];exact uw j u hj) (one _ _ d5)
 ·rw[h1]at e1;have e2:=e1.2 rfl;simp only[ao]at e2;obtain⟨ad,len,cap,q1,q2,q3,q4,_⟩:=e2;simp only[dq,and_true]at q1;rcases q4 with q4|⟨blk,off,c,T,fz,part,rest,g1,g2,g3,g4,g5⟩
  ·subst q4;simp at q2;subst q2;refine⟨[],?_,rfl⟩;rw[q1]
   cases ad with
   |none=>exact Src.ofNil w hU cap
   |some ad=>exact Src.ofSlice w hU ad 0 cap [] az az az
  subst g1;have uw:=zJ (w:=w) (part:=part) (rest:=rest) g3 g4;refine⟨part,?_,g5⟩;rw[q1,q2];exact Src.ofSlice w hU _ _ _ part (aw.length _ _ g5) (fun j u hj=>by rw[Addr.add_mid];exact uw j u hj) (one _ _ g5)
 rw[h1]at e1;have e2:=e1.cV;refine⟨[],?_,rfl⟩;rw[e2];exact Src.ofNil w hU 0
theorem abj{d:Nat}{blk:aL}{H:bn}(hd:H d=none):H.le (fun k=>if k=d then some blk else H k):=fun b bk h=>by
 have:b≠d:=by rintro rfl;rw[hd]at h;cases h
 exact⟨bk.mt,by simp only[if_neg this];exact h,fun h=>h,fun h1 h2=>by rw[h1]at h2;cases h2⟩
theorem aer{g o:Nat}{T:TypeId}{vs:List Value}{cur:Array Value}(hg:w.heap[g]?=some (.cells cur T (0,0)))(hl:o+vs.length<=cur.size)(h1:∀v∈vs,v.oneCell'=true):
  w.setCells g o vs=w.setRow g (cur.toList.take o++vs++cur.toList.drop (o+vs.length)).toArray:=by
 have a:=run_storeCells_at (default:Program) g o T vs 0 cur w hg (by simpa using hl) h1;have hc:∀j,j<vs.length->(w.cell? ⟨g,o+j,none⟩).isSome=true:=fun j hj=>by
  rw[cell_of_row w g (o+j) cur T (0,0) hg,nF aa];rfl
 have hf:∀j,j<vs.length->w.frozen? ⟨g,o+j,none⟩=false:=fun j hj=>by simp[World.frozen?,hg]
 have b:=run_storeCells_cells (P:=(default:Program)) g o vs 0 w (by simpa using hc) (by simpa using hf) h1;rw[b]at a;simp only[jK,Result.ok.injEq,true_and]at a;exact a
theorem ahv{T U E ty:TypeId}{d sz:Nat}{news olds:List LV}{z:LV}{cn:Nat}{oldc cX:List Value}{base:Option Addr}{sLen sCap:Nat}{xv yv:Value}
  (hc:Core W X Z0 μ Z H w) (hd:H d=none) (hT:P.underlying T=some (.slice E)) (hz:ck P E z) (hE:aX P E sz z.isAgg) (cu:z.aj=sz) (gS:g6 P E cn)
  (hx:xv=.slice base sLen sCap) (hold:(Builtin.firstCells sz sLen (.slice base sLen sCap)).run P w.drew=.ok oldc.toArray w.drew)
  (hs:Src P sz U yv news.length cX w) (ho:aw Z μ w sz olds oldc) (cf:olds.length=sLen) (hn:aw Z μ w sz news cX)
  (hg:sCap<sLen+news.length) (a6:(sLen+news.length)*cn<=140737488355328) (ee:sLen+news.length<=4611686018427387904) :
  ∃v w' aF Z',(Builtin.append_ #[T,U] ty #[xv,yv]).run P w=.ok v w'/\Core W X Z0 aF Z' (fun k=>if k=d then some ⟨sz,olds++news,true⟩else H k) w' /\
   (∀id,Z id->Z' id)/\(∀b id,μ b=some id->aF b=some id)/\Frame Z μ w w'/\aC Z' aF w' (.ref d sz 0 (sLen+news.length)) v:=by
 obtain⟨i,zv,z1,z2,z3,z4⟩:=hz;have oF:i.size=sz:=by have:=hE.1;rw[z1]at this;simpa using this
 have wY:i.bytes=cn:=by obtain⟨i',g1,g2⟩:=gS;rw[z1]at g1;cases g1;exact g2
 have sg:=nextslicecap_le hg;have lK:Builtin.nextslicecap (sLen+news.length) sCap*i.bytes<=281474976710656:=by
  rw[wY]
  calc Builtin.nextslicecap (sLen+news.length) sCap*cn<=(2*(sLen+news.length))*cn:=dT _ sg
   _=2*((sLen+news.length)*cn):=by rw[dZ]
   _<=281474976710656:=by omega
 subst hx;have de:=run_append_grow_src (P:=P) w T U ty E i zv hT z1 z2 base sLen sCap oldc (by rw[oF];exact hold) yv news.length cX (by rw[oF];exact hs) hg aa lK;have yc:μ d=none:=by
  cases hq:μ d with
  |none=>rfl
  |some id=>obtain⟨bk,g,_⟩:=hc.heap d id hq;rw[hd]at g;cases g
 have xi:zv.cells.size=sz:=by
  have h1:=ao.len (z4 Z μ w) (LV.eg z3);rw[<-jI,h1,cu]
 have dz:=aw.append _ _ _ _ ho hn;have hlen:=aw.length _ _ dz;obtain⟨Z1,k1,k2⟩:=hc.tq (abj (blk:=⟨sz,olds++news,true⟩) hd);have ar9:nS w (w.drew.alloc (.cells ((oldc++cX).toArray++Builtin.zeroCells zv.cells (grownCap w (sLen+news.length) sCap E-(sLen+news.length))) E)) _:=⟨rfl,rfl,rfl,rfl⟩;obtain⟨Z2,h1,h2,h3,h4,h5,h6⟩:=k1.push (d:=d) (blk:=⟨sz,olds++news,true⟩) (part:=oldc++cX) (rest:=(Builtin.zeroCells zv.cells (grownCap w (sLen+news.length) sCap E-(sLen+news.length))).toList)
  az yc ar9 az (dz.mono k2 (fun _ _ h=>h) ⟨fun _ _=>rfl,(Frame.refl Z μ w).m⟩)
 refine⟨_,_,_,Z2,de,h1,fun id h=>h2 id (k2 id h),h3,⟨fun id h=>h4.z id (k2 id h),h4.m⟩,⟨by simp[LV.isAgg],fun _=>?_⟩⟩;simp only[ao];have jS:=grownCap_ge w (sLen+news.length) sCap E;refine .inr ⟨w.heap.size,_,_,E,(0,0),by simp,h5,jS,h6,?_⟩;rw[ac2,qS,hlen,size_zeroCells,xi,kH,cf,fW,<-ep];exact dT _ aa
theorem rP(hc:Core W X Z0 μ Z H w){d:Nat}(hd:H d=none):μ d=none:=by
 cases hq:μ d with
 |none=>rfl
 |some id=>obtain⟨bk,g,_⟩:=hc.heap d id hq;rw[hd]at g;cases g
theorem aw.aaR{sz b:Nat}(l:List LV)(cs:List Value)(h:aw Z μ w sz l cs):aw Z (jV μ b) w sz (a9 b l) cs :=
 aw.kill (fun _ h=>h) (fun k id hk h=>by simp[jV,hk,h]) (Frame.refl _ _ _) _ _ h
theorem acv(b:Nat):∀l:List LV,(a9 b l).length=l.length
 | []=>rfl
 |x::xs=>by simp[a9,acv b xs]
theorem agN(b:Nat):∀l m:List LV,a9 b (l++m)=a9 b l++a9 b m
 | [],m=>rfl
 |x::xs,m=>by simp[a9,agN b xs m]
theorem Core.ag5{H':bn}(hc:Core W X Z0 μ Z H w)(hh:∀b id,μ b=some id->H' b=H b):Core W X Z0 μ Z H' w :=
 ⟨hc.bB,hc.iD,hc.fZ,hc.g9,hc.inj,hc.own,hc.x0,hc.kQ,hc.x1,fun b id blk h g=>hc.gL b id blk h ((hh b id h).symm.trans g),fun b id blk h g=>hc.bo b id blk h ((hh b id h).symm.trans g),
  fun b id h=>let ⟨blk,g1,g2⟩:=hc.heap b id h;⟨blk,(hh b id h).trans g1,g2⟩⟩
theorem atd{T U E E' ty:TypeId}{d b sz len:Nat}{blk:aL}{x y:Operand}{news:List LV}{z:LV}{cn:Nat}(hc:Core W X Z0 μ Z L.heap w)(hr:∀t,aC Z μ w (L.slot t) (a.tmps.getD t undef))
  (hx:L.ev x=.ref b sz 0 len) (hb:L.heap b=some blk) (hs:blk.sz=sz) (hm:blk.mt=true) (hlen:len<=blk.vals.length) (eI:d=b\/L.heap d=none) (fp:b≠0)
  (hT:P.underlying T=some (.slice E)) (hU:P.underlying U=some (.slice E')) (hz:ck P E z) (hE:aX P E sz z.isAgg) (cu:z.aj=sz) (gS:g6 P E cn)
  {cX:List Value} (lT:Src P sz U (a.eval y) news.length cX w) (lD:aw Z μ w sz news cX)
  (a6:(len+news.length)*cn<=140737488355328) (ee:len+news.length<=4611686018427387904) :
  ∃v w' aF Z',(Builtin.append_ #[T,U] ty #[a.eval x,a.eval y]).run P w=.ok v w' /\
   Core W X Z0 aF Z' ((L.kill b).a5 d (some ⟨sz,a9 b (blk.vals.take len++news),true⟩)).heap w' /\
   (∀t,aC Z' aF w' ((L.kill b).slot t) (a.tmps.getD t undef))/\aC Z' aF w' (.ref d sz 0 (len+news.length)) v:=by
 have e1:=fS (L:=L) hr x;rw[hx]at e1;have e2:=e1.2 rfl;simp only[ao]at e2;have s4:(L.kill b).heap d=none:=by
  rcases eI with rfl|h
  ·simp[St.kill]
  simp only[St.kill];split
  ·rfl
  rw[h];rfl
 rcases e2 with⟨q1,rfl⟩|⟨id,cap,c,U',fz,q1,q2,q3,q4,q5⟩
 ·simp only[dq,and_true]at q1;have hk:=hc.kill b fp;have sC:=acu b hr;have eY:(a9 b news).length=news.length:=acv b news
  cases hnw:news with
  |nil =>
   subst hnw;obtain⟨i,zv,z1,z2,z3,z4⟩:=hz;have oF:i.size=sz:=by have:=hE.1;rw[z1]at this;simpa using this
   have afy:cX=[]:=by simpa[aw]using lD
   subst afy;have de:=run_append_nothing (P:=P) w T U ty E i hT z1 none 0 0 (bA _) (a.eval y) (oF▸lT);refine⟨_,w,jV μ b,Z,by rw[q1];exact de,?_,sC,⟨by simp[LV.isAgg],fun _=>by simp[ao]⟩⟩;exact hk.ag5 fun c id qj=>by
    have:c≠d:=by rintro rfl;rw[rP hk s4]at qj;cases qj
    simp[St.a5,this]
  |cons x0 xs0 =>
   rw[<-hnw];have lW:0<news.length:=by rw[hnw];simp
   obtain⟨v,w',aF,Z',r1,r2,r3,r4,r5,r6⟩:=ahv (P:=P) (ty:=ty) (U:=U) (olds:=[]) (news:=a9 b news) (oldc:=[]) (sLen:=0) (sCap:=0) hk s4 hT hz hE cu gS q1 (by simp[Builtin.firstCells]) (by rw[eY];exact lT)
    (by simp[aw]) rfl (aw.aaR _ _ lD) (by rw[eY];omega) (by rw[eY];exact a6) (by rw[eY];exact ee)
   rw[eF]at r2;rw[eY]at r6;exact⟨v,w',aF,Z',r1,by simpa[St.a5]using r2,fun t=>(sC t).mono r3 r4 r5,r6⟩
 simp only[dq,and_true,aaj]at q1;obtain⟨bk,g1,c',T',part,rest,g2,g3,g4⟩:=hc.heap b id q2;rw[hb]at g1;cases g1;rw[q4]at g2;cases g2;simp only[fW]at q5;obtain⟨p1,p2,d1,d2,d3⟩:=aw.split (blk.vals.take len) (blk.vals.drop len) part yz;rw[hs]at d2;have ir:=aw.length _ _ d2;rw[eE,jE hlen]at ir;have hk:=hc.kill b fp;have sC:=acu b hr;have nA:∀k,jV μ b k≠some id:=fun k h=>by
  unfold jV at h;split at h
  ·cases h
  rename_i aG;exact aG (hc.inj k b id h q2)
 have bD:W.heap.size<=id\/X.y id:=by
  rcases hc.own b id q2 with h|h|h
  ·exact lp
  ·exact absurd (hc.x0 b id q2 h) fp
  exact .inr h
 have km:=hc.gL b id blk q2 hb hm;have kE:=aw.length _ _ lD;by_cases agw:len+news.length<=cap
 ·have lK:len*sz+cX.length<=c.size:=by
   rw[kE,<-ep];exact bW (dT _ agw) q5
  have rv:∀j,j<cX.length->(w.cell? ⟨id,0+len*sz+j,none⟩).isSome=true:=fun j hj=>by
   rw[cell_of_row w id _ c _ _ q4,nF aa];rfl
  have wg:∀j,j<cX.length->w.frozen? ⟨id,0+len*sz+j,none⟩=false:=fun j hj=>by simp[World.frozen?,q4]
  obtain⟨i,zv,z1,z2,z3,z4⟩:=hz;have oF:i.size=sz:=by have:=hE.1;rw[z1]at this;simpa using this
  have de:=run_append_room_src (P:=P) w T U ty E i hT z1 id 0 len cap (a.eval y) news.length cX (by rw[oF];exact lT) agw (by rw[oF];exact rv) (by rw[oF];exact wg);rw[oF,fW,aer q4 lK lT.one]at de;have hold:=(aw.aaR (b:=b) _ _ d2);have gJ:=(aw.aaR (b:=b) _ _ lD);have dz:=aw.append _ _ _ _ hold gJ;rw[<-agN]at dz;have asu:c.toList.take (len*sz)++cX++c.toList.drop (len*sz+cX.length)=(p1++cX)++c.toList.drop (len*sz+cX.length):=by
   rw[g3,d1,<-ir];simp
  rw[asu]at de;obtain⟨k1,k2,k3,k4⟩:=hk.attach (d:=d) (id:=id) (blk:=⟨sz,a9 b (blk.vals.take len++news),true⟩) (c':=((p1++cX)++c.toList.drop (len*sz+cX.length)).toArray)
   (part:=p1++cX) (rest:=c.toList.drop (len*sz+cX.length)) (rP hk s4) rfl nA km bD (by
    simp only[qS,kH,ir,oe,jI];omega) q4 az dz rfl
  refine⟨_,_,_,Z,by rw[q1];exact de,k1,fun t=>(sC t).mono (fun _ h=>h) k3 k2,⟨by simp[LV.isAgg],fun _=>?_⟩⟩;simp only[ao];refine .inr ⟨id,cap,_,U',(0,0),by simp,by simp[l9],agw,k4,?_⟩;rw[fW];simp only[qS,kH,ir,oe,jI];omega
 have hold:(Builtin.firstCells sz len (.slice (some ⟨id,0,none⟩) len cap)).run P w.drew=.ok p1.toArray w.drew:=by
  refine run_firstCells_some w.drew sz len ⟨id,0,none⟩ len cap p1 ir (fun j v hj=>?_);rw[Addr.add_mid];have uw:=zJ (w:=w) (off:=0) (part:=p1) (rest:=p2++rest) q4 (by rw[gX,g3,d1];simp);exact uw j v hj
 have eY:(a9 b news).length=news.length:=acv b news;obtain⟨v,w',aF,Z',r1,r2,r3,r4,r5,r6⟩:=ahv (P:=P) (ty:=ty) (U:=U) (olds:=a9 b (blk.vals.take len)) (news:=a9 b news) hk s4 hT hz hE cu gS q1 hold (by rw[eY];exact lT)
  (aw.aaR _ _ d2) (by rw[acv,eE];omega) (aw.aaR _ _ lD) (by rw[eY];omega) (by rw[eY];exact a6) (by rw[eY];exact ee)
 rw[<-agN]at r2;rw[eY]at r6;exact⟨v,w',aF,Z',r1,r2,fun t=>(sC t).mono r3 r4 r5,r6⟩
theorem awx{T U E E' ty:TypeId}{d b sz len:Nat}{blk:aL}{x y:Operand}{news:List LV}{z:LV}{cn:Nat}(hc:Core W X Z0 μ Z L.heap w)(hr:∀t,aC Z μ w (L.slot t) (a.tmps.getD t undef))
  (hx:L.ev x=.ref b sz 0 len) (hb:L.heap b=some blk) (hs:blk.sz=sz) (hm:blk.mt=true) (hlen:len<=blk.vals.length) (eI:d=b\/L.heap d=none) (fp:b≠0)
  (hT:P.underlying T=some (.slice E)) (hU:P.underlying U=some (.slice E')) (hz:ck P E z) (hE:aX P E sz z.isAgg) (cu:z.aj=sz) (gS:g6 P E cn)
  (hy:(∃c off cL,L.ev y=.ref c sz off news.length/\c≠b/\L.heap c=some cL/\cL.sz=sz/\off+news.length<=cL.vals.length/\news=(cL.vals.drop off).take news.length/\aN news=true) \/
    L.ev y=.list sz news\/(L.ev y=.v (.slice none 0 0)/\news=[]))
  (a6:(len+news.length)*cn<=140737488355328) (ee:len+news.length<=4611686018427387904) :
  ∃v w' aF Z',(Builtin.append_ #[T,U] ty #[a.eval x,a.eval y]).run P w=.ok v w' /\
   Core W X Z0 aF Z' ((L.kill b).a5 d (some ⟨sz,a9 b (blk.vals.take len++news),true⟩)).heap w' /\
   (∀t,aC Z' aF w' ((L.kill b).slot t) (a.tmps.getD t undef))/\aC Z' aF w' (.ref d sz 0 (len+news.length)) v:=by
 obtain⟨cX,lT,lD⟩:=aeX (P:=P) hc hr hU (y:=y) (news:=news) (sz:=sz) (by
  rcases hy with⟨c,off,b2,q1,_,q3,q4,q5,q6,_⟩|h|h
  ·exact .inl ⟨c,off,b2,q1,q3,q4,q5,q6⟩
  ·exact .inr (.inl h)
  exact .inr (.inr h))
 exact atd hc hr hx hb hs hm hlen eI fp hT hU hz hE cu gS lT lD a6 ee
theorem at0{T U E ty:TypeId}{d sz n:Nat}{x y:Operand}{z:LV}{cn:Nat}{k kl:IntKind}(hc:Core W X Z0 μ Z L.heap w)(hr:∀t,aC Z μ w (L.slot t) (a.tmps.getD t undef))
  (hT:P.underlying T=some (.slice E)) (hU:P.underlying U=some (.int k)) (hz:ck P E z) (hE:aX P E sz z.isAgg) (cu:z.aj=sz) (hb:g6 P E cn)
  (hx:L.ev x=.v (.slice none 0 0)) (hy:L.ev y=.v (.int kl (n:Nat))) (eI:L.heap d=none) (h0:0<n) (cG:0<sz) (hm:n*cn<=140737488355328) (ee:n<=4611686018427387904) :
  ∃v w' aF Z',(Builtin.append_ #[T,U] ty #[a.eval x,a.eval y]).run P w=.ok v w'/\Core W X Z0 aF Z' (L.a5 d (some ⟨sz,aJ n z,true⟩)).heap w' /\
   (∀t,aC Z' aF w' (L.slot t) (a.tmps.getD t undef))/\aC Z' aF w' (.ref d sz 0 n) v:=by
 obtain⟨i,zv,z1,z2,z3,z4⟩:=hz;have e1:=fS (L:=L) hr x;rw[hx]at e1;have e1:=e1.cV;have e2:=fS (L:=L) hr y;rw[hy]at e2;have e2:=e2.cV;have aG:=LV.eg z3;have oF:i.size=sz:=by have:=hE.1;rw[z1]at this;simpa using this
 have wY:i.bytes=cn:=by obtain⟨i',g1,g2⟩:=hb;rw[z1]at g1;cases g1;exact g2
 have jw:=ao.len (z4 Z μ w) aG;have xi:zv.cells.size=sz:=by rw[<-jI,jw,cu]
 have sg:=nextslicecap_le (show 0<n from h0);have lK:Builtin.nextslicecap n 0*i.bytes<=281474976710656:=by
  rw[wY]
  calc Builtin.nextslicecap n 0*cn<=(2*n)*cn:=dT _ sg
   _=2*(n*cn):=by rw[dZ]
   _<=281474976710656:=by omega
 have de:=asA (P:=P) (w:=w) T U E ty k kl i zv hT hU z1 z2 n h0 aa aa (by rw[wY];exact hm) lK;have yc:=rP hc eI;obtain⟨Z1,k1,k2⟩:=hc.tq (abj (blk:=⟨sz,aJ n z,true⟩) eI);have dz:=aw.replicate (sz:=sz) (z4 Z1 μ w) (by rw[jw,cu]) n;obtain⟨Z2,h1,h2,h3,h4,h5,h6⟩:=k1.push (d:=d) (blk:=⟨sz,aJ n z,true⟩) (part:=(aJ n zv.cells.toList).flatten) (rest:=(Builtin.zeroCells zv.cells (grownCap w n 0 E-n)).toList) az yc
  (⟨rfl,rfl,rfl,rfl⟩:nS w (w.drew.alloc (.cells (Builtin.zeroCells zv.cells n++Builtin.zeroCells zv.cells (grownCap w n 0 E-n)) E)) _) (by rw[afN,agY]) dz
 have cJ:Frame Z μ w (w.drew.alloc (.cells (Builtin.zeroCells zv.cells n++Builtin.zeroCells zv.cells (grownCap w n 0 E-n)) E)):=⟨fun id h=>h4.z id (k2 id h),h4.m⟩;refine⟨_,_,_,Z2,by rw[e1,e2];exact de,h1,fun t=>(hr t).mono (fun id h=>h2 id (k2 id h)) h3 cJ,⟨by simp[LV.isAgg],fun _=>?_⟩⟩;simp only[ao];have jS:=grownCap_ge w n 0 E;refine .inr ⟨w.heap.size,_,_,E,(0,0),by simp,h5,jS,h6,?_⟩;rw[ac2,size_zeroCells,size_zeroCells,xi,fW,<-ep];exact dT _ aa
theorem avh{T U E E' ty:TypeId}{d sz:Nat}{x y:Operand}{news:List LV}{z:LV}{cn:Nat}(hc:Core W X Z0 μ Z L.heap w)(hr:∀t,aC Z μ w (L.slot t) (a.tmps.getD t undef))
  (hx:L.ev x=.v (.slice none 0 0)) (eI:L.heap d=none)
  (hT:P.underlying T=some (.slice E)) (hU:P.underlying U=some (.slice E')) (hz:ck P E z) (hE:aX P E sz z.isAgg) (cu:z.aj=sz) (gS:g6 P E cn)
  (hy:(∃c off cL,L.ev y=.ref c sz off news.length/\L.heap c=some cL/\cL.sz=sz/\off+news.length<=cL.vals.length/\news=(cL.vals.drop off).take news.length/\aN news=true) \/
    L.ev y=.list sz news)
  (hn:0<news.length) (a6:news.length*cn<=140737488355328) (ee:news.length<=4611686018427387904) :
  ∃v w' aF Z',(Builtin.append_ #[T,U] ty #[a.eval x,a.eval y]).run P w=.ok v w'/\Core W X Z0 aF Z' (L.a5 d (some ⟨sz,news,true⟩)).heap w' /\
   (∀t,aC Z' aF w' (L.slot t) (a.tmps.getD t undef))/\aC Z' aF w' (.ref d sz 0 news.length) v:=by
 obtain⟨cX,lT,lD⟩:=aeX (P:=P) hc hr hU (y:=y) (news:=news) (sz:=sz) (by
  rcases hy with⟨c,off,b2,q1,q3,q4,q5,q6,_⟩|h
  ·exact .inl ⟨c,off,b2,q1,q3,q4,q5,q6⟩
  exact .inr (.inl h))
 have e1:=fS (L:=L) hr x;rw[hx]at e1;have e2:=e1.cV;obtain⟨v,w',aF,Z',r1,r2,r3,r4,r5,r6⟩:=ahv (P:=P) (ty:=ty) (U:=U) (olds:=[]) (news:=news) (oldc:=[]) (sLen:=0) hc eI hT hz hE cu gS e2 (by simp[Builtin.firstCells]) lT
  (by simp[aw]) rfl lD aa (by rw[fW];exact a6) (by rw[fW];exact ee)
 rw[fW]at r6;rw[eF]at r2;exact⟨v,w',aF,Z',r1,r2,fun t=>(hr t).mono r3 r4 r5,r6⟩
end
end Go.Lg
namespace Go.Lg
def cI(ops:Array Oper)(L:St)(o:Oper)(res:Bool):Prop :=
 match o.guard with
 |none=>res=true
 |some (j,want)=>∃d,(ops[j]?).bind (·.dst)=some d/\((∃b,L.slot d=.v (.bool b)/\res=(b==want))\/(L.slot d=.aQ []/\res=false))
inductive Step (P:Program) (dr:Bool) (ops:Array Oper) (o:Oper) (L L':St):Prop
 |skip (hg:cI ops L o false) (h:L'=L.put o.dst (.aQ []))
 |val {r fr H1} (hg:cI ops L o true) (hle:L.heap.le H1) (cJ:∀b blk,(b,blk)∈fr->L.heap b=none/\∃m,H1 b=some ⟨blk.sz,blk.vals,m⟩/\(blk.mt=false->m=false))
   (ho:jd P H1 L.ev (o.dst.getD 0) o.op r fr) (h:L'=⟨(L.put o.dst r).slot,H1⟩)
 |st (hg:cI ops L o true) (ho:ey P L o.dst o.op L')
 |stM (ec:dr=false) (hg:cI ops L o true) (ho:OpM P L o.dst o.op L')
def opsL(P:Program)(dr:Bool)(ops:Array Oper):List Oper->St->(St->Prop)->Prop
 | [],L,K=>K L
 |o::r,L,K=>∃L',Step P dr ops o L L'/\opsL P dr ops r L' K
section
variable {P:Program} {W w w':World} {X:XS} {Z0 Z:Nat->Prop} {μ:Nat->Option Nat} {H:bn} {a:Act} {L L':St} {n:Nat} {dr:Bool} {ops:Array Oper}
theorem uz{o:Oper}{res:Bool}{L:St}(hr:∀t,aC Z μ w (L.slot t) (a.tmps.getD t undef))(hg:cI ops L o res):Region.wanted o (yielded ops a.tmps)=res:=by
 unfold cI at hg;unfold Region.wanted;split at hg
 ·rename_i h;rw[h];exact hg.symm
 rename_i j want h;rw[h];obtain⟨d,h1,⟨b,h2,rfl⟩|⟨h2,rfl⟩⟩:=hg
 case inr =>
  have h3:=hr d;rw[h2]at h3;obtain⟨vs,h4,h5⟩:=h3;have h5:vs=#[]:=by cases vs with|mk l=>exact congrArg Array.mk h5
  subst h5;have h6:((ops[j]?).bind (·.dst)).bind (fun t=>a.tmps[t]?)=a.tmps[d]?:=by rw[h1];rfl
  rw[cU]at h4;simp only[yielded,h6]
  cases hq:a.tmps[d]? with
  |none=>rfl
  |some u=>rw[hq]at h4;simp only[vS]at h4;subst h4;rfl
 have h3:=hr d;rw[h2]at h3;have h4:=h3.cV;have h5:a.tmps[d]?=some (.bool b):=by
  rw[cU]at h4
  cases hq:a.tmps[d]? with
  |none=>rw[hq]at h4;simp[undef]at h4
  |some u=>rw[hq]at h4;simpa using h4
 have h6:((ops[j]?).bind (·.dst)).bind (fun t=>a.tmps[t]?)=some (.bool b):=by rw[h1];simpa using h5
 simp only[yielded,h6]
 cases b<;>cases want<;>rfl
theorem amM{P:Program}{ops:Array Oper}{dr:Bool}{K K':St->Prop}(hk:∀L,K L->K' L):∀(l:List Oper) (L:St),opsL P dr ops l L K->opsL P dr ops l L K'
 | [],L,h=>hk L h
 |o::r,L,⟨L',h1,h2⟩=>⟨L',h1,amM hk r L' h2⟩
theorem azF{T E ty:TypeId}{x:Operand}{b sz off n:Nat}{blk:aL}{z:LV}(hc:Core W X Z0 μ Z L.heap w)(hr:∀t,aC Z μ w (L.slot t) (a.tmps.getD t undef))
  (hx:L.ev x=.ref b sz off n) (hb:L.heap b=some blk) (hs:blk.sz=sz) (hm:blk.mt=true) (hl:off+n<=blk.vals.length) (hT:P.underlying T=some (.slice E)) (hz:ck P E z) (cu:z.aj=sz) :
  ∃w',(Builtin.clear_ #[T] ty #[a.eval x]).run P w=.ok (.tuple #[]) w' /\
   Core W X Z0 μ Z (L.a5 b (some ⟨sz,blk.vals.take off++aJ n z++blk.vals.drop (off+n),true⟩)).heap w'/\Frame Z μ w w':=by
 have e1:=fS (L:=L) hr x;rw[hx]at e1;have e2:=e1.2 rfl;simp only[ao]at e2;have x8:n=0->(L.a5 b (some ⟨sz,blk.vals.take off++aJ n z++blk.vals.drop (off+n),true⟩)).heap=L.heap:=by
  rintro rfl;funext c;show (if c=b then _ else L.heap c)=_;split
  ·rename_i e;subst e;rw[hb];obtain⟨s,v,m⟩:=blk;simp only at hs hm ⊢;subst hs;subst hm;simp
  rfl
 rcases e2 with⟨q1,rfl⟩|⟨id,cap,c,U',fz,q1,q2,q3,q4,q5⟩
 ·simp only[dq,and_true]at q1;rw[x8 rfl];exact⟨w,by rw[q1];simp[Builtin.clear_,run_underlying hT],hc,Frame.refl _ _ _⟩
 simp only[dq,and_true]at q1
 cases n with
 |zero =>
  rw[x8 rfl];exact⟨w,by rw[q1];simp[Builtin.clear_,run_underlying hT],hc,Frame.refl _ _ _⟩
 |succ n =>
  obtain⟨bk,g1,c',T',part,rest,g2,g3,g4⟩:=hc.heap b id q2;rw[hb]at g1;cases g1;rw[q4]at g2;cases g2;rw[hs]at g4;obtain⟨i,zv,z1,z2,z3,z4⟩:=hz;have ud:(zeroValue E).run P w=.ok zv w:=by simp[zeroValue,typeInfo,z1,z2]
  have aG:=LV.eg z3;have jw:=ao.len (z4 Z μ w) aG;rw[cu]at jw;have lD:=aw.replicate (z4 Z μ w) jw (n+1);have kE:=aw.length _ _ lD;rw[List.length_replicate]at kE;have agf:blk.vals=blk.vals.take off++((blk.vals.drop off).take (n+1)++blk.vals.drop (off+(n+1))):=by
   rw[<-oL,mP,mP]
  rw[agf]at g4;obtain⟨p1,p2,d1,d2,d3⟩:=aw.split _ _ part g4;obtain⟨p3,p4,d4,d5,d6⟩:=aw.split _ _ p2 d3;have l1:=aw.length _ _ d2;have l2:=aw.length _ _ d5;rw[eE,jE aa]at l1;rw[eE,oe,jE aa]at l2;have hlen:c.toList.length=p1.length+(p3.length+p4.length)+rest.length:=by rw[g3,d1,d4];simp;omega
  have lK:off*sz+((aJ (n+1) zv.cells.toList).flatten).length<=c.size:=by
   rw[<-jI,hlen,kE,l1,l2];omega
  have dz:=aw.append _ _ _ _ (aw.append _ _ _ _ d2 lD) d6;have wc:∀v∈(aJ (n+1) zv.cells.toList).flatten,v.oneCell'=true:=fun v hv=>by
   simp only[List.mem_flatten]at hv;obtain⟨l,jL,qO⟩:=hv;rw[List.eq_of_mem_replicate jL]at qO;exact ao.one _ _ (z4 Z μ w) v qO
  have hcell:∀j,j<((aJ (n+1) zv.cells.toList).flatten).length->(w.cell? ⟨id,off*sz+j,none⟩).isSome=true:=fun j hj=>by
   rw[cell_of_row w id _ c _ _ q4,nF aa];rfl
  have aaE:∀j,j<((aJ (n+1) zv.cells.toList).flatten).length->w.frozen? ⟨id,off*sz+j,none⟩=false:=fun j hj=>by simp[World.frozen?,q4]
  have dL:=run_storeCells_cells (P:=P) id (off*sz) ((aJ (n+1) zv.cells.toList).flatten) 0 w (by simpa using hcell) (by simpa using aaE) wc;simp only[jK]at dL;rw[aer q4 lK wc]at dL;have gJ:c.toList.take (off*sz)++(aJ (n+1) zv.cells.toList).flatten++c.toList.drop (off*sz+((aJ (n+1) zv.cells.toList).flatten).length)=(p1++(aJ (n+1) zv.cells.toList).flatten++p4)++rest:=by
   rw[g3,d1,d4,kE,<-l1,<-l2];have e:(p1++(p3++p4))++rest=p1++(p3++(p4++rest)):=az;rw[e,acM,<-oL,vO,vO];simp
  rw[gJ]at dL;obtain⟨k1,k2⟩:=Core.rewrite (blk':=⟨sz,blk.vals.take off++aJ (n+1) z++blk.vals.drop (off+(n+1)),true⟩)
   (c':=((p1++(aJ (n+1) zv.cells.toList).flatten++p4)++rest).toArray) (part:=p1++(aJ (n+1) zv.cells.toList).flatten++p4) (rest:=rest) hc q2 hb hm rfl q4
   (by rw[<-jI (xs:=c),hlen];simp only[qS,kH,kE,l2];omega) az dz rfl
  refine⟨_,?_,k1,k2⟩;rw[q1];simp only[Builtin.clear_,acG,pE,Sem.run_bind,Sem.run_pure,run_underlying hT,Result.andThen_ok,ud,agY,dL]
theorem aw0{T U E E' ty:TypeId}{x y:Operand}{b sz off:Nat}{blk:aL}{news:List LV}{ag:Bool}(hc:Core W X Z0 μ Z L.heap w)(hr:∀t,aC Z μ w (L.slot t) (a.tmps.getD t undef))
  (hx:L.ev x=.ref b sz off news.length) (hb:L.heap b=some blk) (hs:blk.sz=sz) (hm:blk.mt=true) (hl:off+news.length<=blk.vals.length) (hT:P.underlying T=some (.slice E)) (hU:P.underlying U=some (.slice E')) (hE:aX P E sz ag)
  (hy:(∃c jv cL,L.ev y=.ref c sz jv news.length/\L.heap c=some cL/\cL.sz=sz/\jv+news.length<=cL.vals.length/\news=(cL.vals.drop jv).take news.length)\/L.ev y=.list sz news) :
  ∃v w',(Builtin.copy_ #[T,U] ty #[a.eval x,a.eval y]).run P w=.ok v w' /\
   Core W X Z0 μ Z (L.a5 b (some ⟨sz,blk.vals.take off++news++blk.vals.drop (off+news.length),true⟩)).heap w'/\Frame Z μ w w':=by
 obtain⟨cX,lT,lD⟩:=aeX (P:=P) hc hr hU (y:=y) (news:=news) (sz:=sz) (by
  rcases hy with h|h
  ·exact lp
  exact .inr (.inl h))
 have e1:=fS (L:=L) hr x;rw[hx]at e1;have e2:=e1.2 rfl;simp only[ao]at e2;have awD:aci news.length news.length=news.length:=amj _;have kE:=aw.length _ _ lD;have x8:news=[]->(L.a5 b (some ⟨sz,blk.vals.take off++news++blk.vals.drop (off+news.length),true⟩)).heap=L.heap:=by
  rintro rfl;funext c;show (if c=b then _ else L.heap c)=_;split
  ·rename_i e;subst e;rw[hb];obtain⟨s,v,m⟩:=blk;simp only at hs hm ⊢;subst hs;subst hm;simp
  rfl
 rcases e2 with⟨q1,q0⟩|⟨id,cap,c,U',fz,q1,q2,q3,q4,q5⟩
 ·simp only[dq,and_true]at q1;have uX:=kJ q0;rw[x8 uX];refine⟨goInt ((0:Nat):Int),w,?_,hc,Frame.refl _ _ _⟩;rw[q1];simp only[Builtin.copy_,acG,pE,adb,Sem.run_bind,Sem.run_pure,run_underlying hT,Result.andThen_ok,lT.len,run_sizeOf hE,q0,amj,show aci 0 0=0 from rfl];have fL:=lT.cells;rw[q0]at fL;simp only[fL,Result.andThen_ok,Sem.run_pure]
 simp only[dq,and_true]at q1;obtain⟨bk,g1,c',T',part,rest,g2,g3,g4⟩:=hc.heap b id q2;rw[hb]at g1;cases g1;rw[q4]at g2;cases g2;rw[hs]at g4;have agf:blk.vals=blk.vals.take off++((blk.vals.drop off).take news.length++blk.vals.drop (off+news.length)):=by
  rw[<-oL,mP,mP]
 rw[agf]at g4;obtain⟨p1,p2,d1,d2,d3⟩:=aw.split _ _ part g4;obtain⟨p3,p4,d4,d5,d6⟩:=aw.split _ _ p2 d3;have l1:=aw.length _ _ d2;have l2:=aw.length _ _ d5;rw[eE,jE aa]at l1;rw[eE,oe,jE aa]at l2;have hlen:c.toList.length=p1.length+(p3.length+p4.length)+rest.length:=by rw[g3,d1,d4];simp;omega
 have lK:off*sz+cX.length<=c.size:=by
  rw[<-jI,hlen,kE,l1,l2];omega
 have dz:=aw.append _ _ _ _ (aw.append _ _ _ _ d2 lD) d6;have wc:∀v∈cX,v.oneCell'=true:=lT.one;have hcell:∀j,j<cX.length->(w.cell? ⟨id,off*sz+j,none⟩).isSome=true:=fun j hj=>by
  rw[cell_of_row w id _ c _ _ q4,nF aa];rfl
 have aaE:∀j,j<cX.length->w.frozen? ⟨id,off*sz+j,none⟩=false:=fun j hj=>by simp[World.frozen?,q4]
 have dL:=run_storeCells_cells (P:=P) id (off*sz) cX 0 w (by simpa using hcell) (by simpa using aaE) wc;simp only[jK]at dL;rw[aer q4 lK wc]at dL;have gJ:c.toList.take (off*sz)++cX++c.toList.drop (off*sz+cX.length)=(p1++cX++p4)++rest:=by
  rw[g3,d1,d4,kE,<-l1,<-l2];have e:(p1++(p3++p4))++rest=p1++(p3++(p4++rest)):=az;rw[e,acM,<-oL,vO,vO];simp
 rw[gJ]at dL;obtain⟨k1,k2⟩:=Core.rewrite (blk':=⟨sz,blk.vals.take off++news++blk.vals.drop (off+news.length),true⟩)
  (c':=((p1++cX++p4)++rest).toArray) (part:=p1++cX++p4) (rest:=rest) hc q2 hb hm rfl q4
  (by rw[<-jI (xs:=c),hlen];simp only[qS,kH,kE,l2];omega) az dz rfl
 refine⟨goInt news.length,_,?_,k1,k2⟩;rw[q1];have fL:=lT.cells;simp only[Builtin.copy_,acG,pE,adb,Sem.run_bind,Sem.run_pure,run_underlying hT,Result.andThen_ok,lT.len,run_sizeOf hE,awD,fL,dL]
theorem aBc{T U E E' ty:TypeId}{x y:Operand}{b c sz off jv n1 n2:Nat}{blk cL:aL}{news:List LV}{ag:Bool}(hc:Core W X Z0 μ Z L.heap w)(hr:∀t,aC Z μ w (L.slot t) (a.tmps.getD t undef))
  (hx:L.ev x=.ref b sz off n1) (hb:L.heap b=some blk) (hs:blk.sz=sz) (hm:blk.mt=true) (hl:off<=blk.vals.length) (hT:P.underlying T=some (.slice E)) (hU:P.underlying U=some (.slice E')) (hE:aX P E sz ag)
  (hy:L.ev y=.ref c sz jv n2) (il:L.heap c=some cL) (jq:cL.sz=sz) (hn:news.length=aci n2 n1) (h0:0<news.length) (qO:jv+news.length<=cL.vals.length) (azz:news=(cL.vals.drop jv).take news.length) :
  ∃v w',(Builtin.copy_ #[T,U] ty #[a.eval x,a.eval y]).run P w=.ok v w' /\
   Core W X Z0 μ Z (L.a5 b (some ⟨sz,blk.vals.take off++news++blk.vals.drop (off+news.length),true⟩)).heap w'/\Frame Z μ w w':=by
 have pF:news.length<=n1:=by rw[hn];exact Nat.min_le_right _ _
 have fh:news.length<=n2:=by rw[hn];exact Nat.min_le_left _ _
 have e1:=fS (L:=L) hr x;rw[hx]at e1;have e2:=e1.2 rfl;simp only[ao]at e2;have f1:=fS (L:=L) hr y;rw[hy]at f1;have f2:=f1.2 rfl;simp only[ao]at f2;rcases e2 with⟨q1,q0⟩|⟨id,cap,cc,U',fz,q1,q2,q3,q4,q5⟩
 ·omega
 rcases f2 with⟨p1,p0⟩|⟨y0,abb,cc2,U2,fz2,p1,p2,p3,p4,p5⟩
 ·omega
 simp only[dq,and_true]at q1 p1;have one:∀(l:List LV) (cs:List Value),aw Z μ w sz l cs->∀u∈cs,u.oneCell'=true:=by
  intro l
  induction l with
  |nil=>intro cs h;simp only[aw]at h;simp[h]
  |cons x xs ih =>
   intro cs h u hu;simp only[aw]at h;obtain⟨c1,c2,rfl,h2,h3,h4⟩:=h;rcases p7.1 hu with hu|hu
   ·exact ao.one _ _ h3 u hu
   exact ih c2 h4 u hu
 obtain⟨bk,g1,c',T',part,rest,g2,g3,g4⟩:=hc.heap c y0 p2;rw[il]at g1;cases g1;rw[p4]at g2;cases g2;obtain⟨c1,c2,d1,d2,d3⟩:=aw.split (cL.vals.take jv) (cL.vals.drop jv) part yz;obtain⟨cX,c4,d4,d5,d6⟩:=aw.split ((cL.vals.drop jv).take news.length) ((cL.vals.drop jv).drop news.length) c2 (by rw[mP];exact d3);rw[<-azz,jq]at d5;have jL:=aw.length _ _ d2;rw[eE,jE aa,jq]at jL;have kE:=aw.length _ _ d5;have uw:=zJ (w:=w) (off:=jv*sz) (part:=cX) (rest:=c4++rest) p4 (by rw[g3,d1,d4,<-jL];simp);have lT:Src P sz U (.slice (some ⟨y0,jv*sz,none⟩) news.length abb) news.length cX w:=Src.ofSlice w hU _ _ _ cX kE (fun j u hj=>by rw[Addr.add_mid];exact uw j u hj) (one _ _ d5);have fL:(Builtin.firstCells sz news.length (.slice (some ⟨y0,jv*sz,none⟩) n2 abb)).run P w=.ok cX.toArray w:=lT.cells;have wc:∀v∈cX,v.oneCell'=true:=lT.one;obtain⟨bk,g1,ct,T',part,rest,g2,g3,g4⟩:=hc.heap b id q2;rw[hb]at g1;cases g1;rw[q4]at g2;cases g2;rw[hs]at g4;obtain⟨p1',rr,r1,r2,r3⟩:=aw.split (blk.vals.take off) (blk.vals.drop off) part yz;have l1:=aw.length _ _ r2;rw[eE,jE hl]at l1;have l2:=aw.length _ _ r3;rw[oe]at l2;have lK:off*sz+cX.length<=cc.size:=by
  rw[kE,<-ep];exact bW (dT _ aa) q5
 have azO:aw Z μ w sz (blk.vals.drop (off+news.length)) (rr.drop cX.length):=by
  rcases fH (off+news.length) blk.vals.length with h|h
  ·obtain⟨p3,p4,t1,t2,t3⟩:=aw.split ((blk.vals.drop off).take news.length) ((blk.vals.drop off).drop news.length) rr (by rw[mP];exact r3);have l3:=aw.length _ _ t2;rw[eE,oe,jE aa,<-kE]at l3;rw[t1,<-l3,vO,<-oL];exact t3
  rw[iP h,iP (by rw[l2,kE];exact dT _ aa)];simp[aw]
 have dz:=aw.append _ _ _ _ (aw.append _ _ _ _ r2 d5) azO;have hcell:∀j,j<cX.length->(w.cell? ⟨id,off*sz+j,none⟩).isSome=true:=fun j hj=>by
  rw[cell_of_row w id _ cc _ _ q4,nF aa];rfl
 have aaE:∀j,j<cX.length->w.frozen? ⟨id,off*sz+j,none⟩=false:=fun j hj=>by simp[World.frozen?,q4]
 have dL:=run_storeCells_cells (P:=P) id (off*sz) cX 0 w (by simpa using hcell) (by simpa using aaE) wc;simp only[jK]at dL;rw[aer q4 lK wc]at dL;have hlen:cc.size=p1'.length+rr.length+rest.length:=by rw[<-jI,g3,r1];simp;omega
 have gJ:cc.toList.take (off*sz)++cX++cc.toList.drop (off*sz+cX.length)=(p1'++cX++rr.drop cX.length)++rest.drop (cX.length-rr.length):=by
  rw[g3,r1,<-l1];have e:(p1'++rr)++rest=p1'++(rr++rest):=az;rw[e,acM,<-oL,vO,List.drop_append];simp
 rw[gJ]at dL;obtain⟨k1,k2⟩:=Core.rewrite (blk':=⟨sz,blk.vals.take off++news++blk.vals.drop (off+news.length),true⟩)
  (c':=((p1'++cX++rr.drop cX.length)++rest.drop (cX.length-rr.length)).toArray) (part:=p1'++cX++rr.drop cX.length) (rest:=rest.drop (cX.length-rr.length)) hc q2 hb hm rfl q4
  (by
   simp only[qS,kH,oe];omega) az dz rfl
 refine⟨goInt news.length,_,?_,k1,k2⟩;rw[q1,p1];simp only[Builtin.copy_,acG,pE,adb,Sem.run_bind,Sem.run_pure,run_underlying hT,Result.andThen_ok,Builtin.lenOf,run_sizeOf hE,<-hn,fL,dL]
theorem ayn{P:Program}{w:World}(T U E ty:TypeId)(k kl:IntKind)(i:TypeInfo)(z:Value)(ht:P.underlying T=some (.slice E))(hu:P.underlying U=some (.int k))(hi:P.info? E=some i)(hz:i.zero=some z)(n:Nat)
  (base:Option Addr) (sLen sCap:Nat) (olds:List Value) (hold:(Builtin.firstCells i.size sLen (.slice base sLen sCap)).run P w.drew=.ok olds.toArray w.drew) (hg:sCap<sLen+n)
  (h0:0<n) (cG:0<i.size) (ee:sLen+n<=4611686018427387904) (gS:(sLen+n)*i.bytes<=140737488355328) (lK:Builtin.nextslicecap (sLen+n) sCap*i.bytes<=281474976710656) :
  (Builtin.append_ #[T,U] ty #[.slice base sLen sCap,.int kl (n:Int)]).run P w =
   .ok (.slice (some ⟨w.heap.size,0,none⟩) (sLen+n) (grownCap w (sLen+n) sCap E))
    (w.drew.alloc (.cells (olds.toArray++Builtin.zeroCells z.cells n++Builtin.zeroCells z.cells (grownCap w (sLen+n) sCap E-(sLen+n))) E)):=by
 have hn:¬(sLen+n<=sCap):=aa;have fw:¬n=0:=aa;have hw:IntKind.i64.wrap (n:Int)=(n:Int):=by simp[IntKind.wrap,show IntKind.i64.bits=64 from rfl];omega
 have h1:¬((n:Int)<0):=aa;have h2:¬(281474976710656<(n:Int)*(i.bytes:Int)):=by
  have h4:n*i.bytes<=(sLen+n)*i.bytes:=dT _ aa;have h5:((n*i.bytes:Nat):Int)<=140737488355328:=aa;rw[amq]at h5;omega
 have afQ:¬(9223372036854775807<((sLen:Int)+(n:Int))):=aa;have agB:¬(281474976710656<Builtin.nextslicecap (sLen+n) sCap*i.bytes):=aa;have a6:¬(i.size=0):=aa;have hns:¬(n*i.size=0):=Nat.mul_ne_zero fw a6;simp[Builtin.append_,run_underlying ht,run_underlying hu,sizeOf,typeInfo,zeroValue,hi,hz,hn,fw,hw,h1,h2,afQ,agB,asInt,asIntOf,Question.forced,hold,a6,newRow,grownCap];intro h;rcases aeY.1 h with h|h<;>omega
theorem ar6{T U E ty:TypeId}{d b sz n len cp:Nat}{x y:Operand}{z:LV}{cn:Nat}{k kl:IntKind}{blk:aL}(hc:Core W X Z0 μ Z L.heap w)(hr:∀t,aC Z μ w (L.slot t) (a.tmps.getD t undef))
  (hT:P.underlying T=some (.slice E)) (hU:P.underlying U=some (.int k)) (hz:ck P E z) (hE:aX P E sz z.isAgg) (cu:z.aj=sz) (hb:g6 P E cn)
  (hx:L.ev x=.gm b sz 0 len cp) (gR:L.heap b=some blk) (hs:blk.sz=sz) (hlen:len<=blk.vals.length) (hy:L.ev y=.v (.int kl (n:Nat))) (eI:L.heap d=none) (hg:cp<len+n) (cG:0<sz)
  (hm:(len+n)*cn<=140737488355328) (ee:len+n<=4611686018427387904) :
  ∃v w' aF Z',(Builtin.append_ #[T,U] ty #[a.eval x,a.eval y]).run P w=.ok v w'/\Core W X Z0 aF Z' (L.a5 d (some ⟨sz,blk.vals.take len++aJ n z,true⟩)).heap w' /\
   (∀t,aC Z' aF w' (L.slot t) (a.tmps.getD t undef))/\aC Z' aF w' (.ref d sz 0 (len+n)) v:=by
 obtain⟨i,zv,z1,z2,z3,z4⟩:=hz;have e1:=fS (L:=L) hr x;rw[hx]at e1;have e3:=e1.2 rfl;simp only[ao]at e3;obtain⟨id,cc,Ti,fz,q1,q2,q3,q4,q5⟩:=e3;simp only[dq,and_true]at q1;have e2:=fS (L:=L) hr y;rw[hy]at e2;have e2:=e2.cV;have aG:=LV.eg z3;have oF:i.size=sz:=by have:=hE.1;rw[z1]at this;simpa using this
 have wY:i.bytes=cn:=by obtain⟨i',g1,g2⟩:=hb;rw[z1]at g1;cases g1;exact g2
 have jw:=ao.len (z4 Z μ w) aG;have xi:zv.cells.size=sz:=by rw[<-jI,jw,cu]
 have sg:=nextslicecap_le hg;have lK:Builtin.nextslicecap (len+n) cp*i.bytes<=281474976710656:=by
  rw[wY]
  calc Builtin.nextslicecap (len+n) cp*cn<=(2*(len+n))*cn:=dT _ sg
   _=2*((len+n)*cn):=by rw[dZ]
   _<=281474976710656:=by omega
 obtain⟨bk,g1,c',T',part,rest,g2,g3,g4⟩:=hc.heap b id q2;rw[gR]at g1;cases g1;rw[q4]at g2;cases g2;rw[hs]at g4;obtain⟨oldc,c2,d1,d2,d3⟩:=aw.split (blk.vals.take len) (blk.vals.drop len) part yz;have jL:=aw.length _ _ d2;rw[eE,jE hlen]at jL;have uw:=zJ (w:=w) (off:=0*sz) (part:=oldc) (rest:=c2++rest) q4 (by rw[g3,d1];simp);have hold:(Builtin.firstCells i.size len (.slice (some ⟨id,0*sz,none⟩) len cp)).run P w.drew=.ok oldc.toArray w.drew:=by
  rw[oF];exact run_firstCells_some w.drew sz len _ len cp oldc jL (fun j u hj=>by rw[Addr.add_mid];simpa using uw j u hj)
 have de:=ayn (P:=P) (w:=w) T U E ty k kl i zv hT hU z1 z2 n (some ⟨id,0*sz,none⟩) len cp oldc hold hg aa aa ee (by rw[wY];exact hm) lK;have yc:=rP hc eI;obtain⟨Z1,k1,k2⟩:=hc.tq (abj (blk:=⟨sz,blk.vals.take len++aJ n z,true⟩) eI);have dz:=aw.append _ _ _ _ (d2.mono k2 (fun _ _ h=>h) ⟨fun _ _=>rfl,(Frame.refl Z μ w).m⟩) (aw.replicate (sz:=sz) (z4 Z1 μ w) (by rw[jw,cu]) n);obtain⟨Z2,h1,h2,h3,h4,h5,h6⟩:=k1.push (d:=d) (blk:=⟨sz,blk.vals.take len++aJ n z,true⟩) (part:=oldc++(aJ n zv.cells.toList).flatten) (rest:=(Builtin.zeroCells zv.cells (grownCap w (len+n) cp E-(len+n))).toList) az yc
  (⟨rfl,rfl,rfl,rfl⟩:nS w (w.drew.alloc (.cells (oldc.toArray++Builtin.zeroCells zv.cells n++Builtin.zeroCells zv.cells (grownCap w (len+n) cp E-(len+n))) E)) _) (by rw[afN,afN,agY]) dz
 have cJ:Frame Z μ w (w.drew.alloc (.cells (oldc.toArray++Builtin.zeroCells zv.cells n++Builtin.zeroCells zv.cells (grownCap w (len+n) cp E-(len+n))) E)):=⟨fun id h=>h4.z id (k2 id h),h4.m⟩;refine⟨_,_,_,Z2,by rw[q1,e2];exact de,h1,fun t=>(hr t).mono (fun id h=>h2 id (k2 id h)) h3 cJ,⟨by simp[LV.isAgg],fun _=>?_⟩⟩;simp only[ao];have jS:=grownCap_ge w (len+n) cp E;refine .inr ⟨w.heap.size,_,_,E,(0,0),by simp,h5,jS,h6,?_⟩;rw[ac2,ac2,size_zeroCells,size_zeroCells,xi,qS,jL,fW,<-ep,<-ep];exact dT _ aa
theorem awh{f:FuncId}{x y:Operand}{Tx Ty:TypeId}{fn:Func}{b c sz o1 n1 o2 n2:Nat}{ag:Bool}{tS tR e:TypeId}{dst:Option Tmp}{ty:TypeId}{pos:String}{af:Array Edge}{g:Option (Nat×Bool)}(hc:Core W X Z0 μ Z L.heap w)(hr:∀t,aC Z μ w (L.slot t) (a.tmps.getD t undef))
  (hf:P.funcs[f]?=some fn) (mC:(fn.name== "runtime.NumGoroutine")=false) (hb:fn.body.isNone=true) (hn:Extern.findNext fn=none) (he:Extern.find fn=some (Extern.SlicesOverlaps.overlaps #[tS,tS] #[tR]))
  (ht:P.underlying tS=some (.slice e)) (hE:aX P e sz ag) (hx:L.ev x=.ref b sz o1 n1) (hy:L.ev y=.ref c sz o2 n2) (ve:b≠c) (h1:0<n1) (h2:0<n2) (cG:0<sz) :
  (execOp a.eval ⟨dst,.call ⟨.value (.func f),#[x,y],#[Tx,Ty]⟩,ty,pos,af,g⟩).run P w=.ok (.value (.bool false)) w:=by
 have e1:=fS (L:=L) hr x;rw[hx]at e1;have e2:=e1.2 rfl;simp only[ao]at e2;have f1:=fS (L:=L) hr y;rw[hy]at f1;have f2:=f1.2 rfl;simp only[ao]at f2;rcases e2 with⟨q1,q0⟩|⟨id,cap,cc,U',fz,q1,q2,q3,q4,q5⟩
 ·omega
 rcases f2 with⟨p1,p0⟩|⟨y0,abb,cc2,U2,fz2,p1,p2,p3,p4,p5⟩
 ·omega
 simp only[dq,and_true]at q1 p1;have axg:id≠y0:=fun h=>ve (hc.inj _ _ _ q2 (h▸p2));obtain⟨bk,g1,c',T',part,rest,g2,g3,g4⟩:=hc.heap b id q2;rw[q4]at g2;cases g2;have hv:(Extern.SlicesOverlaps.overlaps #[tS,tS] #[tR] #[a.eval x,a.eval y]).run P w=.ok (.bool false) w:=by
  rw[q1,p1];refine Lib.run_overlaps_apart w tS tR e ht sz (fun w'=>run_sizeOf hE) ⟨id,o1*sz,none⟩ ⟨y0,o2*sz,none⟩ n1 cap n2 abb axg U' U2 cc.size cc2.size (by simp only[World.shape?,q4]) (by simp only[World.shape?,p4]) ?_ (by simp[World.frozen?,q4]) (by simp[World.frozen?,q4]);have:0<(o2+abb)*sz:=Nat.mul_pos aa cG;omega
 have wg:=run_callFunc_extern (P:=P) (args:=#[a.eval x,a.eval y]) hf mC hb hn he w;rw[hv]at wg;simp only[execOp,resolve,Act.eval,Deferred.ofValue,Sem.run_bind,Sem.run_pure,Result.andThen_ok,invoke];simpa using wg
theorem yD{o:Oper}(hs:dM n W X Z0 L a w)(dL:Step P dr ops o L L')(hd:∀t,o.dst=some t->t<n){K:Act->World->Prop}{Q:Exit->Act->World->Prop}
  (hK:∀a' w',dM n W X Z0 L' a' w'->K a' w'):if Region.wanted o (yielded ops a.tmps)then o.wp P a w K Q else K (a.put o.dst undef) w:=by
 obtain⟨cZ,a6,μ,Z,hc,hr⟩:=hs;have eJ:∀t,o.dst=some t->t<a.tmps.size:=fun t h=>by rw[a6];exact hd t h
 cases dL with
 |skip hg h =>
  rw[uz hr hg];simp only[zU,if_false];subst h;exact hK _ _ ⟨by rw[put_defers];exact cZ,by rw[lG];exact a6,μ,Z,by rw[gD];exact hc,lI eJ hr ⟨#[],rfl,rfl⟩⟩
 | @val r fr H1 hg hle cJ ho h =>
  rw[uz hr hg];simp only[if_true];obtain⟨Z1,k1,k2⟩:=hc.tq hle;have tI:∀t,aC Z1 μ w (L.slot t) (a.tmps.getD t undef):=fun t=>(hr t).mono k2 (fun _ _ h=>h) ⟨fun _ _=>rfl,(Frame.refl Z μ w).m⟩;obtain⟨dst,op,ty,pos,after,g⟩:=o;refine jd.sound k1 ho (fun x _=>fS (L:=L) tI x) (fun b blk hb=>?_) dst ty pos after g ?_
  ·obtain⟨h1,m,h2,h3⟩:=cJ b blk hb;exact⟨m,h2,h3,rP hc h1⟩
  intro v w' aF Z' lX;subst h;refine hK _ _ ⟨by rw[put_defers];exact cZ,by rw[lG];exact a6,aF,Z',lX.core,?_⟩;exact lI (L:=L) eJ (fun t=>(tI t).mono lX.hz lX.hm lX.hf) lX.rep
 |st hg ho =>
  rw[uz hr hg];simp only[if_true];obtain⟨dst,op,ty,pos,after,g⟩:=o;simp only at ho eJ
  cases ho with
  |store hp hb l8 hm hi hy ki hT aG =>
   obtain⟨w',h1,h2,h3⟩:=axA (P:=P) hc hr hp hb l8 hm hi hy ki hT aG dst ty pos after g;unfold Oper.wp;rw[h1,Oper.upon_skip];refine hK _ _ ⟨by rw[put_defers];exact cZ,by rw[lG];exact a6,μ,Z,by rw[gD];exact h2,?_⟩;exact lI eJ (fun t=>(hr t).mono (fun _ h=>h) (fun _ _ h=>h) h3) trivial
  | @iJ T U E E' d b sz len blk x y news z cn hx hb l8 hm hlen eI fp hT hU hz hE cu gS hy af4 ee cG =>
   obtain⟨v,w',aF,Z',r1,r2,r3,r4⟩:=awx (P:=P) (ty:=ty) hc hr hx hb l8 hm hlen eI fp hT hU hz hE cu gS hy af4 ee;have de:(execOp a.eval ⟨dst,.call ⟨.builtin .append,#[x,y],#[T,U]⟩,ty,pos,after,g⟩).run P w=.ok (.value v) w':=by
    simp only[execOp,resolve,Sem.run_bind,Sem.run_pure,Result.andThen_ok,invoke,builtin];simp only[xy,jh,nK,r1,Result.andThen_ok]
   unfold Oper.wp;rw[de,Oper.upon_value];refine hK _ _ ⟨by rw[put_defers];exact cZ,by rw[lG];exact a6,aF,Z',by rw[gD];exact r2,?_⟩;exact lI eJ r3 r4
  | @vE T U E E' d sz x y news z cn hx eI hT hU hz hE cu gS hy hn af4 ee cG =>
   obtain⟨v,w',aF,Z',r1,r2,r3,r4⟩:=avh (P:=P) (ty:=ty) hc hr hx eI hT hU hz hE cu gS hy hn af4 ee;have de:(execOp a.eval ⟨dst,.call ⟨.builtin .append,#[x,y],#[T,U]⟩,ty,pos,after,g⟩).run P w=.ok (.value v) w':=by
    simp only[execOp,resolve,Sem.run_bind,Sem.run_pure,Result.andThen_ok,invoke,builtin];simp only[xy,jh,nK,r1,Result.andThen_ok]
   unfold Oper.wp;rw[de,Oper.upon_value];refine hK _ _ ⟨by rw[put_defers];exact cZ,by rw[lG];exact a6,aF,Z',by rw[gD];exact r2,?_⟩;exact lI eJ r3 r4
  | @clr T E x b sz off n blk z hx hb l8 hm hl hT hz cu =>
   obtain⟨w',r1,r2,r3⟩:=azF (P:=P) (ty:=ty) hc hr hx hb l8 hm hl hT hz cu;have de:(execOp a.eval ⟨dst,.call ⟨.builtin .clear,#[x],#[T]⟩,ty,pos,after,g⟩).run P w=.ok (.value (.tuple #[])) w':=by
    simp only[execOp,resolve,Sem.run_bind,Sem.run_pure,Result.andThen_ok,invoke,builtin];simp only[xy,jh,nK,r1,Result.andThen_ok]
   unfold Oper.wp;rw[de,Oper.upon_value];refine hK _ _ ⟨by rw[put_defers];exact cZ,by rw[lG];exact a6,μ,Z,by rw[gD];exact r2,?_⟩;exact lI eJ (fun t=>(hr t).mono (fun _ h=>h) (fun _ _ h=>h) r3) trivial
  | @cpy T U E E' x y b sz off news blk ag hx hb l8 hm hl hT hU hE hy =>
   obtain⟨v,w',r1,r2,r3⟩:=aw0 (P:=P) (ty:=ty) hc hr hx hb l8 hm hl hT hU hE hy;have de:(execOp a.eval ⟨dst,.call ⟨.builtin .copy,#[x,y],#[T,U]⟩,ty,pos,after,g⟩).run P w=.ok (.value v) w':=by
    simp only[execOp,resolve,Sem.run_bind,Sem.run_pure,Result.andThen_ok,invoke,builtin];simp only[xy,jh,nK,r1,Result.andThen_ok]
   unfold Oper.wp;rw[de,Oper.upon_value];refine hK _ _ ⟨by rw[put_defers];exact cZ,by rw[lG];exact a6,μ,Z,by rw[gD];exact r2,?_⟩;exact lI eJ (fun t=>(hr t).mono (fun _ h=>h) (fun _ _ h=>h) r3) trivial
  | @aua T U E E' x y b sz off n1 blk c jv n2 cL news ag hx hb l8 hm hl hT hU hE hy il jq hn h0 qO lD =>
   obtain⟨v,w',r1,r2,r3⟩:=aBc (P:=P) (ty:=ty) hc hr hx hb l8 hm hl hT hU hE hy il jq hn h0 qO lD;have de:(execOp a.eval ⟨dst,.call ⟨.builtin .copy,#[x,y],#[T,U]⟩,ty,pos,after,g⟩).run P w=.ok (.value v) w':=by
    simp only[execOp,resolve,Sem.run_bind,Sem.run_pure,Result.andThen_ok,invoke,builtin];simp only[xy,jh,nK,r1,Result.andThen_ok]
   unfold Oper.wp;rw[de,Oper.upon_value];refine hK _ _ ⟨by rw[put_defers];exact cZ,by rw[lG];exact a6,μ,Z,by rw[gD];exact r2,?_⟩;exact lI eJ (fun t=>(hr t).mono (fun _ h=>h) (fun _ _ h=>h) r3) trivial
 |stM _ hg ho =>
  rw[uz hr hg];simp only[if_true];obtain⟨dst,op,ty,pos,after,g⟩:=o;simp only at ho eJ
  cases ho with
  |call hb hm hp ha hn hk lQ fy =>
   refine azW hc hr hb hm hp ha hn hk lQ fy fun v w' Z' h1 h2 h3=>?_;refine hK _ _ ⟨by rw[put_defers];exact cZ,by rw[lG];exact a6,μ,Z',by rw[gD];exact h1,?_⟩;exact lI (L:=L.a5 _ _) eJ h2 h3
  | @aey T U E x y z k kl sz cn len cp n d b blk hT hU hz hE cu hb hx gR l8 hlen hy eI hgr cG hm ee =>
   obtain⟨v,w',aF,Z',r1,r2,r3,r4⟩:=ar6 (P:=P) (ty:=ty) hc hr hT hU hz hE cu hb hx gR l8 hlen hy eI hgr cG hm ee;have de:(execOp a.eval ⟨dst,.call ⟨.builtin .append,#[x,y],#[T,U]⟩,ty,pos,after,g⟩).run P w=.ok (.value v) w':=by
    simp only[execOp,resolve,Sem.run_bind,Sem.run_pure,Result.andThen_ok,invoke,builtin];simp only[xy,jh,nK,r1,Result.andThen_ok]
   unfold Oper.wp;rw[de,Oper.upon_value];refine hK _ _ ⟨by rw[put_defers];exact cZ,by rw[lG];exact a6,aF,Z',by rw[gD];exact r2,?_⟩;exact lI (L:=L.a5 _ _) eJ r3 r4
  | @ovl f x y Tx Ty fn b c sz o1 n1 o2 n2 ag tS tR e hf mC hb hn he ht hE hx hy ve h1 h2 cG =>
   have de:=awh (P:=P) (Tx:=Tx) (Ty:=Ty) (dst:=dst) (ty:=ty) (pos:=pos) (af:=after) (g:=g) hc hr hf mC hb hn he ht hE hx hy ve h1 h2 cG;unfold Oper.wp;rw[de,Oper.upon_value];refine hK _ _ ⟨by rw[put_defers];exact cZ,by rw[lG];exact a6,μ,Z,by rw[gD];exact hc,?_⟩;exact lI eJ hr ⟨by simp[LV.isAgg],fun _=>by simp[ao,Value.oneCell']⟩
  | @aef T U E x y z k kl sz cn n d hT hU hz hE cu hb hx hy eI h0 cG hm ee =>
   obtain⟨v,w',aF,Z',r1,r2,r3,r4⟩:=at0 (P:=P) (ty:=ty) hc hr hT hU hz hE cu hb hx hy eI h0 cG hm ee;have de:(execOp a.eval ⟨dst,.call ⟨.builtin .append,#[x,y],#[T,U]⟩,ty,pos,after,g⟩).run P w=.ok (.value v) w':=by
    simp only[execOp,resolve,Sem.run_bind,Sem.run_pure,Result.andThen_ok,invoke,builtin];simp only[xy,jh,nK,r1,Result.andThen_ok]
   unfold Oper.wp;rw[de,Oper.upon_value];refine hK _ _ ⟨by rw[put_defers];exact cZ,by rw[lG];exact a6,aF,Z',by rw[gD];exact r2,?_⟩;exact lI (L:=L.a5 _ _) eJ r3 r4
theorem amT{Q:Exit->Act->World->Prop}{K:St->Prop}:∀(l:List Oper) (L:St) (a:Act) (w:World),dM n W X Z0 L a w->opsL P dr ops l L K->(∀o∈l,∀t,o.dst=some t->t<n) ->
  (∀L' a' w',K L'->dM n W X Z0 L' a' w'->Q .normal a' w')->wpList P ops Q l a w
 | [],L,a,w,hs,hk,_,hq=>hq L a w hk hs
 |o::r,L,a,w,hs,⟨L',h1,h2⟩,hd,hq=>by
   have:=yD (Q:=Q) (K:=wpList P ops Q r) hs h1 (hd o az) (fun a' w' ji=>amT r L' a' w' ji h2 (fun o' qR=>hd o' (by simp[qR])) hq);unfold wpList;split
   ·rename_i h;rw[if_pos h]at this;exact .inl this
   rename_i h;rw[if_neg h]at this;exact this
end
def av(L L':St):Prop:=∀n W X Z0 a w,dM n W X Z0 L a w->dM n W X Z0 L' a w
theorem av.refl(L:St):av L L:=fun _ _ _ _ _ _ h=>h
theorem av.trans{L L' L'':St}(h:av L L')(h':av L' L''):av L L'':=fun n W X Z0 a w k=>h' n W X Z0 a w (h n W X Z0 a w k)
theorem av.kill(L:St)(b:Nat)(h0:b≠0:=by decide):av L (L.kill b):=fun _ _ _ _ _ _ ⟨h1,h2,_,Z,hc,hr⟩=>⟨h1,h2,_,Z,hc.kill b h0,acu b hr⟩
def ik(o:Oper):List Nat:=o.after.toList.filterMap fun e=>if Region.binds .any e then some e.on else none
inductive lh (ops:Array Oper):Nat->Nat->Prop
 |one {j i o} (ho:ops[i]?=some o) (h:j∈ik o):lh ops j i
 |step {j k i o} (h:lh ops j k) (ho:ops[i]?=some o) (hk:k∈ik o):lh ops j i
def mask(acc:List Nat)(o:Oper):Nat:=(ik o).foldl (fun s j=>s ||| (2^j ||| acc.getD j 0)) 0
def zV:List Oper->List Nat->List Nat
 | [],acc=>acc
 |o::r,acc=>zV r (acc++[mask acc o])
def sN:Op->Bool
 | .store ..=>true
 | .call ⟨.builtin .append,_,_⟩=>true
 | .call ⟨.builtin .clear,_,_⟩=>true
 | .call ⟨.builtin .copy,_,_⟩=>true
 |_=>false
def ac1(ops:Array Oper)(b:List Nat)(i j:Nat):Bool :=
 match (ops.getD j default).dst with
 |none=>true
 |some d=>(ops.getD i default).dst != some d &&
   (!((ops.getD i default).looksAt ops).contains d||(if j<i then(b.getD i 0).testBit j else(b.getD j 0).testBit i))
def am6(ops:Array Oper)(m j:Nat):Bool :=
 (ops.getD j default).guard.isNone&&(match (ops.getD j default).op with | .move _=>true | .binOp ..=>(ops.getD m default).dst.isNone | .extract ..=>(ops.getD m default).dst.isNone|_=>false) &&
 (match (ops.getD j default).dst with|some d=>!((ops.getD m default).looksAt ops).contains d&&(ops.getD m default).dst != some d|none=>true) &&
 (match (ops.getD m default).dst with|some d=>!((ops.getD j default).looksAt ops).contains d|none=>true)
def apF(o:Oper):Bool:=o.guard.isNone&&(match o.op with | .store ..=>o.dst.isNone | .call ⟨.builtin .append,_,_⟩=>o.dst.isSome|_=>false)
def yf(ops:Array Oper)(m:Nat)(fr:List Nat):Bool :=
 decide (m<=ops.size) &&
 (eH ops.size).all (fun i=>(ik (ops.getD i default)).all (·<i) &&
  (if m<=i then(eH i).all (fun j=>((zV ops.toList []).getD i 0).testBit j||(i==m&&fr.contains j))else !sN (ops.getD i default).op)) &&
 ((eH m).all fun i=>(eH m).all fun j=>i==j||ac1 ops (zV ops.toList []) i j) &&
 (fr.isEmpty||(decide (m<ops.size)&&apF (ops.getD m default)&&fr.all fun j=>decide (j<m)&&am6 ops m j))
theorem alw(acc:List Nat)(t:Nat):∀(l:List Nat) (s:Nat),(l.foldl (fun s j=>s ||| (2^j ||| acc.getD j 0)) s).testBit t=true ->
  s.testBit t=true\/∃j∈l,t=j\/(acc.getD j 0).testBit t=true
 | [],s,h=>.inl h
 |j::l,s,h=>by
   rcases alw acc t l _ h with h|⟨k,hk,h⟩
   ·rw[ard,ard,qt,qt]at h;rcases h with h|h|h
    ·exact lp
    ·rw[Nat.testBit_two_pow]at h;exact .inr ⟨j,by simp,.inl (by simpa using h.symm:j=t).symm⟩
    exact .inr ⟨j,by simp,.inr h⟩
   exact .inr ⟨k,by simp[hk],h⟩
theorem aim(ops:Array Oper):∀(l:List Oper) (acc:List Nat),(∀i,l[i]?=ops[acc.length+i]?)->(∀i t,(acc.getD i 0).testBit t=true->lh ops t i) ->
  ∀i t,((zV l acc).getD i 0).testBit t=true->lh ops t i
 | [],acc,_,h=>h
 |o::r,acc,hl,h=>by
   refine aim ops r (acc++[mask acc o]) (fun i=>?_) (fun i t ht=>?_)
   ·have:=hl (i+1);simp only[adb]at this;rw[this];congr 1;simp;omega
   by_cases hi:i<acc.length
   ·rw[bf,vf hi,<-bf]at ht;exact h i t ht
   by_cases he:i=acc.length
   ·subst he;have ho:ops[acc.length]?=some o:=by have:=hl 0;simpa using this.symm
    rw[bf,alg aa]at ht;simp only[sS,pE,vS]at ht;rcases alw acc t (ik o) 0 ht with h0|⟨j,hj,rfl|h2⟩
    ·simp at h0
    ·exact .one ho hj
    exact .step (h j t h2) ho hj
   have:(acc++[mask acc o]).getD i 0=0:=by
    rw[bf,List.getElem?_eq_none bm];rfl
   rw[this]at ht;simp at ht
theorem nM{ops:Array Oper}{eo:Array Bool}(_hsz:eo.size=ops.size){i:Nat}:i∈Region.ready .any ops eo ↔
  ∃o,ops[i]?=some o/\eo.getD i true=false/\∀j∈ik o,eo.getD j false=true:=by
 unfold Region.ready;simp only[List.mem_filter,xL,cY,wa];constructor
 ·rintro⟨h1,h2,h3⟩;refine⟨ops[i],nF h1,h2,fun j hj=>?_⟩;rw[nF h1]at h3;simp only[kj,vS,aqA]at h3;simp only[ik,ui]at hj;obtain⟨e,he,hj⟩:=hj;have:=h3 e (by simpa using he);split at hj
  ·rename_i hb;simp only[dN]at hj;subst hj;simpa[hb]using this
  cases hj
 rintro⟨o,h1,h2,h3⟩;have hi:=(fY.1 h1).1;refine⟨hi,h2,?_⟩;rw[h1];simp only[kj,vS,aqA];intro e he
 cases hb:Region.binds .any e with
 |false=>simp
 |true =>
  have:=h3 e.on (by simp only[ik,ui];exact⟨e,by simpa using he,by simp[hb]⟩);simpa using this
theorem akf{α:Type}(p q:α->Bool):∀(l:List α),(∀x∈l,p x=true->q x=true)->(∃x∈l,q x=true/\p x=false)->l.countP p<l.countP q
 | [],_,⟨x,hx,_⟩=>by simp at hx
 |y::l,h,⟨x,hx,h1,h2⟩=>by
   have hle:∀(l:List α),(∀x∈l,p x=true->q x=true)->l.countP p<=l.countP q:=fun l h=>List.countP_mono_left h;simp only[List.countP_cons];rcases List.mem_cons.1 hx with rfl|hx
   ·have:=hle l (fun z hz=>h z (by simp[hz]));simp[h1,h2];omega
   have ih:=akf p q l (fun z hz=>h z (by simp[hz])) ⟨x,hx,h1,h2⟩;have hy:=h y az
   cases hp:p y with
   |false=>simp;split<;>omega
   |true=>simp[hy hp];omega
theorem ayv{P:Program}{ops:Array Oper}{Q:Exit->Act->World->Prop}(Inv:Array Bool->Act->World->Prop)
  (tA:∀i o,ops[i]?=some o->∀j∈ik o,j<i)
  (rh:∀eo a w i o,eo.size=ops.size->Inv eo a w->ops[i]?=some o->eo.getD i true=false->(∀j∈ik o,eo.getD j false=true) ->
   if Region.wanted o (yielded ops a.tmps)then o.wp P a w (fun a' w'=>Inv (eo.setIfInBounds i true) a' w') Q else Inv (eo.setIfInBounds i true) (a.put o.dst undef) w)
  (ajT:∀eo a w,eo.size=ops.size->Inv eo a w->(∀i,i<ops.size->eo.getD i false=true)->Q .normal a w) :
  ∀(fuel:Nat) (eo:Array Bool) (a:Act) (w:World),eo.size=ops.size->(eH ops.size).countP (fun i=>!eo.getD i true)<=fuel->Inv eo a w->wpAny P .any ops Q fuel eo a w:=by
 have dz:∀(eo:Array Bool),eo.size=ops.size->Region.ready .any ops eo=[]->∀i,i<ops.size->eo.getD i false=true:=by
  intro eo a6 hr i
  induction i using zf with
  |_ i ih =>
   intro hi
   cases hl:eo.getD i false with
   |true=>rfl
   |false =>
    have h1:eo.getD i true=false:=by
     rw[cU,nF aa]at hl ⊢;simpa using hl
    have:i∈Region.ready .any ops eo:=(nM a6).2 ⟨ops[i],nF hi,h1,fun j hj=>by
     have jy:=tA i _ (nF hi) j hj;exact ih j jy aa⟩
    rw[hr]at this;cases this
 intro fuel
 induction fuel with
 |zero =>
  intro eo a w a6 hc hI;have hr:Region.ready .any ops eo=[]:=by
   apply List.eq_nil_iff_forall_not_mem.2;intro i hi;obtain⟨o,h1,h2,_⟩:=(nM a6).1 hi;have lW:0<(eH ops.size).countP (fun i=>!eo.getD i true) :=
    List.countP_pos_iff.2 ⟨i,by simpa using (fY.1 h1).1,by rw[h2];rfl⟩
   omega
  exact⟨hr,ajT eo a w a6 hI (dz eo a6 hr)⟩
 |succ fuel ih =>
  intro eo a w a6 hc hI;refine⟨fun hr=>ajT eo a w a6 hI (dz eo a6 hr),fun i hi=>?_⟩;obtain⟨o,h1,h2,h3⟩:=(nM a6).1 hi;have pd:=(fY.1 h1).1;have hs:=rh eo a w i o a6 hI h1 h2 h3;have aBA:(eH ops.size).countP (fun k=>!(eo.setIfInBounds i true).getD k true)<(eH ops.size).countP (fun k=>!eo.getD k true):=by
   apply akf
   ·intro k _ hk;by_cases e:i=k
    ·subst e;rw[cU,kq aa]at hk;simp at hk
    rw[cU,gk e]at hk;rw[cU];exact hk
   refine⟨i,by simpa using pd,by rw[h2];rfl,?_⟩;rw[cU,kq aa];rfl
  have ams:∀a' w',Inv (eo.setIfInBounds i true) a' w'->wpAny P .any ops Q fuel (eo.setIfInBounds i true) a' w':=fun a' w' h =>
   ih _ a' w' (by simpa using a6) aa h
  unfold wpOp;rw[h1];simp only;split
  ·rename_i hw;rw[if_pos hw]at hs;exact .inl (Oper.wp_mono ams hs)
  rename_i hw;rw[if_neg hw]at hs;exact ams _ _ hs
end Go.Lg
namespace Go.Lg
theorem bn.le_refl(H:bn):H.le H:=fun _ blk h=>⟨blk.mt,h,fun h=>h,fun h1 h2=>by rw[h1]at h2;cases h2⟩
theorem bn.le_trans{H H' H'':bn}(h:H.le H')(h':H'.le H''):H.le H'':=fun b blk hb=>by
 obtain⟨m,g1,g2,g3⟩:=h b blk hb;obtain⟨m',k1,k2,k3⟩:=h' b _ g1;refine⟨m',k1,fun e=>k2 (g2 e),fun e1 e2=>?_⟩
 cases hm:m with
 |false=>exact g3 e1 hm
 |true=>exact k3 hm e2
section
variable {P:Program} {W w:World} {X:XS} {Z0 Z:Nat->Prop} {μ:Nat->Option Nat} {a:Act} {n:Nat} {ops:Array Oper}
theorem adk{K:St->Prop}:∀(l:List Oper) (L:St),opsL P true ops l L K->∃f:Nat->St,f 0=L/\(∀i o,l[i]?=some o->Step P true ops o (f i) (f (i+1)))/\K (f l.length)
 | [],L,h=>⟨fun _=>L,rfl,fun i o h=>by simp at h,h⟩
 |o::r,L,⟨L',h1,h2⟩=>by
   obtain⟨f,g1,g2,g3⟩:=adk r L' h2;refine⟨fun i=>match i with|0=>L|i+1=>f i,rfl,fun i o' h=>?_,g3⟩
   cases i with
   |zero=>simp only[pE,dN]at h;subst h;rw[<-g1]at h1;exact h1
   |succ i=>exact g2 i o' ga
theorem ey.tail{L L':St}{dst:Option Tmp}{op:Op}(h:ey P L dst op L'):sN op=true:=by cases h<;>rfl
theorem aqK{o:Oper}{L L':St}(ht:sN o.op=false)(h:Step P true ops o L L'):L.heap.le L'.heap/\∀t,o.dst≠some t->L'.slot t=L.slot t:=by
 have ki:∀(r:LV) t,o.dst≠some t->(L.put o.dst r).slot t=L.slot t:=fun r t aG=>by
  unfold St.put
  cases hd:o.dst with
  |none=>rfl
  |some d=>exact(fu L d r t).trans (if_neg (fun e=>aG (by rw[hd,e])))
 cases h with
 |skip hg h=>subst h;exact⟨by rw[gD];exact bn.le_refl _,ki _⟩
 |val hg hle cJ ho h=>subst h;exact⟨hle,ki _⟩
 |st hg ho =>
  obtain⟨dst,op,ty,pos,after,g⟩:=o
  cases ho<;>simp[sN]at ht
 |stM ec _ _=>cases ec
open Classical in
noncomputable def dI(ops:Array Oper)(f:Nat->St)(m:Nat)(D:Array Bool)(t:Nat):LV :=
 if ∃i o,i<m/\D.getD i false=true/\ops[i]?=some o/\o.dst=some t then(f m).slot t else(f 0).slot t
def uT:Option Nat->LV->LV
 |none,x=>x
 |some b,x=>x.kill b
noncomputable def fT(ops:Array Oper)(f:Nat->St)(m:Nat)(dm:Option Tmp)(kb:Option Nat)(D:Array Bool)(t:Nat):LV :=
 if dm=some t then(f (m+1)).slot t else uT kb (dI ops f m D t)
def newAt(f:Nat->St)(i b:Nat):Prop:=(f i).heap b=none/\(f (i+1)).heap b≠none
theorem aw7{m id:Nat}{fr:List Nat}{K:St->Prop}{Q:Exit->Act->World->Prop}{L:St}{f:Nat->St}(fI:P.follows .mixedOrders=true)(hs:dM n W X Z0 L a w)
  (f0:f 0=L) (qi:∀i o,ops[i]?=some o->i<m\/fr≠[]->Step P true ops o (f i) (f (i+1)))
  (fsB:∀i o,ops[i]?=some o->m<=i->∀(a:Act) (w:World) (K:Act->World->Prop) (Q:Exit->Act->World->Prop),dM n W X Z0 (f i) a w->(∀t,o.dst=some t->t<n)->(∀a' w',dM n W X Z0 (f (i+1)) a' w'->K a' w')->if Region.wanted o (yielded ops a.tmps)then o.wp P a w K Q else K (a.put o.dst undef) w) (fK:K (f ops.size)) (xj:m<=ops.size) (tA:∀i o,ops[i]?=some o->∀j∈ik o,j<i)
  (s5:∀i o,ops[i]?=some o->m<=i->∀j,j<i->lh ops j i\/(i=m/\j∈fr)) (n8:∀i o,ops[i]?=some o->i<m->sN o.op=false)
  (uC:∀i j oi oj d,ops[i]?=some oi->ops[j]?=some oj->i<m->j<m->i≠j->oj.dst=some d->oi.dst≠some d/\(d∈oi.looksAt ops->if j<i then lh ops j i else lh ops i j))
  (yB:∀j o,ops[j]?=some o->j∈fr->j<m/\m<ops.size/\(∀om,ops[m]?=some om->om.guard=none/\((om.dst=none/\∃T p x,om.op=.store T p x)\/∃d xs ts,om.dst=some d/\om.op=.call ⟨.builtin .append,xs,ts⟩) /\
    (∀d,o.dst=some d->d∉om.looksAt ops/\om.dst≠some d)/\∀d,om.dst=some d->d∉o.looksAt ops) /\
   o.guard=none/\((∃x,o.op=.move x)\/(∃q T x y U,o.op=.binOp q T x y U/\∀om,ops[m]?=some om->om.dst=none)\/(∃x i,o.op=.extract x i/\∀om,ops[m]?=some om->om.dst=none) \/
    ((∀om,ops[m]?=some om->om.dst=none)/\∃r,jd P (f (m+1)).heap (f j).ev (o.dst.getD 0) o.op r []/\∀t,o.dst=some t->(f (j+1)).slot t=r)))
  (hd:∀o∈ops.toList,∀t,o.dst=some t->t<n) (hq:∀L' a' w',K L'->dM n W X Z0 L' a' w'->Q .normal a' w') :
  (Code.region id ops true).wp P Q a w:=by
 have iU:∀i o,ops[i]?=some o->ops.getD i default=o:=fun i o h=>by rw[cU,h];rfl
 have ug:∀i o,ops[i]?=some o->i<ops.size:=fun i o h=>(fY.1 h).1;have yy:∀i,i<ops.size->∃o,ops[i]?=some o:=fun i h=>⟨_,nF h⟩;have rh:∀i o,ops[i]?=some o->i<m->(f i).heap.le (f (i+1)).heap/\∀t,o.dst≠some t->(f (i+1)).slot t=(f i).slot t:=fun i o h gO=>aqK (n8 i o h gO) (qi i o h (.inl gO));have hle:∀i j,i<=j->j<=m->(f i).heap.le (f j).heap:=by
  intro i j yS
  induction j with
  |zero =>
   intro _;have:i=0:=aa;subst this;exact bn.le_refl _
  |succ j ih =>
   intro ku;by_cases e:i=j+1
   ·subst e;exact bn.le_refl _
   obtain⟨o,ho⟩:=yy j aa;exact bn.le_trans (ih aa aa) (rh j o ho aa).1
 have hconst:∀i j t,i<=j->j<=m->(∀k o,i<=k->k<j->ops[k]?=some o->o.dst≠some t)->(f j).slot t=(f i).slot t:=by
  intro i j t yS
  induction j with
  |zero =>
   intro _ _;have:i=0:=aa;subst this;rfl
  |succ j ih =>
   intro ku hk;by_cases e:i=j+1
   ·subst e;rfl
   obtain⟨o,ho⟩:=yy j aa;rw[(rh j o ho aa).2 t (hk j o aa aa ho)];exact ih aa aa (fun k o h1 h2=>hk k o h1 aa)
 have afi:∀i j b,i<=j->j<=m->(f i).heap b≠none->(f j).heap b≠none:=fun i j b yS ku hb=>by
  obtain⟨blk,ayU⟩:=afF.1 hb;obtain⟨mm,g,_⟩:=hle i j yS ku b blk ayU;rw[g];simp
 have aiO:∀i o t,ops[i]?=some o->i<m->o.dst=some t->(f m).slot t=(f (i+1)).slot t:=fun i o t ho gO lC =>
  hconst (i+1) m t aa (bA _) (fun k ok h1 h2 hk e=>(uC i k o ok t ho hk gO h2 aa e).1 lC)
 let closed:Array Bool->Prop:=fun D=>∀i o,ops[i]?=some o->D.getD i false=true->∀j∈ik o,D.getD j false=true
 have zW:∀D,closed D->∀j i,lh ops j i->(∀o,ops[i]?=some o->∀k∈ik o,D.getD k false=true)->D.getD j false=true:=by
  intro D hD j i hA
  induction hA with
  | @one i o ho h=>intro hr;exact hr o ho _ h
  | @step k i o hA ho hk ih=>intro hr;exact ih (fun o' qR k' jG=>hD k o' qR (hr o ho k hk) k' jG)
 let wE:Array Bool->Act->World->Prop:=fun D a w=>(∀i,D.getD i false=true->i<m)/\a.defers=[]/\a.tmps.size=n/\∃μ Z,Core W X Z0 μ Z (f m).heap w /\
  (∀b,μ b≠none->(f 0).heap b≠none\/∃i,i<m/\D.getD i false=true/\newAt f i b)/\∀t,aC Z μ w (dI ops f m D t) (a.tmps.getD t undef)
 let xx:Array Bool->Act->World->Prop:=fun D a w=>∃k,m<=k/\(∀i,i<ops.size->(D.getD i false=true↔i<k))/\k<=ops.size/\dM n W X Z0 (f k) a w
 let yb:Array Bool->Act->World->Prop:=fun D a w=>m<ops.size/\(∃om kb,ops[m]?=some om/\(om.dst=none->kb=none)/\(∀t,om.dst≠some t->(f (m+1)).slot t=uT kb ((f m).slot t)) /\
  dM n W X Z0 ⟨fT ops f m om.dst kb D,(f (m+1)).heap⟩ a w)/\(∀i,D.getD i false=true->i<=m)/\D.getD m false=true/\(∀i,i<m->i∉fr->D.getD i false=true)
 have hAB:∀D a w,wE D a w->(∀i,i<m->D.getD i false=true)->dM n W X Z0 (f m) a w:=by
  rintro D a w ⟨_,cZ,a6,μ,Z,hc,_,hr⟩ dz;refine⟨cZ,a6,μ,Z,hc,fun t=>?_⟩;have:=hr t;unfold dI at this;split at this
  ·exact this
  rename_i nA;rw[hconst 0 m t (bJ _) (bA _) (fun k o _ ia hk e=>nA ⟨k,o,ia,dz k ia,hk,e⟩)];exact this
 refine wp_region_any fI (ayv (fun D a w=>closed D/\(wE D a w\/xx D a w\/yb D a w)) tA ?_ ?_ ops.size _ _ _ az ?_ ?_)
 ·
  intro D a w i o hDs ⟨fL,hI⟩ ho wH vU;have hin:=ug i o ho;have z9:D.getD i false=false:=by
   rw[cU,nF aa]at wH ⊢;simpa using wH
  have jo:∀k,(D.setIfInBounds i true).getD k false=true↔k=i\/D.getD k false=true:=fun k=>by
   by_cases e:i=k
   ·subst e;rw[cU,kq aa];simp
   rw[cU,gk e,<-cU];constructor
   ·exact fun h=>.inr h
   rintro(h|h)
   ·exact absurd h.symm e
   exact h
  have abF:closed (D.setIfInBounds i true):=fun k ok hk eT j hj=>by
   rcases(jo k).1 eT with rfl|h
   ·rw[ho]at hk;cases hk;exact(jo j).2 (.inr (vU j hj))
   exact(jo j).2 (.inr (fL k ok hk h j hj))
  have aa5:∀o',ops[i]?=some o'->∀k∈ik o',D.getD k false=true:=fun o' qR k hk=>(by rw[ho]at qR;cases qR;exact vU k hk);have xD:∀t,o.dst=some t->t<n:=hd o (by rw[abG];exact aqm ho);have tail:∀k,m<=k->(∀j,j<ops.size->(D.getD j false=true↔j<k))->k=i->dM n W X Z0 (f k) a w ->
    if Region.wanted o (yielded ops a.tmps)then o.wp P a w (fun a' w'=>closed (D.setIfInBounds i true)/\(wE (D.setIfInBounds i true) a' w'\/xx (D.setIfInBounds i true) a' w'\/yb (D.setIfInBounds i true) a' w')) Q
    else closed (D.setIfInBounds i true)/\(wE (D.setIfInBounds i true) (a.put o.dst undef) w\/xx (D.setIfInBounds i true) (a.put o.dst undef) w\/yb (D.setIfInBounds i true) (a.put o.dst undef) w):=by
   intro k hmk eT e kR;subst e;refine fsB k o ho hmk a w (fun a' w'=>closed (D.setIfInBounds k true)/\(wE (D.setIfInBounds k true) a' w'\/xx (D.setIfInBounds k true) a' w'\/yb (D.setIfInBounds k true) a' w')) _ kR xD (fun a' w' ji=>⟨abF,.inr (.inl ⟨k+1,aa,fun j hj=>?_,aa,ji⟩)⟩);rw[jo j,eT j hj];omega
  have agP:i<m->∀t,t∈o.looksAt ops->(f i).slot t=dI ops f m D t:=by
   intro gO t ht;by_cases hex:∃j oj,j<m/\ops[j]?=some oj/\oj.dst=some t
   ·obtain⟨j,oj,ku,hj,vw⟩:=hex;have abI:∀k ok,k<m->ops[k]?=some ok->ok.dst=some t->k=j:=fun k ok ia hk nh =>
     nR fun aG=>(uC k j ok oj t hk hj ia ku aG vw).1 nh
    by_cases jy:j=i
    ·subst jy;have e1:(f j).slot t=(f 0).slot t:=hconst 0 j t (bJ _) aa (fun k ok _ hkj hk e=>by have:=abI k ok aa hk e;omega);have e2:dI ops f m D t=(f 0).slot t:=by
      unfold dI;rw[if_neg];rintro⟨k,ok,ia,eT,hk,nh⟩;have:=abI k ok ia hk nh;subst this;rw[z9]at eT;cases eT
     rw[e1,e2]
    have hp:=(uC i j o oj t ho hj gO ku (Ne.symm jy) vw).2 ht;by_cases bT:j<i
    ·rw[if_pos bT]at hp;have uF:=zW D fL j i hp aa5;have e2:dI ops f m D t=(f m).slot t:=by
      unfold dI;rw[if_pos ⟨j,oj,ku,uF,hj,vw⟩]
     rw[e2,aiO j oj t hj ku vw];exact hconst (j+1) i t aa aa (fun k ok qh lL hk e=>by have:=abI k ok aa hk e;omega)
    rw[if_neg bT]at hp;have e1:(f i).slot t=(f 0).slot t:=hconst 0 i t (bJ _) aa (fun k ok _ lL hk e=>by have:=abI k ok aa hk e;omega);have e2:dI ops f m D t=(f 0).slot t:=by
     unfold dI;rw[if_neg];rintro⟨k,ok,ia,eT,hk,nh⟩;have:=abI k ok ia hk nh;subst this;have:=zW D fL i k hp (fun o' qR k' jG=>fL k o' qR eT k' jG);rw[z9]at this;cases this
    rw[e1,e2]
   have e1:(f i).slot t=(f 0).slot t:=hconst 0 i t (bJ _) aa (fun k ok _ lL hk e=>hex ⟨k,ok,aa,hk,e⟩);have e2:dI ops f m D t=(f 0).slot t:=by
    unfold dI;rw[if_neg];rintro⟨k,ok,ia,eT,hk,nh⟩;exact hex ⟨k,ok,ia,hk,nh⟩
   rw[e1,e2]
  have ahG:i<m->∀t,dI ops f m (D.setIfInBounds i true) t=if o.dst=some t then(f (i+1)).slot t else dI ops f m D t:=by
   intro gO t;by_cases lC:o.dst=some t
   ·rw[if_pos lC];unfold dI;rw[if_pos ⟨i,o,gO,(jo i).2 (.inl rfl),ho,lC⟩];exact aiO i o t ho gO lC
   rw[if_neg lC];unfold dI;congr 1;apply propext;constructor
   ·rintro⟨k,ok,ia,eT,hk,nh⟩;rcases(jo k).1 eT with rfl|h
    ·rw[ho]at hk;cases hk;exact absurd nh lC
    exact⟨k,ok,ia,h,hk,nh⟩
   rintro⟨k,ok,ia,eT,hk,nh⟩;exact⟨k,ok,ia,(jo k).2 (.inr eT),hk,nh⟩
  have av8:(∀j,j<m->D.getD j false=true)->∀t,dI ops f m D t=(f m).slot t:=by
   intro dz t;unfold dI;split
   ·rfl
   rename_i nA;rw[hconst 0 m t (bJ _) (bA _) (fun k o _ ia hk e=>nA ⟨k,o,ia,dz k ia,hk,e⟩)]
  rcases hI with hA|⟨k,hmk,eT,hkn,kR⟩|⟨hms,⟨om,kb,gM,vn,aaJ,kR⟩,vy,ab7,sV⟩
  ·by_cases gO:i<m
   ·obtain⟨vy,cZ,a6,μ,Z,hc,gJ,hr⟩:=hA;have asH:∀k,(D.setIfInBounds i true).getD k false=true->k<m:=fun k hk=>by
     rcases(jo k).1 hk with rfl|h
     ·exact gO
     exact vy k h
    have eJ:∀t,o.dst=some t->t<a.tmps.size:=fun t h=>by rw[a6];exact xD t h
    have arf:∀res,cI ops (f i) o res->Region.wanted o (yielded ops a.tmps)=res:=by
     intro res hg;refine uz (L:=⟨dI ops f m D,(f m).heap⟩) hr ?_;unfold cI at hg ⊢
     cases h:o.guard with
     |none=>rw[h]at hg;exact hg
     |some p =>
      obtain⟨j,want⟩:=p;rw[h]at hg;obtain⟨d,q1,q⟩:=hg;have e:(f i).slot d=dI ops f m D d:=agP gO d (by unfold Oper.looksAt;rw[h];simp[q1]);refine⟨d,q1,?_⟩;show (∃b,dI ops f m D d=_/\_)\/(dI ops f m D d=_/\_);rw[<-e];exact q
    have adD:∀(r:LV) (v:Value) (w':World) (aF:Nat->Option Nat) (Z':Nat->Prop),(∀t,o.dst=some t->(f (i+1)).slot t=r)->Core W X Z0 aF Z' (f m).heap w' ->
      (∀b,aF b≠none->μ b≠none\/newAt f i b)->(∀t,aC Z' aF w' (dI ops f m D t) (a.tmps.getD t undef))->aC Z' aF w' r v ->
      closed (D.setIfInBounds i true)/\(wE (D.setIfInBounds i true) (a.put o.dst v) w'\/xx (D.setIfInBounds i true) (a.put o.dst v) w'\/yb (D.setIfInBounds i true) (a.put o.dst v) w'):=by
     intro r v w' aF Z' lV hc' hnw nU hv;refine⟨abF,.inl ⟨asH,by rw[put_defers];exact cZ,by rw[lG];exact a6,aF,Z',hc',fun b hb=>?_,fun t=>?_⟩⟩
     ·rcases hnw b hb with h|h
      ·rcases gJ b h with h|⟨k,ia,eT,hk⟩
       ·exact lp
       exact .inr ⟨k,ia,(jo k).2 (.inr eT),hk⟩
      exact .inr ⟨i,gO,(jo i).2 (.inl rfl),h⟩
     rw[ahG gO t];have:=lI (L:=⟨dI ops f m D,(f m).heap⟩) (d:=o.dst) eJ nU hv t;split
     ·rename_i lC;rw[lV t lC];rw[lC,fu,if_pos rfl]at this;rw[lC];exact this
     rename_i lC
     cases rW:o.dst with
     |none=>rw[rW]at this;exact this
     |some d =>
      rw[rW]at this lC;rwa[fu,if_neg (fun e=>lC (by rw[e]))]at this
    have azt:=qi i o ho (by first|exact .inl aa|(refine .inr ?_;rintro rfl;simp_all))
    cases aBr:azt with
    |skip hg h =>
     rw[arf false hg];simp only[zU,if_false];exact adD (.aQ []) undef w μ Z (fun t ht=>by rw[h,ht,fu,if_pos rfl]) hc (fun b hb=>.inl hb) hr ⟨#[],rfl,rfl⟩
    | @val r fr H1 hg hH cJ jM h =>
     rw[arf true hg];simp only[if_true];have uL:H1=(f (i+1)).heap:=by rw[h]
     have adA:H1.le (f m).heap:=by rw[uL];exact hle (i+1) m aa (bA _)
     have azc:=jM.le adA;obtain⟨dst,op,ty,pos,after,g⟩:=o;have aie:∀x∈op.operands,aC Z μ w ((f i).ev x) (a.eval x):=by
      intro x hx
      cases x with
      |tmp t =>
       have ht:t∈Oper.looksAt ops ⟨dst,op,ty,pos,after,g⟩:=by
        unfold Oper.looksAt;simp only[p7,ui];exact .inl ⟨.tmp t,by simpa using hx,rfl⟩
       show aC Z μ w ((f i).slot t) (a.tmps.getD t undef);rw[agP gO t ht];exact hr t
      |const v=>exact fS (L:=⟨dI ops f m D,(f m).heap⟩) hr (.const v)
      |func g=>exact fS (L:=⟨dI ops f m D,(f m).heap⟩) hr (.func g)
      |global g=>exact fS (L:=⟨dI ops f m D,(f m).heap⟩) hr (.global g)
     refine jd.sound hc azc aie (fun b blk hb=>?_) dst ty pos after g (fun v w' aF Z' lX=>?_)
     ·obtain⟨q1,mm,q2,q3⟩:=cJ b blk hb;obtain⟨m2,q4,q5,_⟩:=adA b _ q2;refine⟨m2,q4,fun e=>q5 (q3 e),?_⟩
      cases oN:μ b with
      |none=>rfl
      |some id =>
       rcases gJ b (by rw[oN];simp)with h0|⟨k,ia,eT,pT,eQ⟩
       ·exact absurd q1 (afi 0 i b (bJ _) aa h0)
       have lL:k≠i:=by rintro rfl;rw[z9]at eT;cases eT
       by_cases bT:k<i
       ·exact absurd q1 (afi (k+1) i b aa aa eQ)
       have:(f (i+1)).heap b≠none:=by rw[<-uL,q2];simp
       exact absurd pT (afi (i+1) k b aa aa this)
     refine adD r v w' aF Z' (fun t ht=>by rw[h];simp only at ht;subst ht;exact(fu _ _ _ _).trans (if_pos rfl)) lX.core (fun b hb=>?_) (fun t=>(hr t).mono lX.hz lX.hm lX.hf) lX.rep;rcases lX.new b hb with h'|h'
     ·exact .inl h'
     simp only[fB]at h';obtain⟨⟨b',blk⟩,l6,rfl⟩:=h';obtain⟨q1,mm,q2,_⟩:=cJ b' blk l6;exact .inr ⟨q1,by rw[<-uL,q2];simp⟩
    |st hg qR =>
     have:=n8 i o ho gO;rw[qR.tail]at this;cases this
    |stM ec _ _=>cases ec
   have aeG:i=m:=by
    by_cases e:i=m
    ·exact e
    rcases s5 i o ho aa (i-1) aa with h|⟨h,_⟩
    ·have:=hA.1 (i-1) (zW D fL _ i h aa5);omega
    exact absurd h e
   by_cases dz:∀j,j<i->D.getD j false=true
   ·subst aeG;exact tail i (bA _) (fun j hj=>⟨fun h=>hA.1 j h,fun h=>dz j h⟩) rfl (hAB D a w hA dz)
   ·
    obtain⟨j0,hj0,aw2⟩:∃j,j<i/\D.getD j false=false:=by
     obtain⟨j,h⟩:=avN.1 dz;obtain⟨h,h'⟩:=awl.1 h;exact⟨j,h,by simpa using h'⟩
    have hnf:∀j,j<m->j∉fr->D.getD j false=true:=fun j hj hjf=>by
     rcases s5 i o ho aa j aa with h|⟨_,h⟩
     ·exact zW D fL j i h aa5
     exact absurd h hjf
    have auk:j0∈fr:=nR fun h=>by have:=hnf j0 aa h;rw[aw2]at this;cases this
    obtain⟨oj0,azQ⟩:=yy j0 aa;subst aeG;obtain⟨_,hms,dL,_⟩:=yB j0 oj0 azQ auk;obtain⟨lY,qQ,_⟩:=dL o ho;have jc:∀t,t∈o.looksAt ops->dI ops f i D t=(f i).slot t:=by
     intro t ht;unfold dI;split
     ·rfl
     rename_i nA;refine(hconst 0 i t (bJ _) (bA _) (fun k ok _ lL hk e=>nA ⟨k,ok,lL,?_,hk,e⟩)).symm;by_cases wO:k∈fr
     ·exact absurd ht (((yB k ok hk wO).2.2.1 o ho).2.2.1 t e).1
     exact hnf k lL wO
    have eC:∀y,y∈o.op.operands->St.ev ⟨dI ops f i D,(f i).heap⟩ y=(f i).ev y:=by
     intro y hy
     cases y with
     |tmp t =>
      show dI ops f i D t=(f i).slot t;refine jc t ?_;unfold Oper.looksAt;simp only[p7,ui];exact .inl ⟨.tmp t,by simpa using hy,rfl⟩
     |const v=>rfl
     |func g=>rfl
     |global g=>rfl
    have qb:dM n W X Z0 ⟨dI ops f i D,(f i).heap⟩ a w:=by
     obtain⟨_,cZ,a6,μ,Z,hc,_,hr⟩:=hA;exact⟨cZ,a6,μ,Z,hc,hr⟩
    have aaG:∃kb,(o.dst=none->kb=none)/\(∀t,o.dst≠some t->(f (i+1)).slot t=uT kb ((f i).slot t)) /\
      Step P true ops o ⟨dI ops f i D,(f i).heap⟩ ⟨fT ops f i o.dst kb D,(f (i+1)).heap⟩:=by
     have fV:=qi i o ho (by first|exact .inl aa|(refine .inr ?_;rintro rfl;simp_all));obtain⟨dst,op,ty,pos,after,g⟩:=o;simp only at lY qQ;rcases qQ with⟨gu,T,p,x,qQ⟩|⟨d,xs,ts,gu,qQ⟩
     ·subst lY gu qQ;have e1:=eC p aY;have e2:=eC x aY
      cases fV with
      |skip hg h=>cases hg
      |val hg hle cJ jM h =>
       cases jM with
       |pure h=>cases h
       |alloc h=>cases h
       |call h=>cases h
      |st hg oH =>
       generalize hfe:f (i+1)=F at oH
       cases oH with
       |store hp hb hs hm hi hy ki hT aG =>
        refine⟨none,fun _=>rfl,fun t _=>rfl,.st rfl ?_⟩;have:=ey.store (P:=P) (L:=⟨dI ops f i D,(f i).heap⟩) (dst:=none) (x:=x) (e1.trans hp) hb hs hm hi hy (by rw[e2];exact ki) (by rw[e2];exact hT) (by rw[e2];exact aG);exact this
      |stM ec _ _=>cases ec
     subst lY gu qQ
     cases fV with
     |skip hg h=>cases hg
     |val hg hle cJ jM h =>
      cases jM with
      |pure h=>cases h
      |alloc h=>cases h
      |call h=>cases h
     |st hg oH =>
      generalize hfe:f (i+1)=F at oH
      cases oH with
      | @iJ T U E E' d1 b sz len blk x y news z cn hx hb hs hm hlen eI fp hT hU hz hE cu gS hy a6 ee cG =>
       have e1:=eC x gG;have e2:=eC y gG;refine⟨some b,(fun h=>by cases h),fun t ht=>?_,.st rfl ?_⟩
       ·exact(fu _ _ _ _).trans (if_neg (fun e=>ht (by rw[e])))
       have:=ey.iJ (P:=P) (L:=⟨dI ops f i D,(f i).heap⟩) (dst:=some d) (x:=x) (y:=y) (e1.trans hx) hb hs hm hlen eI fp hT hU hz hE cu gS (by rw[e2];exact hy) a6 ee cG;have hq:(⟨fT ops f i (some d) (some b) D,((((f i).kill b).a5 d1 (some ⟨sz,a9 b (blk.vals.take len++news),true⟩)).put (some d) (.ref d1 sz 0 (len+news.length))).heap⟩:St) =
         (((St.kill ⟨dI ops f i D,(f i).heap⟩ b).a5 d1 (some ⟨sz,a9 b (blk.vals.take len++news),true⟩)).put (some d) (.ref d1 sz 0 (len+news.length))):=by
        show (⟨_,_⟩:St)=⟨_,_⟩;congr 1;funext t;unfold fT;rw[hfe,fu];refine Eq.trans ?_ (fu _ _ _ _).symm;by_cases e:t=d
        ·subst e;rw[if_pos rfl,if_pos rfl,if_pos rfl]
        rw[if_neg (by simpa using fun h=>e h.symm),if_neg e];rfl
       rw[hq];exact this
      | @vE T U E E' d1 sz x y news z cn hx eI hT hU hz hE cu gS hy hn a6 ee cG =>
       have e1:=eC x gG;have e2:=eC y gG;refine⟨none,(fun h=>by cases h),fun t ht=>?_,.st rfl ?_⟩
       ·exact(fu _ _ _ _).trans (if_neg (fun e=>ht (by rw[e])))
       have:=ey.vE (P:=P) (L:=⟨dI ops f i D,(f i).heap⟩) (dst:=some d) (x:=x) (y:=y) (e1.trans hx) eI hT hU hz hE cu gS (by rw[e2];exact hy) hn a6 ee cG;have hq:(⟨fT ops f i (some d) none D,((((f i).a5 d1 (some ⟨sz,news,true⟩)).put (some d) (.ref d1 sz 0 news.length))).heap⟩:St) =
         (((St.a5 ⟨dI ops f i D,(f i).heap⟩ d1 (some ⟨sz,news,true⟩)).put (some d) (.ref d1 sz 0 news.length))):=by
        show (⟨_,_⟩:St)=⟨_,_⟩;congr 1;funext t;unfold fT;rw[hfe,fu];refine Eq.trans ?_ (fu _ _ _ _).symm;by_cases e:t=d
        ·subst e;rw[if_pos rfl,if_pos rfl,if_pos rfl]
        rw[if_neg (by simpa using fun h=>e h.symm),if_neg e];rfl
       rw[hq];exact this
     |stM ec _ _=>cases ec
    obtain⟨kb,vn,azI,aaG⟩:=aaG;refine yD qb aaG xD (K:=fun a' w'=>closed (D.setIfInBounds i true)/\(wE (D.setIfInBounds i true) a' w'\/xx (D.setIfInBounds i true) a' w'\/yb (D.setIfInBounds i true) a' w')) (fun a' w' ji=>⟨abF,.inr (.inr ⟨hms,⟨o,kb,ho,vn,azI,?_⟩,fun k hk=>?_,(jo i).2 (.inl rfl),fun k hk wO=>(jo k).2 (.inr (hnf k hk wO))⟩)⟩)
    ·have:dI ops f i (D.setIfInBounds i true)=dI ops f i D:=by
      funext t;unfold dI;congr 1;apply propext;constructor
      ·rintro⟨k,ok,ia,eT,hk,nh⟩;rcases(jo k).1 eT with rfl|h
       ·omega
       exact⟨k,ok,ia,h,hk,nh⟩
      rintro⟨k,ok,ia,eT,hk,nh⟩;exact⟨k,ok,ia,(jo k).2 (.inr eT),hk,nh⟩
     have e:fT ops f i o.dst kb (D.setIfInBounds i true)=fT ops f i o.dst kb D:=by
      funext t;unfold fT;rw[this]
     rw[e];exact ji
    rcases(jo k).1 hk with rfl|h
    ·exact bA _
    have:=hA.1 k h;omega
  ·have hik:k<=i:=by
    by_cases e:i<k
    ·have:=(eT i hin).2 e;rw[z9]at this;cases this
    omega
   have:k=i:=by
    by_cases e:k=i
    ·exact e
    rcases s5 i o ho aa k aa with h|⟨h,_⟩
    ·have:=zW D fL k i h aa5;have:=(eT k aa).1 this;omega
    omega
   exact tail k hmk eT this kR
  ·
   have asL:i≠m:=by rintro rfl;rw[z9]at ab7;cases ab7
   by_cases gO:i<m
   ·have hif:i∈fr:=nR fun h=>by have:=sV i gO h;rw[z9]at this;cases this
    obtain⟨_,_,dL,lY,qQ⟩:=yB i o ho hif;obtain⟨_,_,nu,wN⟩:=dL om gM;have alJ:∀t,t∈o.looksAt ops->fT ops f m om.dst kb D t=uT kb ((f i).slot t):=fun t ht=>by
     unfold fT;rw[if_neg (fun e=>wN t e ht),<-agP gO t ht]
    have alY:∀t,Operand.tmp t∈o.op.operands->t∈o.looksAt ops:=fun t hy=>by
     unfold Oper.looksAt;simp only[p7,ui];exact .inl ⟨.tmp t,by simpa using hy,rfl⟩
    have eC:kb=none->∀y,y∈o.op.operands->(f i).ev y=St.ev ⟨fT ops f m om.dst kb D,(f (m+1)).heap⟩ y:=by
     intro hk y hy
     cases y with
     |tmp t =>
      show (f i).slot t=fT ops f m om.dst kb D t;rw[alJ t (alY t hy),hk];rfl
     |const v=>rfl
     |func g=>rfl
     |global g=>rfl
    have asp:∀y,y∈o.op.operands->St.ev ⟨fT ops f m om.dst kb D,(f (m+1)).heap⟩ y=uT kb ((f i).ev y):=by
     intro y hy
     cases y with
     |tmp t=>exact alJ t (alY t hy)
     |const v =>
      show (if _ then _ else _:LV)=uT kb (if _ then _ else _)
      cases kb<;>split<;>rfl
     |func g=>cases kb<;>rfl
     |global g=>cases kb<;>rfl
    by_cases akT:∃r,jd P (f (m+1)).heap (f i).ev (o.dst.getD 0) o.op r []/\(∀t,o.dst=some t->(f (i+1)).slot t=r)/\om.dst=none
    ·obtain⟨r,jM,lV,hnd⟩:=akT;have kF:=vn hnd;obtain⟨cZ,a6,μ,Z,hc,hr⟩:=kR;have eJ:∀t,o.dst=some t->t<a.tmps.size:=fun t h=>by rw[a6];exact xD t h
     have ax5:Region.wanted o (yielded ops a.tmps)=true:=uz (L:=⟨fT ops f m om.dst kb D,(f (m+1)).heap⟩) hr (by unfold cI;rw[lY]);rw[ax5];simp only[if_true];have lX:=ahG gO;obtain⟨dst,op,ty,pos,after,g⟩:=o;have aie:∀x∈op.operands,aC Z μ w ((f i).ev x) (a.eval x):=by
      intro x hx;have h1:=fS (L:=⟨fT ops f m om.dst kb D,(f (m+1)).heap⟩) hr x;rwa[<-eC kF x hx]at h1
     refine jd.sound hc jM aie (fun b blk hb=>by cases hb) dst ty pos after g (fun v w' aF Z' abq=>?_);refine⟨abF,.inr (.inr ⟨hms,⟨om,kb,gM,vn,aaJ,by rw[put_defers];exact cZ,by rw[lG];exact a6,aF,Z',abq.core,fun t=>?_⟩,fun k hk=>?_,(jo m).2 (.inr ab7),fun k hk wO=>(jo k).2 (.inr (sV k hk wO))⟩)⟩
     ·have h1:=lI (L:=⟨fT ops f m om.dst kb D,(f (m+1)).heap⟩) (d:=dst) eJ (fun t=>(hr t).mono abq.hz abq.hm abq.hf) abq.rep t;have e:fT ops f m om.dst kb (D.setIfInBounds i true) t=(St.put ⟨fT ops f m om.dst kb D,(f (m+1)).heap⟩ dst r).slot t:=by
       unfold fT;rw[lX t,hnd,kF]
       cases dst with
       |none=>rw[if_neg (c:=(none:Option Tmp)=some t) az,if_neg (c:=(none:Option Tmp)=some t) az];rfl
       |some d =>
        rw[if_neg (c:=(none:Option Tmp)=some t) az,fu];by_cases e:t=d
        ·subst e;rw[if_pos rfl,if_pos rfl];exact lV t rfl
        rw[if_neg (c:=(some d:Option Tmp)=some t) (by simpa using fun h=>e h.symm),if_neg e];show uT none (dI ops f m D t)=if (none:Option Tmp)=some t then(f (m+1)).slot t else uT none (dI ops f m D t)
        rw[if_neg az]
      show aC Z' aF w' (fT ops f m om.dst kb (D.setIfInBounds i true) t) _;rw[e];exact h1
     rcases(jo k).1 hk with rfl|h
     ·omega
     exact vy k h
    replace qQ:(∃x,o.op=.move x)\/(∃q T x y U,o.op=.binOp q T x y U/\∀om,ops[m]?=some om->om.dst=none)\/(∃x i,o.op=.extract x i/\∀om,ops[m]?=some om->om.dst=none):=by
     rcases qQ with h|h|h|⟨h1,r,h2,h3⟩
     ·exact lp
     ·exact .inr (.inl h)
     ·exact .inr (.inr h)
     exact absurd ⟨r,h2,h3,h1 om gM⟩ akT
    have aaG:Step P true ops o ⟨fT ops f m om.dst kb D,(f (m+1)).heap⟩ ⟨fT ops f m om.dst kb (D.setIfInBounds i true),(f (m+1)).heap⟩:=by
     have fV:=qi i o ho (by first|exact .inl aa|(refine .inr ?_;rintro rfl;simp_all));have lX:=ahG gO;obtain⟨dst,op,ty,pos,after,g⟩:=o;simp only at lY qQ lX nu;subst lY;have ae2:∀r,aq P (f (m+1)).heap (St.ev ⟨fT ops f m om.dst kb D,(f (m+1)).heap⟩) op (uT kb r)->(∀t,dst=some t->(f (i+1)).slot t=r)->Step P true ops ⟨dst,op,ty,pos,after,none⟩ ⟨fT ops f m om.dst kb D,(f (m+1)).heap⟩ ⟨fT ops f m om.dst kb (D.setIfInBounds i true),(f (m+1)).heap⟩:=by
      intro r hr lV;refine .val rfl (bn.le_refl _) (fr:=[]) (fun _ _ h=>by cases h) (.pure hr) ?_;show (_:St)=⟨_,_⟩;congr 1;funext t;unfold fT;rw[lX t]
      cases dst with
      |none=>rw[if_neg (c:=(none:Option Tmp)=some t) az];rfl
      |some d =>
       show _=(St.put _ (some d) _).slot t;rw[fu];by_cases e:t=d
       ·subst e;rw[if_neg (nu t rfl).2,if_pos rfl,if_pos rfl,lV t rfl]
       rw[if_neg (c:=(some d:Option Tmp)=some t) (by simpa using fun h=>e h.symm),if_neg e]
     cases fV with
     |skip hg h=>cases hg
     | @val r fr' H1 hg hle cJ jM h =>
      have lV:∀t,dst=some t->(f (i+1)).slot t=r:=fun t ht=>by rw[h];simp only;subst ht;exact(fu _ _ _ _).trans (if_pos rfl)
      rcases qQ with⟨x,rfl⟩|⟨q,T,x,y,U,rfl,hnd⟩|⟨x,i,rfl,hnd⟩
      ·cases jM with
       |pure hp =>
        cases hp with
        |move =>
         refine ae2 _ ?_ lV;rw[<-asp x aY];exact .move x
       |alloc hp=>cases hp
       |call hp=>cases hp
      ·have kF:=vn (hnd om gM);have e1:=eC kF x aY;have e2:=eC kF y aY
       cases jM with
       |pure hp =>
        refine ae2 _ ?_ lV;rw[kF]at e1 e2 ⊢
        cases hp with
        |bin hx hy hb=>exact .bin (e1.symm.trans hx) (e2.symm.trans hy) hb
        |sh hx hy hb=>exact .sh (e1.symm.trans hx) (e2.symm.trans hy) hb
        |beq hx hy hb=>exact .beq (e1.symm.trans hx) (e2.symm.trans hy) hb
        |bne hx hy hb=>exact .bne (e1.symm.trans hx) (e2.symm.trans hy) hb
        |tM hx hy hb=>exact .tM (e1.symm.trans hx) (e2.symm.trans hy) hb
        |uU hx hy=>exact .uU (e1.symm.trans hx) (e2.symm.trans hy)
        |uO hx hy hT=>exact .uO (e1.symm.trans hx) (e2.symm.trans hy) hT
        |uy hx hy hT=>exact .uy (e1.symm.trans hx) (e2.symm.trans hy) hT
        |tF hx hy hT hE hs hd=>exact .tF (e1.symm.trans hx) (e2.symm.trans hy) hT hE hs hd
       |alloc hp=>cases hp
       |call hp=>cases hp
      have kF:=vn (hnd om gM);have e1:=eC kF x aY
      cases jM with
      |pure hp =>
       refine ae2 _ ?_ lV;rw[kF]at e1 ⊢
       cases hp with
       |extract ht hr aG=>exact .extract (e1.symm.trans ht) hr aG
      |alloc hp=>cases hp
      |call hp=>cases hp
     |st hg oH=>rcases qQ with⟨x,rfl⟩|⟨q,T,x,y,U,rfl,_⟩|⟨x,i,rfl,_⟩<;>cases oH
     |stM ec _ _=>cases ec
    refine yD kR aaG xD (K:=fun a' w'=>closed (D.setIfInBounds i true)/\(wE (D.setIfInBounds i true) a' w'\/xx (D.setIfInBounds i true) a' w'\/yb (D.setIfInBounds i true) a' w')) (fun a' w' ji=>⟨abF,.inr (.inr ⟨hms,⟨om,kb,gM,vn,aaJ,ji⟩,fun k hk=>?_,(jo m).2 (.inr ab7),fun k hk wO=>(jo k).2 (.inr (sV k hk wO))⟩)⟩);rcases(jo k).1 hk with rfl|h
    ·omega
    exact vy k h
   have dz:∀j,j<i->D.getD j false=true:=fun j hj=>by
    rcases s5 i o ho aa j hj with h|⟨h,_⟩
    ·exact zW D fL j i h aa5
    exact absurd h asL
   have aeG:i=m+1:=by
    by_cases e:i=m+1
    ·exact e
    have:=vy (m+1) (dz (m+1) aa);omega
   refine tail (m+1) aa (fun j hj=>⟨fun h=>by have:=vy j h;omega,fun h=>dz j aa⟩) aeG.symm ?_;have jc:=av8 (fun j hj=>dz j aa);have:(⟨fT ops f m om.dst kb D,(f (m+1)).heap⟩:St)=f (m+1):=by
    show (⟨_,_⟩:St)=⟨_,_⟩;congr 1;funext t;unfold fT;split
    ·rfl
    rename_i e;rw[jc t,aaJ t e]
   rw[<-this];exact kR
 ·
  rintro D a w hDs ⟨fL,hI⟩ dz;rcases hI with hA|⟨k,hmk,eT,hkn,kR⟩|⟨hms,⟨om,kb,gM,vn,aaJ,kR⟩,vy,ab7,sV⟩
  ·have asG:m=ops.size:=by
    by_cases e:m=ops.size
    ·exact e
    have:=hA.1 m (dz m aa);omega
   exact hq _ a w (asG▸fK) (hAB D a w hA (fun i hi=>dz i aa))
  ·have:k=ops.size:=by
    by_cases e:k=ops.size
    ·exact e
    have:=(eT k aa).1 (dz k aa);omega
   subst this;exact hq _ a w fK kR
  have pF:m+1=ops.size:=by
   by_cases e:m+1=ops.size
   ·exact e
   have:=vy (m+1) (dz (m+1) aa);omega
  have jc:dI ops f m D=(f m).slot:=by
   funext t;unfold dI;split
   ·rfl
   rename_i nA;rw[hconst 0 m t (bJ _) (bA _) (fun k o _ ia hk e=>nA ⟨k,o,ia,dz k aa,hk,e⟩)]
  have:(⟨fT ops f m om.dst kb D,(f (m+1)).heap⟩:St)=f (m+1):=by
   show (⟨_,_⟩:St)=⟨_,_⟩;congr 1;funext t;unfold fT;split
   ·rfl
   rename_i e;rw[jc,aaJ t e]
  exact hq _ a w (pF▸fK) (this▸kR)
 ·
  refine bW List.countP_le_length ?_;simp
 ·
  have hD0:∀i,(nD ops.size false).getD i false=false:=fun i=>by
   rw[cU,Array.getElem?_replicate];split<;>rfl
  refine⟨fun i o _ h=>(by rw[hD0]at h;cases h),.inl ⟨fun i h=>(by rw[hD0]at h;cases h),?_⟩⟩;rw[<-f0]at hs;obtain⟨cZ,a6,μ,Z,hc,hr⟩:=hs;obtain⟨Z1,k1,k2⟩:=hc.tq (hle 0 m (bJ _) (bA _));have asz:∀(w':World),w'.heap=w.heap->Frame Z μ w w':=fun w' h=>⟨fun _ _=>by rw[h],fun _ id _ c _ _ hh=>⟨c,by rw[h];exact hh,rfl⟩⟩;have azp:∀(w':World),w'.heap=w.heap->Frame Z1 μ w w':=fun w' h=>⟨fun _ _=>by rw[h],fun _ id _ c _ _ hh=>⟨c,by rw[h];exact hh,rfl⟩⟩;refine⟨cZ,a6,μ,Z1,⟨⟨k1.bB.os,k1.bB.tape,k1.bB.output,k1.bB.size,k1.bB.block,k1.bB.qm⟩,k1.iD,k1.fZ,k1.g9,k1.inj,k1.own,k1.x0,k1.kQ,k1.x1,k1.gL,k1.bo,fun b id hb=>?_⟩,fun b hb=>?_,fun t=>?_⟩
  ·obtain⟨blk,g1,g2⟩:=k1.heap b id hb;exact⟨blk,g1,g2.mono (fun _ h=>h) (fun _ _ h=>h) (azp _ rfl) rfl⟩
  ·left;obtain⟨id,hid⟩:=afF.1 hb;obtain⟨blk,g1,_⟩:=hc.heap b id hid;rw[g1];simp
  have:dI ops f m (nD ops.size false) t=(f 0).slot t:=by
   unfold dI;rw[if_neg];rintro⟨i,o,_,h,_⟩;rw[hD0]at h;cases h
  rw[this];exact(hr t).mono k2 (fun _ _ h=>h) (asz { w with drawn:=w.drawn+1 } rfl)
theorem akj{m id:Nat}{fr:List Nat}{K:St->Prop}{Q:Exit->Act->World->Prop}{L:St}{f:Nat->St}(fI:P.follows .mixedOrders=true)(hs:dM n W X Z0 L a w)
  (f0:f 0=L) (qi:∀i o,ops[i]?=some o->Step P true ops o (f i) (f (i+1))) (fK:K (f ops.size)) (xj:m<=ops.size) (tA:∀i o,ops[i]?=some o->∀j∈ik o,j<i)
  (s5:∀i o,ops[i]?=some o->m<=i->∀j,j<i->lh ops j i\/(i=m/\j∈fr)) (n8:∀i o,ops[i]?=some o->i<m->sN o.op=false)
  (uC:∀i j oi oj d,ops[i]?=some oi->ops[j]?=some oj->i<m->j<m->i≠j->oj.dst=some d->oi.dst≠some d/\(d∈oi.looksAt ops->if j<i then lh ops j i else lh ops i j))
  (yB:∀j o,ops[j]?=some o->j∈fr->j<m/\m<ops.size/\(∀om,ops[m]?=some om->om.guard=none/\((om.dst=none/\∃T p x,om.op=.store T p x)\/∃d xs ts,om.dst=some d/\om.op=.call ⟨.builtin .append,xs,ts⟩) /\
    (∀d,o.dst=some d->d∉om.looksAt ops/\om.dst≠some d)/\∀d,om.dst=some d->d∉o.looksAt ops) /\
   o.guard=none/\((∃x,o.op=.move x)\/(∃q T x y U,o.op=.binOp q T x y U/\∀om,ops[m]?=some om->om.dst=none)\/(∃x i,o.op=.extract x i/\∀om,ops[m]?=some om->om.dst=none) \/
    ((∀om,ops[m]?=some om->om.dst=none)/\∃r,jd P (f (m+1)).heap (f j).ev (o.dst.getD 0) o.op r []/\∀t,o.dst=some t->(f (j+1)).slot t=r)))
  (hd:∀o∈ops.toList,∀t,o.dst=some t->t<n) (hq:∀L' a' w',K L'->dM n W X Z0 L' a' w'->Q .normal a' w') :
  (Code.region id ops true).wp P Q a w :=
 aw7 fI hs f0 (fun i o ho _=>qi i o ho) (fun i o ho _ a w K Q kR xD hK=>yD kR (qi i o ho) xD hK) fK xj tA s5 n8 uC yB hd hq
theorem avG{m id:Nat}{fr:List Nat}{K:St->Prop}{Q:Exit->Act->World->Prop}{L:St}(fI:P.follows .mixedOrders=true)(jg:yf ops m fr=true)(hs:dM n W X Z0 L a w)
  (hL:opsL P true ops ops.toList L K) (hd:∀o∈ops.toList,∀t,o.dst=some t->t<n) (hq:∀L' a' w',K L'->dM n W X Z0 L' a' w'->Q .normal a' w') :
  (Code.region id ops true).wp P Q a w:=by
 obtain⟨f,f0,fs,fK⟩:=adk _ _ hL;have qi:∀i o,ops[i]?=some o->Step P true ops o (f i) (f (i+1)):=fun i o h=>fs i o ga;rw[jI]at fK;unfold yf at jg;simp only[cY,decide_eq_true_eq,mg,xL]at jg;obtain⟨⟨⟨xj,h1⟩,h2⟩,h3⟩:=jg;have iU:∀i o,ops[i]?=some o->ops.getD i default=o:=fun i o h=>by rw[cU,h];rfl
 have ug:∀i o,ops[i]?=some o->i<ops.size:=fun i o h=>(fY.1 h).1;have yy:∀i,i<ops.size->∃o,ops[i]?=some o:=fun i h=>⟨_,nF h⟩;have tA:∀i o,ops[i]?=some o->∀j∈ik o,j<i:=fun i o h j hj=>by
  have:=(h1 i (ug i o h)).1 j (by rw[iU i o h];exact hj);simpa using this
 have yk:=aim ops ops.toList [] (fun i=>by simp) (fun i t h=>by simp at h);have s5:∀i o,ops[i]?=some o->m<=i->∀j,j<i->lh ops j i\/(i=m/\j∈fr):=fun i o h y8 j hj=>by
  have:=(h1 i (ug i o h)).2;rw[if_pos y8]at this;have:=(mg.1 this) j (by simpa using hj);simp only[qt,cY,beq_iff_eq,oO]at this;rcases this with g|g
  ·exact .inl (yk i j (by simpa using g))
  exact .inr g
 have n8:∀i o,ops[i]?=some o->i<m->sN o.op=false:=fun i o h y8=>by
  have:=(h1 i (ug i o h)).2;rw[if_neg aa,iU i o h]at this;simpa using this
 have uC:∀i j oi oj d,ops[i]?=some oi->ops[j]?=some oj->i<m->j<m->i≠j->oj.dst=some d->oi.dst≠some d/\(d∈oi.looksAt ops->if j<i then lh ops j i else lh ops i j):=by
  intro i j oi oj d hi hj gO ku aG vw;have:=h2 i gO j ku;simp only[qt,beq_iff_eq]at this;rcases this with h|h
  ·exact absurd h aG
  unfold ac1 at h;rw[iU j oj hj,iU i oi hi,vw]at h;simp only[cY,bne_iff_ne,ne_eq,qt,wa]at h;refine⟨h.1,fun uj=>?_⟩;rcases h.2 with h'|h'
  ·rw[oO.2 uj]at h';cases h'
  split
  ·rename_i bT;rw[if_pos bT]at h';exact yk i j h'
  rename_i bT;rw[if_neg bT]at h';exact yk j i h'
 have yB:∀j o,ops[j]?=some o->j∈fr->j<m/\m<ops.size/\(∀om,ops[m]?=some om->om.guard=none/\((om.dst=none/\∃T p x,om.op=.store T p x)\/∃d xs ts,om.dst=some d/\om.op=.call ⟨.builtin .append,xs,ts⟩) /\
    (∀d,o.dst=some d->d∉om.looksAt ops/\om.dst≠some d)/\∀d,om.dst=some d->d∉o.looksAt ops) /\
   o.guard=none/\((∃x,o.op=.move x)\/(∃q T x y U,o.op=.binOp q T x y U/\∀om,ops[m]?=some om->om.dst=none)\/(∃x i,o.op=.extract x i/\∀om,ops[m]?=some om->om.dst=none) \/
    ((∀om,ops[m]?=some om->om.dst=none)/\∃r,jd P (f (m+1)).heap (f j).ev (o.dst.getD 0) o.op r []/\∀t,o.dst=some t->(f (j+1)).slot t=r)):=by
  intro j o ho hj;simp only[qt,List.isEmpty_iff,cY,decide_eq_true_eq,mg]at h3;rcases h3 with h3|⟨⟨hm,dL⟩,dz⟩
  ·rw[h3]at hj;cases hj
  obtain⟨ku,hf⟩:=dz j hj;unfold am6 at hf;rw[iU j o ho]at hf;simp only[cY,rT]at hf;obtain⟨⟨⟨zI,lr⟩,pV⟩,hf4⟩:=hf;refine⟨ku,hm,fun om gM=>?_,zI,?_⟩
  ·unfold apF at dL;rw[iU m om gM]at dL pV hf4;simp only[cY,rT]at dL;refine⟨dL.1,?_,fun d hd=>⟨fun uj=>?_,fun e=>?_⟩,fun d hd uj=>?_⟩
   ·have:=dL.2;split at this
    ·rename_i T p x e;exact .inl ⟨rT.1 this,T,p,x,e⟩
    ·rename_i xs ts e;obtain⟨d,hd⟩:=Option.isSome_iff_exists.1 this;exact .inr ⟨d,xs,ts,hd,e⟩
    cases this
   ·rw[hd]at pV;simp only[oO.2 uj]at pV
    cases pV
   ·rw[hd,e]at pV;simp at pV
   rw[hd]at hf4;simp only[oO.2 uj]at hf4
   cases hf4
  split at lr
  ·rename_i x e;exact .inl ⟨x,e⟩
  ·rename_i q T x y U e;exact .inr (.inl ⟨q,T,x,y,U,e,fun om gM=>by rw[iU m om gM]at lr;exact rT.1 lr⟩)
  ·rename_i x i e;exact .inr (.inr (.inl ⟨x,i,e,fun om gM=>by rw[iU m om gM]at lr;exact rT.1 lr⟩))
  cases lr
 exact akj fI hs f0 qi fK xj tA s5 n8 uC yB hd hq
def apZ(ops:Array Oper)(m j:Nat):Bool :=
 (ops.getD j default).guard.isNone&&(match (ops.getD j default).op with | .makeSlice ..=>false | .buildSlice ..=>false | .box ..=>false | .alloc ..=>false|_=>true) &&
 (match (ops.getD j default).dst with|some d=>!((ops.getD m default).looksAt ops).contains d|none=>false)
def afT(ops:Array Oper)(m:Nat)(fr:List Nat):Bool :=
 decide (m<ops.size) &&
 (eH ops.size).all (fun i=>(ik (ops.getD i default)).all (·<i) &&
  (if m<=i then(eH i).all (fun j=>((zV ops.toList []).getD i 0).testBit j||(i==m&&fr.contains j))else !sN (ops.getD i default).op)) &&
 ((eH m).all fun i=>(eH m).all fun j=>i==j||ac1 ops (zV ops.toList []) i j) &&
 ((ops.getD m default).guard.isNone&&(ops.getD m default).dst.isNone&&(match (ops.getD m default).op with | .store ..=>true|_=>false)) &&
 (fr.all fun j=>decide (j<m)&&apZ ops m j)
theorem atJ{o:Oper}{L L':St}{b:Nat}{x:aL}(ht:sN o.op=false)(hL:L.heap b=none)(hL':L'.heap b=none)(h:Step P true ops o L L'):Step P true ops o (L.a5 b (some x)) (L'.a5 b (some x)):=by
 have ki:∀(d:Option Tmp) (r:LV),(L.put d r).a5 b (some x)=(L.a5 b (some x)).put d r:=fun d r=>by cases d<;>rfl
 have hG:∀res,cI ops L o res->cI ops (L.a5 b (some x)) o res:=fun res h=>h
 cases h with
 |skip hg h=>exact .skip (hG _ hg) (by rw[h,ki])
 | @val r fr H1 hg hle cJ ho h =>
  have uL:H1 b=none:=by rw[h]at hL';exact hL'
  have aAj:∀{A B:bn},A.le B->A b=none->bn.le (fun c=>if c=b then some x else A c) (fun c=>if c=b then some x else B c):=fun {A B} dt hA c blk hc=>by
   change (if c=b then some x else A c)=some blk at hc;show ∃m,(if c=b then some x else B c)=_/\_;by_cases e:c=b
   ·rw[if_pos e]at hc ⊢
    cases hc
    exact⟨x.mt,rfl,fun h=>h,fun h1 h2=>by rw[h1]at h2;cases h2⟩
   rw[if_neg e]at hc ⊢;exact dt c blk hc
  have afX:H1.le (fun c=>if c=b then some x else H1 c):=fun c blk hc=>by
   have e:c≠b:=fun e=>by subst e;rw[uL]at hc;cases hc
   exact⟨blk.mt,by show (if c=b then _ else _)=_;rw[if_neg e];exact hc,fun h=>h,fun h1 h2=>by rw[h1]at h2;cases h2⟩
  refine .val (r:=r) (fr:=fr) (H1:=fun c=>if c=b then some x else H1 c) (hG _ hg) (aAj hle hL) (fun c blk hc=>?_) (ho.le afX) (by rw[h];cases o.dst<;>rfl);obtain⟨q1,mm,q2,q3⟩:=cJ c blk hc;have e:c≠b:=fun e=>by subst e;rw[uL]at q2;cases q2
  exact⟨by show (if c=b then _ else _)=_;rw[if_neg e];exact q1,mm,by show (if c=b then _ else _)=_;rw[if_neg e];exact q2,q3⟩
 |st hg ho =>
  obtain⟨dst,op,ty,pos,after,g⟩:=o;rw[ho.tail]at ht;cases ht
 |stM ec _ _=>cases ec
theorem azA{m id b:Nat}{fr:List Nat}{x0:aL}{K:St->Prop}{Q:Exit->Act->World->Prop}{L:St}(fI:P.follows .mixedOrders=true)(jg:afT ops m fr=true)(hs:dM n W X Z0 L a w)(hb:L.heap b=some x0)
  (hL:opsL P true ops (ops.toList.take m) (L.a5 b none) (fun Lm=>Lm.heap b=none/\(fr.all fun j=>match (ops.getD j default).dst with|some d=>(Lm.heap (cQ d 1)).isNone|none=>true)=true /\
   (∀om,ops[m]?=some om->∃T p v i o,om.op=.store T p v/\Lm.ev p=.ax b x0.sz i o)/\opsL P true ops (ops.toList.drop m) (Lm.a5 b (some x0)) K))
  (hd:∀o∈ops.toList,∀t,o.dst=some t->t<n) (hq:∀L' a' w',K L'->dM n W X Z0 L' a' w'->Q .normal a' w') :
  (Code.region id ops true).wp P Q a w:=by
 obtain⟨g,g0,gs,gK,gN,gP,gT⟩:=adk _ _ hL;unfold afT at jg;simp only[cY,decide_eq_true_eq,mg,xL]at jg;obtain⟨⟨⟨⟨xj,h1⟩,h2⟩,dL⟩,h3⟩:=jg;have iU:∀i o,ops[i]?=some o->ops.getD i default=o:=fun i o h=>by rw[cU,h];rfl
 have ug:∀i o,ops[i]?=some o->i<ops.size:=fun i o h=>(fY.1 h).1;have hlen:(ops.toList.take m).length=m:=by rw[eE,jI];omega
 rw[hlen]at gK gN gP gT;obtain⟨e,e0,es,eK⟩:=adk _ _ gT;have gs':∀i o,ops[i]?=some o->i<m->Step P true ops o (g i) (g (i+1)):=fun i o h hi=>gs i o (by rw[List.getElem?_take,if_pos hi];simpa using h);have n8:∀i o,ops[i]?=some o->i<m->sN o.op=false:=fun i o h y8=>by
  have:=(h1 i (ug i o h)).2;rw[if_neg aa,iU i o h]at this;simpa using this
 have yy:∀i,i<ops.size->∃o,ops[i]?=some o:=fun i h=>⟨_,nF h⟩;have gle:∀i j,i<=j->j<=m->(g i).heap.le (g j).heap:=by
  intro i j yS
  induction j with
  |zero =>
   intro _;have:i=0:=aa;subst this;exact bn.le_refl _
  |succ j ih =>
   intro ku;by_cases q:i=j+1
   ·subst q;exact bn.le_refl _
   obtain⟨o,ho⟩:=yy j aa;exact bn.le_trans (ih aa aa) (aqK (n8 j o ho aa) (gs' j o ho aa)).1
 have gb:∀i,i<=m->(g i).heap b=none:=fun i hi=>by
  cases hq:(g i).heap b with
  |none=>rfl
  |some blk =>
   obtain⟨mm,q,_⟩:=gle i m hi (bA _) b blk hq;rw[gK]at q;cases q
 let f:Nat->St:=fun i=>if i<=m then(g i).a5 b (some x0)else e (i-m)
 have fm:∀i,i<=m->f i=(g i).a5 b (some x0):=fun i hi=>if_pos hi;have ft:∀i,m<=i->f i=e (i-m):=fun i hi=>by
  show (if i<=m then _ else _)=_;by_cases q:i<=m
  ·have:i=m:=aa;subst this;rw[if_pos q,sS,e0]
  rw[if_neg q]
 have f0:f 0=L:=by
  rw[fm 0 (bJ _),g0];obtain⟨sl,hp⟩:=L;show (⟨sl,fun c=>if c=b then some x0 else(if c=b then none else hp c)⟩:St)=⟨sl,hp⟩;congr 1;funext c;split
  ·rename_i q;subst q;exact hb.symm
  rfl
 have qi:∀i o,ops[i]?=some o->Step P true ops o (f i) (f (i+1)):=fun i o ho=>by
  by_cases gO:i<m
  ·rw[fm i aa,fm (i+1) aa];exact atJ (n8 i o ho gO) (gb i aa) (gb (i+1) aa) (gs' i o ho gO)
  rw[ft i aa,ft (i+1) aa,show i+1-m=i-m+1 by omega];refine es (i-m) o ?_;rw[List.getElem?_drop,show m+(i-m)=i by omega];simpa using ho
 have fK:K (f ops.size):=by
  rw[ft _ aa];rw[oe,jI]at eK;exact eK
 have tA:∀i o,ops[i]?=some o->∀j∈ik o,j<i:=fun i o h j hj=>by
  have:=(h1 i (ug i o h)).1 j (by rw[iU i o h];exact hj);simpa using this
 have yk:=aim ops ops.toList [] (fun i=>by simp) (fun i t h=>by simp at h);have s5:∀i o,ops[i]?=some o->m<=i->∀j,j<i->lh ops j i\/(i=m/\j∈fr):=fun i o h y8 j hj=>by
  have:=(h1 i (ug i o h)).2;rw[if_pos y8]at this;have:=(mg.1 this) j (by simpa using hj);simp only[qt,cY,beq_iff_eq,oO]at this;rcases this with g|g
  ·exact .inl (yk i j (by simpa using g))
  exact .inr g
 have uC:∀i j oi oj d,ops[i]?=some oi->ops[j]?=some oj->i<m->j<m->i≠j->oj.dst=some d->oi.dst≠some d/\(d∈oi.looksAt ops->if j<i then lh ops j i else lh ops i j):=by
  intro i j oi oj d hi hj gO ku aG vw;have:=h2 i gO j ku;simp only[qt,beq_iff_eq]at this;rcases this with h|h
  ·exact absurd h aG
  unfold ac1 at h;rw[iU j oj hj,iU i oi hi,vw]at h;simp only[cY,bne_iff_ne,ne_eq,qt,wa]at h;refine⟨h.1,fun uj=>?_⟩;rcases h.2 with h'|h'
  ·rw[oO.2 uj]at h';cases h'
  split
  ·rename_i bT;rw[if_pos bT]at h';exact yk i j h'
  rename_i bT;rw[if_neg bT]at h';exact yk j i h'
 have ahi:∀om,ops[m]?=some om->om.guard=none/\om.dst=none/\∃T p x,om.op=.store T p x:=fun om gM=>by
  rw[iU m om gM]at dL;refine⟨rT.1 dL.1.1,rT.1 dL.1.2,?_⟩;have:=dL.2;split at this
  ·rename_i T p x q;exact⟨T,p,x,q⟩
  cases this
 have hHm:(g m).heap.le (f (m+1)).heap:=by
  obtain⟨om,gM⟩:=yy m xj;obtain⟨q1,q2,_⟩:=ahi om gM;obtain⟨T,p,v,ii,oo,q3,q4⟩:=gP om gM;have fV:=qi m om gM;rw[fm m (bA _)]at fV;obtain⟨dst,op,ty,pos,after,gd⟩:=om;simp only at q1 q2 q3;subst q1 q2 q3;intro c blk hc;have il:c≠b:=fun q=>by subst q;rw[gK]at hc;cases hc
  cases fV with
  |skip hg h=>cases hg
  |val hg hle cJ jM h =>
   cases jM with
   |pure h=>cases h
   |alloc h=>cases h
   |call h=>cases h
  |st hg oH =>
   generalize hfe:f (m+1)=F at oH ⊢
   cases oH with
   |store hp rb l8 hm hi hy ki hT aG =>
    have e1:(LV.ax _ _ _ _)=LV.ax b x0.sz ii oo:=hp.symm.trans q4
    cases e1
    exact⟨blk.mt,by
     show (if c=b then _ else if c=b then _ else(g m).heap c)=_;rw[if_neg il,if_neg il];exact hc,fun h=>h,fun h1 h2=>by rw[h1]at h2;cases h2⟩
  |stM ec _ _=>cases ec
 refine akj fI hs f0 qi fK aa tA s5 n8 uC ?_ hd hq;intro j o ho hj;have hj3:=h3 j hj;obtain⟨ku,hf⟩:=hj3;unfold apZ at hf;rw[iU j o ho]at hf;simp only[cY,rT]at hf;obtain⟨⟨zI,lr⟩,pV⟩:=hf;refine⟨ku,xj,fun om gM=>?_,zI,.inr (.inr (.inr ⟨fun om gM=>(ahi om gM).2.1,?_⟩))⟩
 ·obtain⟨q1,q2,q3⟩:=ahi om gM;refine⟨q1,.inl ⟨q2,q3⟩,fun d rW=>⟨fun uj=>?_,fun q=>by rw[q2]at q;cases q⟩,fun d rW=>by rw[q2]at rW;cases rW⟩;rw[rW,iU m om gM]at pV;simp only[oO.2 uj]at pV
  cases pV
 have hsj:=gs' j o ho ku;have eC:∀y,(f j).ev y=(g j).ev y:=fun y=>by rw[fm j aa];rfl
 have jc:∀t,(f (j+1)).slot t=(g (j+1)).slot t:=fun t=>by rw[fm (j+1) aa];rfl
 cases hsj with
 |skip hg h=>unfold cI at hg;rw[zI]at hg;cases hg
 | @val r fr' H1 hg hle cJ jM h =>
  have uL:H1=(g (j+1)).heap:=by rw[h]
  have adA:H1.le (f (m+1)).heap:=by rw[uL];exact bn.le_trans (gle (j+1) m aa (bA _)) hHm
  have lV:∀t,o.dst=some t->(f (j+1)).slot t=r:=fun t ht=>by rw[jc,h];simp only[ht];exact(fu _ _ _ _).trans (if_pos rfl)
  refine⟨r,?_,lV⟩;have aAr:(f j).ev=(g j).ev:=funext eC;rw[aAr];have zd:=jM.le adA;obtain⟨dst,op,ty,pos,after,gd⟩:=o;simp only at lr zd jM cJ
  cases zd with
  |pure h=>exact .pure h
  |alloc h=>cases h<;>cases lr
  | @call bs h =>
   cases bs with
   |nil=>exact .call h
   |cons x bs =>
    exfalso;obtain⟨_,mm,q2,_⟩:=cJ (cQ (dst.getD 0) 1) x az;have rH:=mg.1 gN j hj;rw[iU j _ ho]at rH;simp only at rH;rw[uL]at q2;obtain⟨_,q4,_⟩:=gle (j+1) m aa (bA _) _ _ q2
    cases dst with
    |none=>simp at pV
    |some d =>
     simp only[vS]at q4;change ((g m).heap (cQ d 1)).isNone=true at rH;rw[q4]at rH;cases rH
 |st hg ho2 =>
  have:=n8 j o ho ku;obtain⟨dst,op,ty,pos,after,gd⟩:=o;rw[ho2.tail]at this;cases this
 |stM ec _ _=>cases ec
def iq(P:Program)(ops:Array Oper):Nat->Array Bool->St->(St->Prop)->Prop
 |0,D,L,K=>Region.ready .any ops D=[]/\K L
 |fuel+1,D,L,K=>(Region.ready .any ops D=[]->K L)/\∀i∈Region.ready .any ops D,∃o L',ops[i]?=some o/\Step P false ops o L L'/\iq P ops fuel (D.setIfInBounds i true) L' K
theorem aiQ{K K':St->Prop}(hk:∀L,K L->K' L):∀(fuel:Nat) (D:Array Bool) (L:St),iq P ops fuel D L K->iq P ops fuel D L K'
 |0,D,L,h=>⟨h.1,hk L h.2⟩
 |fuel+1,D,L,h=>⟨fun e=>hk L (h.1 e),fun i hi=>by obtain⟨o,L',h1,h2,h3⟩:=h.2 i hi;exact⟨o,L',h1,h2,aiQ hk fuel _ L' h3⟩⟩
theorem dM.drew{L:St}{w':World}(hs:dM n W X Z0 L a w)(hh:w'.heap=w.heap)(h1:w'.os=w.os)(h2:w'.tape=w.tape)(h3:w'.output=w.output):dM n W X Z0 L a w':=by
 obtain⟨cZ,a6,μ,Z,hc,hr⟩:=hs;have cJ:Frame Z μ w w':=⟨fun _ _=>by rw[hh],fun _ id _ c _ _ h=>⟨c,by rw[hh];exact h,rfl⟩⟩;refine⟨cZ,a6,μ,Z,⟨⟨h1.trans hc.bB.os,h2.trans hc.bB.tape,h3.trans hc.bB.output,by rw[hh];exact hc.bB.size,by rw[hh];exact hc.bB.block,by rw[hh];exact hc.bB.qm⟩,by rw[hh];exact hc.iD,hc.fZ,hc.g9,
  hc.inj,hc.own,hc.x0,hc.kQ,hc.x1,hc.gL,hc.bo,fun b id hb=>?_⟩,fun t=>(hr t).mono (fun _ h=>h) (fun _ _ h=>h) cJ⟩
 obtain⟨blk,g1,g2⟩:=hc.heap b id hb;exact⟨blk,g1,g2.mono (fun _ h=>h) (fun _ _ h=>h) cJ (by rw[hh])⟩
theorem ajc{K:St->Prop}{Q:Exit->Act->World->Prop}(hd:∀o∈ops.toList,∀t,o.dst=some t->t<n)(hq:∀L' a' w',K L'->dM n W X Z0 L' a' w'->Q .normal a' w'):
  ∀(fuel:Nat) (D:Array Bool) (L:St) (a:Act) (w:World),dM n W X Z0 L a w->iq P ops fuel D L K->wpAny P .any ops Q fuel D a w
 |0,D,L,a,w,hs,h=>⟨h.1,hq L a w h.2 hs⟩
 |fuel+1,D,L,a,w,hs,h=>by
   refine⟨fun e=>hq L a w (h.1 e) hs,fun i hi=>?_⟩;obtain⟨o,L',h1,h2,h3⟩:=h.2 i hi;unfold wpOp;rw[h1];simp only;have:=yD (Q:=Q) (K:=wpAny P .any ops Q fuel (D.setIfInBounds i true)) hs h2 (hd o (by rw[abG];exact aqm h1)) (fun a' w' ji=>ajc hd hq fuel _ L' a' w' ji h3);split
   ·rename_i hw;rw[if_pos hw]at this;exact .inl this
   rename_i hw;rw[if_neg hw]at this;exact this
theorem avI{id:Nat}{K:St->Prop}{Q:Exit->Act->World->Prop}{L:St}(fI:P.follows .mixedOrders=true)(hs:dM n W X Z0 L a w)
  (hL:iq P ops ops.size (nD ops.size false) L K) (hd:∀o∈ops.toList,∀t,o.dst=some t->t<n) (hq:∀L' a' w',K L'->dM n W X Z0 L' a' w'->Q .normal a' w') :
  (Code.region id ops true).wp P Q a w :=
 wp_region_any fI (ajc hd hq _ _ L a _ (hs.drew rfl rfl rfl rfl) hL)
end
section
variable {P:Program} {ops:Array Oper}
theorem tk{D:Array Bool}{i:Nat}(h:i<D.size)(a b:Bool):D.getD i a=D.getD i b:=by
 rw[cU,cU,nF h];rfl
end
end Go.Lg
namespace Go.Lg
inductive gI where
 |normal
 |exit (id:Nat)
 |ret
def lq(K:St->Prop)(Q:gI->St->Prop):gI->St->Prop
 | .normal,L=>K L
 |e,L=>Q e L
def nJ(id:Nat)(Q:gI->St->Prop):gI->St->Prop
 | .exit i,L=>if i=id then Q .normal L else Q (.exit i) L
 |e,L=>Q e L
def ig(n:Nat):Code->Bool
 | .region _ ops _=>ops.toList.all fun o=>match o.dst with|some t=>decide (t<n)|none=>true
 | .seq x y=>ig n x&&ig n y
 | .cond _ x y=>ig n x&&ig n y
 | .block _ c=>ig n c
 | .loop c=>ig n c
 |_=>true
def yF(n:Nat)(W:World)(X:XS)(Z0:Nat->Prop)(Q:gI->St->Prop):Exit->Act->World->Prop
 | .normal,a,w=>∃L,Q .normal L/\dM n W X Z0 L a w
 | .exit id,a,w=>∃L,Q (.exit id) L/\dM n W X Z0 L a w
 | .ret,a,w=>∃L,Q .ret L/\dM n W X Z0 L a w
 |_,_,_=>False
def bM(P:Program):Code->(gI->St->Prop)->St->Prop
 | .skip,Q,L=>Q .normal L
 | .region _ ops d,Q,L=>∃L0,av L L0/\(((d=true->∃m fr,yf ops m fr=true)/\opsL P d ops ops.toList L0 (Q .normal))\/(d=true/\iq P ops ops.size (nD ops.size false) L0 (Q .normal)) \/
   ∀n W X Z0 a w,dM n W X Z0 L0 a w->ig n (.region 0 ops d)=true->∀id,(Code.region id ops d).wp P (yF n W X Z0 Q) a w)
 | .seq x y,Q,L=>bM P x (lq (bM P y Q) Q) L
 | .cond c x y,Q,L=>∃t,L.ev c=.v (.bool t)/\(t=true->bM P x Q L)/\(t=false->bM P y Q L)
 | .block id c,Q,L=>bM P c (nJ id Q) L
 | .loop c,Q,L=>∀I:St->Prop,(∀L,bM P c (lq (fun L'=>∃L'',av L' L''/\I L'') Q) L->I L)->∃L0,av L L0/\I L0
 | .exit id,Q,L=>Q (.exit id) L
 | .ret,Q,L=>Q .ret L
 |_,_,_=>False
section
variable {P:Program} {W w w':World} {X:XS} {Z0 Z:Nat->Prop} {μ:Nat->Option Nat} {H:bn} {a:Act} {L L':St} {n:Nat}
def ac0(P:Program)(c:Code)(Q:Exit->Act->World->Prop)(a:Act)(w:World):Prop :=
 ∀b k cs,∃e a' w',Q e a' w'/\Arrives P (lone (b.at a (.code c::.inLoop c::k)) cs w) b k cs e a' w'
theorem atX{c:Code}{Q:Exit->Act->World->Prop}{a:Act}{w:World}(h:c.wp P (Exit.then (ac0 P c Q) Q) a w):ac0 P c Q a w:=by
 intro b k cs;obtain⟨e,aaU,aaS,hq,wB⟩:=h b (.inLoop c::k) cs
 cases e with
 |normal =>
  obtain⟨aAS,aBb,azm,awu,aAR⟩:=hq b k cs;exact⟨aAS,aBb,azm,awu,.of_steps (Steps.trans wB (.one step_inLoop)) aAR⟩
 |exit id=>exact⟨_,aaU,aaS,hq,.pass (x:=.inLoop c) rfl (fun _ _=>.inl az) wB⟩
 |goto l=>exact⟨_,aaU,aaS,hq,.pass (x:=.inLoop c) rfl (fun _ _=>.inl az) wB⟩
 |ret=>exact⟨_,aaU,aaS,hq,.pass (x:=.inLoop c) rfl (fun _ _=>.inl az) wB⟩
 |panic ch=>exact⟨_,aaU,aaS,hq,.pass (x:=.inLoop c) rfl (fun _ _=>.inl az) wB⟩
 |outgrown=>exact⟨_,aaU,aaS,hq,.pass (x:=.inLoop c) rfl (fun _ _=>.inl az) wB⟩
theorem azr{c:Code}{Q:Exit->Act->World->Prop}{a:Act}{w:World}(h:ac0 P c Q a w):(Code.loop c).wp P Q a w:=by
 intro b k cs;obtain⟨e,a',w',hq,wB⟩:=h b k cs;exact⟨e,a',w',hq,.of_steps (.one step_loop) wB⟩
theorem uH(fI:P.follows .mixedOrders=true):∀(c:Code) (Q:gI->St->Prop) (L:St) (a:Act) (w:World),dM n W X Z0 L a w->bM P c Q L->ig n c=true ->
  c.wp P (yF n W X Z0 Q) a w
 | .skip,Q,L,a,w,hs,h,_=>wp_skip ⟨L,h,hs⟩
 | .region id ops d,Q,L,a,w,hs,h,hd=>by
   obtain⟨L0,hw,hdL⟩:=h;have eJ:∀o∈ops.toList,∀t,o.dst=some t->t<n:=fun o ho t ht=>by
    simp only[ig,mg]at hd;have:=hd o ho;rw[ht]at this;simpa using this
   rcases hdL with⟨ec,hL⟩|⟨rfl,hL⟩|hL
   case inr.inr=>exact hL _ _ _ _ _ _ (hw _ _ _ _ _ _ hs) hd id
   case inr.inl=>exact avI fI (hw _ _ _ _ _ _ hs) hL eJ (fun L' a' w' hk ji=>⟨L',hk,ji⟩)
   cases d with
   |true =>
    obtain⟨m,_,hm⟩:=ec rfl;exact avG fI hm (hw _ _ _ _ _ _ hs) hL eJ (fun L' a' w' hk ji=>⟨L',hk,ji⟩)
   |false=>exact wp_region_list (amT _ _ _ _ (hw _ _ _ _ _ _ hs) hL eJ (fun L' a' w' hk ji=>⟨L',hk,ji⟩))
 | .seq x y,Q,L,a,w,hs,h,hd=>by
   simp only[ig,cY]at hd;refine wp_seq (wp_mono (uH fI x _ L a w hs h hd.1) fun e a' w' q=>?_)
   cases e with
   |normal=>obtain⟨L',q1,q2⟩:=q;exact uH fI y Q L' a' w' q2 q1 hd.2
   |exit id=>exact q
   |ret=>exact q
   |_=>exact q.elim
 | .cond c x y,Q,L,a,w,hs,h,hd=>by
   simp only[ig,cY]at hd;obtain⟨t,h1,h2,h3⟩:=h;have hc:a.eval c=.bool t:=by
    obtain⟨_,_,μ,Z,hc,hr⟩:=hs;have:=fS (L:=L) hr c;rw[h1]at this;exact this.cV
   exact wp_cond_split hc (fun e=>uH fI x Q L a w hs (h2 e) hd.1) (fun e=>uH fI y Q L a w hs (h3 e) hd.2)
 | .block id c,Q,L,a,w,hs,h,hd=>by
   refine wp_block (wp_mono (uH fI c _ L a w hs h hd) fun e a' w' q=>?_)
   cases e with
   |normal=>exact q
   |exit i =>
    obtain⟨L',q1,q2⟩:=q;simp only[nJ]at q1;simp only[Exit.inBlock];split
    ·rename_i e;rw[if_pos e]at q1;exact⟨L',q1,q2⟩
    rename_i e;rw[if_neg e]at q1;exact⟨L',q1,q2⟩
   |ret=>exact q
   |_=>exact q.elim
 | .loop c,Q,L,a,w,hs,h,hd=>by
   obtain⟨L0,hw,h0⟩:=h (fun L=>∀a w,dM n W X Z0 L a w->ac0 P c (yF n W X Z0 Q) a w) (fun L hL a w hs=>by
    refine atX (wp_mono (uH fI c _ L a w hs hL hd) fun e a' w' q=>?_)
    cases e with
    |normal =>
     obtain⟨L',⟨L'',k1,k2⟩,k4⟩:=q;exact k2 _ _ (k1 _ _ _ _ _ _ k4)
    |exit id=>exact q
    |ret=>exact q
    |_=>exact q.elim)
   exact azr (h0 a w (hw _ _ _ _ _ _ hs))
 | .exit id,Q,L,a,w,hs,h,_=>wp_exit ⟨L,h,hs⟩
 | .ret,Q,L,a,w,hs,h,_=>wp_ret ⟨L,h,hs⟩
 | .rangeFunc ..,_,_,_,_,_,h,_=>h.elim
 | .scope _,_,_,_,_,_,h,_=>h.elim
 | .label _,_,_,_,_,_,h,_=>h.elim
 | .goto _,_,_,_,_,_,h,_=>h.elim
 | .refuse _,_,_,_,_,_,h,_=>h.elim
end
def aiq(P:Program)(L:St):ResultVar->LV->Prop
 | .tmp t,x=>L.slot t=x
 | .cell a T,x=>∃b sz i o blk y n ag,L.slot a=.ax b sz i o/\L.heap b=some blk/\blk.sz=sz/\blk.vals[i]?=some y/\y.aj=sz/\y.at o n ag=some x/\aX P T n ag
inductive wV (P:Program) (L:St):List ResultVar->List LV->Prop
 |nil:wV P L [] []
 |cons {v x vs xs} (h:aiq P L v x) (t:wV P L vs xs):wV P L (v::vs) (x::xs)
inductive s6 (H:bn) (own:List Nat):LV->LV->Prop
 |cC {x y} (h:bR H x y):s6 H own x y
 |ref {b sz off len k} (hk:own[k]?=some b):s6 H own (.ref b sz off len) (.ref (k+1) sz off len)
 |ptr {b sz i o k} (hk:own[k]?=some b):s6 H own (.ax b sz i o) (.ax (k+1) sz i o)
 |net {x y x' y' b sz off len k} (h1:bR H x x') (h2:bR H y y') (hk:own[k]?=some b):s6 H own (.agg [x,y,.ref b sz off len]) (.agg [x',y',.ref (k+1) sz off len])
 |bx3 {x x' b1 s1 o1 l1 k1 b2 s2 o2 l2 k2 b3 s3 o3 l3 k3} (hx:bR H x x') (h1:own[k1]?=some b1) (h2:own[k2]?=some b2) (h3:own[k3]?=some b3) :
   s6 H own (.agg [.ref b1 s1 o1 l1,.ref b2 s2 o2 l2,x,.ref b3 s3 o3 l3]) (.agg [.ref (k1+1) s1 o1 l1,.ref (k2+1) s2 o2 l2,x',.ref (k3+1) s3 o3 l3])
inductive abc (H:bn) (own:List Nat):List LV->List LV->Prop
 |nil:abc H own [] []
 |cons {x y xs ys} (h:s6 H own x y) (t:abc H own xs ys):abc H own (x::xs) (y::ys)
def ajX:List LV->LV
 | [y]=>y
 |ys=>.aQ ys
def mH(P:Program)(rs:List ResultVar)(L:St)(r:LV)(bs:List aL):Prop :=
 ∃(xs ys:List LV) (H1:bn) (own:List Nat),wV P L rs xs/\L.heap.le H1/\abc H1 own xs ys/\own.Nodup/\own.length=bs.length /\
  (∀(k b:Nat),own[k]?=some b->∃blk:aL,H1 b=some blk/\bs[k]?=some blk/\aN blk.vals=true)/\r=ajX ys
def tU(args:List LV):St:=⟨fun t=>args.getD t .any,fun _=>none⟩
section
variable {P:Program} {W w w':World} {X:XS} {Z0 Z:Nat->Prop} {μ:Nat->Option Nat} {H:bn} {a:Act} {L L':St} {n:Nat}
def vL(tmps:Array Value)(v:ResultVar):Sem Value :=
 match v with
 | .tmp t=>pure (tmps.getD t undef)
 | .cell p T=>do loadVar T (<-asAddr (tmps.getD p undef))
theorem afs(fn:Func)(tmps:Array Value):results fn tmps=(do let vs <-fn.results.mapM (vL tmps);pure (if h:vs.size=1 then vs[0]else .tuple vs)):=by
 rfl
theorem amx{v:ResultVar}{x:LV}(hc:Core W X Z0 μ Z L.heap w)(hr:∀t,aC Z μ w (L.slot t) (a.tmps.getD t undef))(h:aiq P L v x)(hx:x≠.any/\∀l,x≠.aQ l):
  ∃u,(vL a.tmps v).run P w=.ok u w/\dD Z μ w x u:=by
 cases v with
 |tmp t =>
  simp only[aiq]at h;have:=hr t;rw[h]at this;exact⟨_,rfl,aC.qY hx.2 hx.1 this⟩
 |cell p T =>
  obtain⟨b,sz,i,o,blk,y,m,ag,h1,h2,h3,h4,h5,h6,h7⟩:=h;have e1:=hr p;rw[h1]at e1;have hl:aq P L.heap L.ev (.load T (.tmp p)) x:=.eP (b:=b) (sz:=sz) h1 h2 h3 h4 h5 h6 h7;obtain⟨u,r1,r2⟩:=hl.sound (a:=a) (fun y hy=>fS (L:=L) hr y) hc.heap none 0 "" #[] none;have e2:=e1.2 rfl;simp only[ao]at e2;obtain⟨id,q1,q2⟩:=e2;simp only[dq,and_true]at q1;have eC:a.eval (.tmp p)=a.tmps.getD p undef:=rfl;refine⟨u,?_,aC.qY hx.2 hx.1 r2⟩;simp only[execOp,eC,q1,Instr.loadAt,Instr.sureAddr,Sem.run_bind,Sem.run_pure,Result.andThen_ok]at r1;simp only[vL,q1,asAddr,Sem.run_bind,Sem.run_pure,Result.andThen_ok]
  cases hq:(loadVar T ⟨id,i*sz+o,none⟩).run P w with
  |ok v' w'' =>
   rw[hq]at r1;simp only[Result.andThen_ok,Result.ok.injEq,Next.value.injEq]at r1;rw[r1.1,r1.2]
  |halt x' w''=>rw[hq]at r1;simp at r1
theorem s6.ne{own:List Nat}{x y:LV}(h:s6 H own x y):x≠.any/\∀l,x≠.aQ l:=by
 cases h with
 |cC h=>exact h.ne
 |ref _=>exact⟨by simp,by simp⟩
 |ptr _=>exact⟨by simp,by simp⟩
 |net _ _ _=>exact⟨by simp,by simp⟩
 |bx3 _ _ _ _=>exact⟨by simp,by simp⟩
def qz(μ:Nat->Option Nat)(own:List Nat):Nat->Option Nat:=fun k=>if k=0 then none else(own[k-1]?).bind μ
theorem s6.sound{own:List Nat}{x y:LV}{u:Value}(hc:Core W X Z0 μ Z H w)(h:s6 H own x y)(hu:dD Z μ w x u):dD Z (qz μ own) w y u:=by
 cases h with
 |cC h=>exact bR.aaK hc h (aC.nZ h.ne.2 hu)
 | @ref b sz off len k hk =>
  have:=hu.2 rfl;refine⟨by simp[LV.isAgg],fun _=>?_⟩;simp only[ao]at this ⊢;rcases this with h|⟨id,cap,c,T,fz,h1,h2,h3⟩
  ·exact lp
  exact .inr ⟨id,cap,c,T,fz,h1,by simp[qz,hk,h2],h3⟩
 | @ptr b sz i o k hk =>
  have:=hu.2 rfl;refine⟨by simp[LV.isAgg],fun _=>?_⟩;simp only[ao]at this ⊢;obtain⟨id,h1,h2⟩:=this;exact⟨id,h1,by simp[qz,hk,h2]⟩
 | @net x y x' y' b sz off len k hx hy hk =>
  obtain⟨cs,rfl,hr⟩:=hu.1 rfl;refine⟨fun _=>⟨cs,rfl,?_⟩,by simp[LV.isAgg]⟩;simp only[ao,a8]at hr ⊢;obtain⟨c1,d1,e1,l1,r1,c2,d2,e2,l2,r2,c3,d3,e3,l3,r3,r4⟩:=hr;refine⟨c1,d1,e1,by rw[l1,hx.lay.2.1],bR.sound hc hx r1,c2,d2,e2,by rw[l2,hy.lay.2.1],bR.sound hc hy r2,c3,d3,e3,l3,?_,r4⟩;rcases r3 with h|⟨id,cap,c,T,fz,h1,h2,h3⟩
  ·exact lp
  exact .inr ⟨id,cap,c,T,fz,h1,by simp[qz,hk,h2],h3⟩
 | @bx3 x x' b1 s1 o1 l1 k1 b2 s2 o2 l2 k2 b3 s3 o3 l3 k3 hx pT eQ hk3 =>
  obtain⟨cs,rfl,hr⟩:=hu.1 rfl;refine⟨fun _=>⟨cs,rfl,?_⟩,by simp[LV.isAgg]⟩;simp only[ao,a8]at hr ⊢;obtain⟨c1,d1,e1,m1,r1,c2,d2,e2,m2,r2,c3,d3,e3,m3,r3,c4,d4,e4,m4,r4,r5⟩:=hr;refine⟨c1,d1,e1,m1,?_,c2,d2,e2,m2,?_,c3,d3,e3,by rw[m3,hx.lay.2.1],bR.sound hc hx r3,c4,d4,e4,m4,?_,r5⟩
  ·rcases r1 with h|⟨id,cap,c,T,fz,h1,h2,h3⟩
   ·exact lp
   exact .inr ⟨id,cap,c,T,fz,h1,by simp[qz,pT,h2],h3⟩
  ·rcases r2 with h|⟨id,cap,c,T,fz,h1,h2,h3⟩
   ·exact lp
   exact .inr ⟨id,cap,c,T,fz,h1,by simp[qz,eQ,h2],h3⟩
  rcases r4 with h|⟨id,cap,c,T,fz,h1,h2,h3⟩
  ·exact lp
  exact .inr ⟨id,cap,c,T,fz,h1,by simp[qz,hk3,h2],h3⟩
theorem akv{own:List Nat}(hc:Core W X Z0 μ Z L.heap w)(hr:∀t,aC Z μ w (L.slot t) (a.tmps.getD t undef)){Z1:Nat->Prop}{H1:bn}(rv:Core W X Z0 μ Z1 H1 w)(hz:∀id,Z id->Z1 id):
  ∀(rs:List ResultVar) (xs ys:List LV),wV P L rs xs->abc H1 own xs ys ->
  ∃us,(rs.mapM (vL a.tmps)).run P w=.ok us w/\dQ Z1 (qz μ own) w ys us
 |_,_,_,.nil,.nil=>⟨[],rfl,rfl⟩
 |_,_,_,.cons (vs:=vs) (xs:=xs) h t,.cons (ys:=ys) h' t'=>by
   obtain⟨u,q1,q2⟩:=amx hc hr h h'.ne;obtain⟨us,q3,q4⟩:=akv hc hr rv hz _ _ _ t t';refine⟨u::us,?_,u,us,rfl,h'.sound rv (q2.mono hz (fun _ _ h=>h) ⟨fun _ _=>rfl,(Frame.refl Z μ w).m⟩),q4⟩;rw[ao6,Sem.run_bind,q1];simp only[Result.andThen_ok,Sem.run_bind,q3,Sem.run_pure]
theorem aeE:∀(args:List LV) (vs us:List Value),dQ Z μ w args vs->∀t,aC Z μ w ((tU args).slot t) ((vs++us).toArray.getD t undef)
 | [],_,us,h,t=>by simp only[tU,List.getD_nil];trivial
 |x::xs,_,us,⟨v,gV,e,h1,h2⟩,t=>by
   subst e
   cases t with
   |zero =>
    have:∀l,x≠.aQ l:=fun l e=>by subst e;have:=h1.2 rfl;simp[ao]at this
    simpa[tU]using aC.nZ this h1
   |succ t =>
    have:=aeE xs gV us h2 t;simpa[tU]using this
theorem xA:∀(args:List LV) (vs:List Value),dQ Z μ w args vs->vs.length=args.length
 | [],_,h=>by cases h;rfl
 |_::xs,_,⟨v,gV,e,_,h2⟩=>by subst e;simp[xA xs gV h2]
theorem arj{f:FuncId}{fn:Func}{c:Code}{args:List LV}{r:LV}{bs:List aL}(fI:P.follows .mixedOrders=true)(hf:P.funcs[f]?=some fn)(hb:fn.body=some c)
  (hn:(fn.name== "runtime.NumGoroutine")=false) (hd:ig fn.ntmps c=true) (hlen:args.length<=fn.ntmps)
  (h:bM P c (fun e L=>match e with | .exit _=>False|_=>mH P fn.results.toList L r bs) (tU args)):ke P f args r bs:=by
 refine⟨⟨fn,hf,by rw[hb];rfl,hn⟩,fun W Z0 vs hz hargs=>?_⟩;have rD:=xA _ _ hargs;refine calls_of_wp hf hb ?_;have kR:dM fn.ntmps W XS.no Z0 (tU args) ⟨vs.toArray++nD (fn.ntmps-vs.toArray.size) undef,[]⟩ W:=by
  have fw:∀{p:Prop} (b id:Nat),(fun _:Nat=>(none:Option Nat)) b=some id->p:=fun b id h=>by cases h
  refine⟨rfl,by simp;omega,fun _=>none,Z0,⟨Kept.refl _ _,hz,fun _ h=>h,fun _ h=>.inl h,fun b _ id h _=>fw b id h,fun b id h=>fw b id h,fun b id h _=>fw b id h,fun _ h=>(XS.xo h).elim,fun _ h=>False.elim h,
   fun b id _ h _ _=>fw b id h,fun b id _ h _ _=>fw b id h,fun b id h=>fw b id h⟩,fun t=>?_⟩
  have e:vs.toArray++nD (fn.ntmps-vs.toArray.size) undef=(vs++aJ (fn.ntmps-vs.toArray.size) undef).toArray:=by apply tv;simp
  show aC Z0 (fun _=>none) W ((tU args).slot t) ((vs.toArray++nD (fn.ntmps-vs.toArray.size) undef).getD t undef);rw[e];exact aeE (Z:=Z0) (μ:=fun _=>none) (w:=W) args vs _ hargs t
 refine wp_mono (uH fI c _ _ _ _ kR h hd) fun e a w q=>?_;have main:∀L,mH P fn.results.toList L r bs->dM fn.ntmps W XS.no Z0 L a w ->
   a.defers=[]/\∃v,(results fn a.tmps).run P w=.ok v w/\∃v' μ Z,Ending.returned v=.returned v'/\Core W XS.no Z0 μ Z (nV bs) w/\aC Z μ w r v':=by
  rintro L ⟨xs,ys,H1,own,h1,h2,h3,h4,h5,h6,h7⟩ ⟨cZ,a6,μ,Z,hc,hr⟩;obtain⟨Z1,k1,k2⟩:=hc.tq h2;obtain⟨us,q1,q2⟩:=akv hc hr k1 k2 _ _ _ h1 h3;have hinv:∀k id,qz μ own k=some id->∃b,k≠0/\own[k-1]?=some b/\μ b=some id:=fun k id hk=>by
   unfold qz at hk;split at hk
   ·cases hk
   rename_i h0;rw[Option.bind_eq_some_iff]at hk;obtain⟨b,g1,g2⟩:=hk;exact⟨b,h0,g1,g2⟩
  have ahw:∀k b,k≠0->own[k-1]?=some b->∃blk,H1 b=some blk/\nV bs k=some blk/\aN blk.vals=true:=fun k b h0 hb=>by
   obtain⟨blk,g1,g2,g3⟩:=h6 _ b hb;exact⟨blk,g1,by simp[nV,h0,g2],g3⟩
  have abT:Core W XS.no Z0 (qz μ own) Z1 (nV bs) w:=by
   refine⟨k1.bB,k1.iD,k1.fZ,k1.g9,?_,?_,fun _ _ _ h=>h.elim,fun _ h=>(XS.xo h).elim,fun _ h=>h.elim,?_,?_,?_⟩
   ·intro k k' id hk jG;obtain⟨b,g0,g1,g2⟩:=hinv k id hk;obtain⟨b',g0',g1',g2'⟩:=hinv k' id jG;have:=k1.inj b b' id g2 g2';subst this;obtain⟨l1,e1⟩:=lg.1 g1;obtain⟨l2,e2⟩:=lg.1 g1';have hp:=List.pairwise_iff_getElem.1 h4;rcases Nat.lt_trichotomy (k-1) (k'-1)with h|h|h
    ·exact absurd (e1.trans e2.symm) (hp _ _ l1 l2 h)
    ·omega
    exact absurd (e2.trans e1.symm) (hp _ _ l2 l1 h)
   ·intro k id hk;obtain⟨b,g0,g1,g2⟩:=hinv k id hk;exact k1.own b id g2
   ·intro k id blk hk hb hm;obtain⟨b,g0,g1,g2⟩:=hinv k id hk;obtain⟨blk',j1,j2,_⟩:=ahw k b g0 g1;rw[hb]at j2;cases j2;exact k1.gL b id blk g2 j1 hm
   ·intro k id blk hk hb hm;obtain⟨b,g0,g1,g2⟩:=hinv k id hk;obtain⟨blk',j1,j2,_⟩:=ahw k b g0 g1;rw[hb]at j2;cases j2;exact k1.bo b id blk g2 j1 hm
   intro k id hk;obtain⟨b,g0,g1,g2⟩:=hinv k id hk;obtain⟨blk',j1,j2,j3⟩:=ahw k b g0 g1;obtain⟨bk,l1,cc,T,part,rest,l2,l3,l4⟩:=k1.heap b id g2;rw[j1]at l1;cases l1;exact⟨_,j2,cc,T,part,rest,l2,l3,aw.fE (fun _ h=>h) (fun _ _=>rfl) _ _ _ j3 l4⟩
  have lV:(fn.results.mapM (vL a.tmps)).run P w=.ok us.toArray w:=by
   rw[apL,Sem.run_map,q1];rfl
  refine⟨cZ,(if h:us.toArray.size=1 then us.toArray[0]else .tuple us.toArray),?_,_,qz μ own,Z1,rfl,abT,?_⟩
  ·rw[afs,Sem.run_bind,lV];rfl
  subst h7;have tO:=xA _ _ q2
  match ys,us,q2,tO with
  | [y],[u],q2,_ =>
   obtain⟨v,gV,e,g1,g2⟩:=q2;simp only[dq]at e;obtain⟨rfl,_⟩:=e;have hnt:∀l,y≠.aQ l:=fun l e=>by subst e;have:=g1.2 rfl;simp[ao]at this
   exact aC.nZ hnt g1
  | [],[],q2,_=>exact⟨_,rfl,by simpa using q2⟩
  |y::y'::ys,u::u'::us,q2,_ =>
   refine⟨(u::u'::us).toArray,by simp,by simpa using q2⟩
 cases e with
 |normal=>obtain⟨L,q1,q2⟩:=q;exact main L q1 q2
 |ret=>obtain⟨L,q1,q2⟩:=q;exact main L q1 q2
 |exit id=>obtain⟨L,q1,q2⟩:=q;exact q1.elim
 |_=>exact q.elim
def sK(args:List LV)(blk:aL):St:=⟨fun t=>args.getD t .any,fun n=>if n=0 then some blk else none⟩
def qX(P:Program)(rs:List ResultVar)(L:St)(r:LV)(blk':aL):Prop :=
 ∃(xs ys:List LV) (H1:bn),wV P L rs xs/\L.heap.le H1/\p9 H1 0 xs ys/\H1 0=some blk'/\blk'.mt=true/\aN blk'.vals=true/\r=ajX ys
theorem age{i0:Nat}(hc:Core W X Z0 μ Z L.heap w)(hr:∀t,aC Z μ w (L.slot t) (a.tmps.getD t undef)){Z1:Nat->Prop}{H1:bn}(rv:Core W X Z0 μ Z1 H1 w)(hz:∀id,Z id->Z1 id)(h0:μ 0=some i0):
  ∀(rs:List ResultVar) (xs ys:List LV),wV P L rs xs->p9 H1 0 xs ys ->
  ∃us,(rs.mapM (vL a.tmps)).run P w=.ok us w/\dQ Z1 (jr i0) w ys us
 |_,_,_,.nil,.nil=>⟨[],rfl,rfl⟩
 |_,_,_,.cons (vs:=vs) (xs:=xs) h t,.cons (ys:=ys) h' t'=>by
   obtain⟨u,q1,q2⟩:=amx hc hr h h'.ne;obtain⟨us,q3,q4⟩:=age hc hr rv hz h0 _ _ _ t t';refine⟨u::us,?_,u,us,rfl,h'.sound rv h0 (aC.nZ h'.ne.2 (q2.mono hz (fun _ _ h=>h) ⟨fun _ _=>rfl,(Frame.refl Z μ w).m⟩)),q4⟩;rw[ao6,Sem.run_bind,q1];simp only[Result.andThen_ok,Sem.run_bind,q3,Sem.run_pure]
theorem ax3{f:FuncId}{fn:Func}{c:Code}{args:List LV}{r:LV}{blk blk':aL}(fI:P.follows .mixedOrders=true)(hf:P.funcs[f]?=some fn)(hb:fn.body=some c)
  (hn:(fn.name== "runtime.NumGoroutine")=false) (hd:ig fn.ntmps c=true) (hlen:args.length<=fn.ntmps) (dW:blk.mt=true)
  (h:bM P c (fun e L=>match e with | .exit _=>False|_=>qX P fn.results.toList L r blk') (sK args blk)):jt P f blk args r blk':=by
 refine⟨⟨fn,hf,by rw[hb];rfl,hn⟩,fun W Z0 vs i0 hz km iC hargs=>?_⟩;have rD:=xA _ _ hargs;refine calls_of_wp hf hb ?_;have dE:∀b id,jr i0 b=some id->b=0/\id=i0:=fun b id h=>by
  unfold jr at h;split at h
  ·cases h;exact⟨by assumption,rfl⟩
  cases h
 have bT:i0<W.heap.size:=by
  obtain⟨c,T,part,rest,h1,_⟩:=iC;exact(fY.1 h1).1
 have kR:dM fn.ntmps W (XS.one i0) Z0 (sK args blk) ⟨vs.toArray++nD (fn.ntmps-vs.toArray.size) undef,[]⟩ W:=by
  refine⟨rfl,by simp;omega,jr i0,Z0,⟨Kept.refl _ _,hz,fun _ h=>h,fun _ h=>.inl h,fun b b' id h h'=>(dE b id h).1.trans (dE b' id h').1.symm,fun b id h=>.inr (.inl (dE b id h).2),
   fun b id h _=>(dE b id h).1,fun id h=>by rw[XS.aik h];exact bT,fun id h=>by rw[show id=i0 from h];rfl,fun b id bk h _ _=>by rw[(dE b id h).2];exact km,
   fun b id bk h g hm=>?_,fun b id h=>?_⟩,fun t=>?_⟩
  ·obtain⟨rfl,rfl⟩:=dE b id h;simp only[sK,if_true]at g;cases g;rw[dW]at hm;cases hm
  ·obtain⟨rfl,rfl⟩:=dE b id h;exact⟨blk,rfl,iC⟩
  have e:vs.toArray++nD (fn.ntmps-vs.toArray.size) undef=(vs++aJ (fn.ntmps-vs.toArray.size) undef).toArray:=by apply tv;simp
  show aC Z0 (jr i0) W ((tU args).slot t) ((vs.toArray++nD (fn.ntmps-vs.toArray.size) undef).getD t undef);rw[e];exact aeE args vs _ hargs t
 refine wp_mono (uH fI c _ _ _ _ kR h hd) fun e a w q=>?_;have main:∀L,qX P fn.results.toList L r blk'->dM fn.ntmps W (XS.one i0) Z0 L a w ->
   a.defers=[]/\∃v,(results fn a.tmps).run P w=.ok v w/\∃v' μ Z,Ending.returned v=.returned v'/\Core W (XS.one i0) Z0 μ Z (re blk') w/\aC Z μ w r v':=by
  rintro L ⟨xs,ys,H1,h1,h2,h3,h4,h5,h6,h7⟩ ⟨cZ,a6,μ,Z,hc,hr⟩;obtain⟨Z1,k1,k2⟩:=hc.tq h2;have h0:=k1.x1 i0 rfl;obtain⟨us,q1,q2⟩:=age hc hr k1 k2 h0 _ _ _ h1 h3;have abT:Core W (XS.one i0) Z0 (jr i0) Z1 (re blk') w:=by
   refine⟨k1.bB,k1.iD,k1.fZ,k1.g9,fun b b' id h h'=>(dE b id h).1.trans (dE b' id h').1.symm,fun b id h=>.inr (.inl (dE b id h).2),fun b id h _=>(dE b id h).1,k1.kQ,fun id h=>by rw[show id=i0 from h];rfl,?_,?_,?_⟩
   ·intro b id bk h g hm;obtain⟨rfl,rfl⟩:=dE b id h;exact k1.gL 0 id blk' h0 h4 h5
   ·intro b id bk h g hm;obtain⟨rfl,rfl⟩:=dE b id h;simp only[re,if_true]at g;cases g;rw[h5]at hm;cases hm
   intro b id h;obtain⟨rfl,rfl⟩:=dE b id h;obtain⟨bk,l1,cc,T,part,rest,l2,l3,l4⟩:=k1.heap 0 id h0;rw[h4]at l1;cases l1;exact⟨_,rfl,cc,T,part,rest,l2,l3,aw.fE (fun _ h=>h) (fun _ _=>rfl) _ _ _ h6 l4⟩
  have lV:(fn.results.mapM (vL a.tmps)).run P w=.ok us.toArray w:=by
   rw[apL,Sem.run_map,q1];rfl
  refine⟨cZ,(if h:us.toArray.size=1 then us.toArray[0]else .tuple us.toArray),?_,_,jr i0,Z1,rfl,abT,?_⟩
  ·rw[afs,Sem.run_bind,lV];rfl
  subst h7;have tO:=xA _ _ q2
  match ys,us,q2,tO with
  | [y],[u],q2,_ =>
   obtain⟨v,gV,e,g1,g2⟩:=q2;simp only[dq]at e;obtain⟨rfl,_⟩:=e;have hnt:∀l,y≠.aQ l:=fun l e=>by subst e;have:=g1.2 rfl;simp[ao]at this
   exact aC.nZ hnt g1
  | [],[],q2,_=>exact⟨_,rfl,by simpa using q2⟩
  |y::y'::ys,u::u'::us,q2,_ =>
   refine⟨(u::u'::us).toArray,by simp,by simpa using q2⟩
 cases e with
 |normal=>obtain⟨L,q1,q2⟩:=q;exact main L q1 q2
 |ret=>obtain⟨L,q1,q2⟩:=q;exact main L q1 q2
 |exit id=>obtain⟨L,q1,q2⟩:=q;exact q1.elim
 |_=>exact q.elim
end
end Go.Lg
namespace Go.Lg
def St.bo(L:St)(bs:List Nat):St:=⟨L.slot,fun c=>(L.heap c).map fun blk=>⟨blk.sz,blk.vals,blk.mt&&!bs.contains c⟩⟩
section
variable {P:Program} {dr:Bool} {ops:Array Oper} {rest:List Oper} {L:St} {K:St->Prop} {dst:Option Tmp} {ty:TypeId} {pos:String} {af:Array Edge} {g:Option (Nat×Bool)}
theorem r8(bs:List Nat)(h0:bs.contains 0=false):L.heap.le (L.bo bs).heap:=fun b blk h=>by
 refine⟨blk.mt&&!bs.contains b,by simp[St.bo,h],fun e=>by simp[e],fun e1 e2=>?_⟩;rintro rfl;rw[e1,h0]at e2;cases e2
theorem ai{op:Op}{r:LV}(hg:cI ops L ⟨dst,op,ty,pos,af,g⟩ true)(h:aq P L.heap L.ev op r)(k:opsL P dr ops rest (L.put dst r) K):
  opsL P dr ops (⟨dst,op,ty,pos,af,g⟩::rest) L K:=by
 refine⟨L.put dst r,.val hg (bn.le_refl _) (fr:=[]) (fun _ _ h=>by cases h) (.pure h) ?_,k⟩
 cases dst<;>rfl
theorem fQ{op:Op}(hg:cI ops L ⟨dst,op,ty,pos,af,g⟩ false)(k:opsL P dr ops rest (L.put dst (.aQ [])) K):opsL P dr ops (⟨dst,op,ty,pos,af,g⟩::rest) L K :=
 ⟨_,.skip hg rfl,k⟩
theorem eD{op:Op}{d:Nat}{r:LV}{blk:aL}(hg:cI ops L ⟨some d,op,ty,pos,af,g⟩ true)(hd:L.heap d=none)(h:cH P L.ev d op r blk)
  (k:opsL P dr ops rest ((L.a5 d (some blk)).put (some d) r) K):opsL P dr ops (⟨some d,op,ty,pos,af,g⟩::rest) L K:=by
 refine⟨_,.val hg (r:=r) (fr:=[(d,blk)]) (H1:=(L.a5 d (some blk)).heap) ?_ ?_ (.alloc h) ?_,k⟩
 ·intro b bk hb;have:b≠d:=by rintro rfl;rw[hd]at hb;cases hb
  exact⟨bk.mt,by simp only[St.a5,if_neg this];exact hb,fun h=>h,fun h1 h2=>by rw[h1]at h2;cases h2⟩
 ·intro b bk hb;simp only[qk,uQ]at hb;obtain⟨rfl,rfl⟩:=hb;exact⟨hd,bk.mt,by simp[St.a5],fun h=>h⟩
 rfl
theorem jA{op:Op}{r r':LV}(bs:List Nat)(hg:cI ops L ⟨dst,op,ty,pos,af,g⟩ true)(h0:bs.contains 0=false)(h:x6 P (L.bo bs).heap L.ev (dst.getD 0) op r [])(hr:r=r')
  (k:opsL P dr ops rest ((L.bo bs).put dst r') K):opsL P dr ops (⟨dst,op,ty,pos,af,g⟩::rest) L K:=by
 subst hr;refine⟨(L.bo bs).put dst r,.val hg (r:=r) (fr:=[]) (H1:=(L.bo bs).heap) (r8 bs h0) (fun _ _ h=>by cases h) (.call h) ?_,k⟩
 cases dst<;>rfl
theorem anr{f:FuncId}{xs:Array Operand}{bH:Array TypeId}{args:List LV}{r:LV}(bs:List Nat)(hg:cI ops L ⟨dst,.call ⟨.value (.func f),xs,bH⟩,ty,pos,af,g⟩ true)(h0:bs.contains 0=false)
  (ha:dP (L.bo bs).heap (xs.toList.map L.ev) args) (hk:ke P f args r []) (hr:r.bl (cQ (dst.getD 0))=r)
  (k:opsL P dr ops rest ((L.bo bs).put dst r) K):opsL P dr ops (⟨dst,.call ⟨.value (.func f),xs,bH⟩,ty,pos,af,g⟩::rest) L K :=
 jA bs hg h0 (.func ha hk az az) hr k
theorem abf:L.bo []=L:=by
 cases L
 simp only[St.bo,St.mk.injEq,true_and];funext c;rename_i s h
 cases h c<;>simp
theorem aty{f:FuncId}{xs:Array Operand}{bH:Array TypeId}{args:List LV}{r:LV}(hg:cI ops L ⟨dst,.call ⟨.value (.func f),xs,bH⟩,ty,pos,af,g⟩ true)
  (ha:dP L.heap (xs.toList.map L.ev) args) (hk:ke P f args r []) (hr:r.bl (cQ (dst.getD 0))=r)
  (k:opsL P dr ops rest (L.put dst r) K):opsL P dr ops (⟨dst,.call ⟨.value (.func f),xs,bH⟩,ty,pos,af,g⟩::rest) L K :=
 anr [] hg rfl (by rw[abf];exact ha) hk hr (by rw[abf];exact k)
theorem xG{f:FuncId}{xs:Array Operand}{bH:Array TypeId}{args:List LV}{r:LV}{blk:aL}{d:Nat}(bs:List Nat)(hg:cI ops L ⟨some d,.call ⟨.value (.func f),xs,bH⟩,ty,pos,af,g⟩ true)(h0:bs.contains 0=false)
  (ha:dP (L.bo bs).heap (xs.toList.map L.ev) args) (hk:ke P f args r [blk]) (hp:aN blk.vals=true) (hd:L.heap (cQ d 1)=none)
  (k:opsL P dr ops rest (((L.bo bs).a5 (cQ d 1) (some blk)).put (some d) (r.bl (cQ d))) K):opsL P dr ops (⟨some d,.call ⟨.value (.func f),xs,bH⟩,ty,pos,af,g⟩::rest) L K:=by
 have eJ:(L.bo bs).heap (cQ d 1)=none:=by simp[St.bo,hd]
 refine⟨_,.val hg (r:=r.bl (cQ d)) (fr:=[blk].mapIdx fun i blk=>(cQ d (i+1),blk)) (H1:=((L.bo bs).a5 (cQ d 1) (some blk)).heap) (bn.le_trans (r8 bs h0) ?_) ?_
  (.call (.func (dP.le ?_ ha) hk az (by simpa using hp))) ?_,k⟩
 ·exact abj eJ
 ·intro b bk hb;simp only[List.mapIdx_cons,List.mapIdx_nil,qk,uQ]at hb;obtain⟨rfl,rfl⟩:=hb;exact⟨hd,bk.mt,by simp[St.a5],fun h=>h⟩
 ·exact abj eJ
 rfl
theorem dH{op:Op}{L':St}(hg:cI ops L ⟨dst,op,ty,pos,af,g⟩ true)(h:ey P L dst op L')(k:opsL P dr ops rest L' K):opsL P dr ops (⟨dst,op,ty,pos,af,g⟩::rest) L K :=
 ⟨_,.st hg h,k⟩
theorem tD{f:FuncId}{xs:Array Operand}{bH:Array TypeId}{args:List LV}{r:LV}{ops:Array Oper}(b:Nat){blk blk':aL}(hg:cI ops L ⟨dst,.call ⟨.value (.func f),xs,bH⟩,ty,pos,af,g⟩ true)
  (hb:L.heap b=some blk) (hm:blk.mt=true) (hp:aN blk.vals=true) (ha:p9 L.heap b (xs.toList.map L.ev) args) (hn:Names b (xs.toList.map L.ev)) (hk:jt P f blk args r blk')
  (lQ:blk'.mt=true) (fy:aN blk'.vals=true) (k:opsL P false ops rest ((L.a5 b (some blk')).put dst (r.bl fun _=>b)) K) :
  opsL P false ops (⟨dst,.call ⟨.value (.func f),xs,bH⟩,ty,pos,af,g⟩::rest) L K :=
 ⟨_,.stM rfl hg (.call hb hm hp ha hn hk lQ fy),k⟩
theorem kv(k:K L):opsL P dr ops [] L K:=k
end
structure fe {α:Type} (e:α->LV) (sz:Nat) (ag:Bool):Prop where
 aj:∀a,(e a).aj=sz
 isAgg:∀a,(e a).isAgg=ag
 pure:∀a,(e a).pure=true
theorem bS{α:Type}{e:α->LV}{sz:Nat}{ag:Bool}(h:fe e sz ag)(l:List α):aN (l.map e)=true:=by
 rw[qZ];intro x hx;obtain⟨a,_,rfl⟩:=fB.1 hx;exact h.pure a
theorem agu(x:LV)(h:x.pure=true):x.at 0 x.aj x.isAgg=some x:=by
 cases x<;>simp_all[LV.at,LV.aj,LV.isAgg,LV.pure]
theorem aid(x y:LV)(h1:x.aj=y.aj)(h2:x.isAgg=y.isAgg):x.put 0 y=some y:=by
 cases x<;>simp_all[LV.put,LV.aj,LV.isAgg]
section
variable {P:Program} {H:bn} {ρ:Operand->LV} {α:Type} {e:α->LV}
theorem aq.axi[Inhabited α]{T E:TypeId}{x i:Operand}{sz:Nat}{l:List α}{k:IntKind}{n:Int}{ag:Bool}(he:fe e sz ag)(hx:ρ x=.list sz (l.map e))(hT:P.underlying T=some (.slice E))(hE:aX P E sz ag)
  (hi:ρ i=.v (.int k n)) (h0:0<=n) (hn:n<l.length):aq P H ρ (.indexAddr T x i) (.bg (e (l.getD n.toNat default))):=by
 have bT:n.toNat<l.length:=aa;refine .jm hx hT hE hi h0 ?_ (he.aj _);rw[iT,bO bT,bf,bO bT];rfl
theorem aq.auY{T:TypeId}{p:Operand}{sz:Nat}{ag:Bool}{a:α}(he:fe e sz ag)(hp:ρ p=.bg (e a))(hT:aX P T sz ag):aq P H ρ (.load T p) (e a) :=
 .xB hp (by rw[he.aj,he.isAgg];exact hT) (he.pure a)
theorem aq.awR[Inhabited α]{T:TypeId}{p:Operand}{b sz i:Nat}{l:List α}{m:Bool}{ag:Bool}(he:fe e sz ag)(hp:ρ p=.ax b sz i 0)(hb:H b=some ⟨sz,l.map e,m⟩)(hT:aX P T sz ag)
  (hi:i<l.length):aq P H ρ (.load T p) (e (l.getD i default)):=by
 have hv:(l.map e)[i]?=some (e (l.getD i default)):=by
  rw[iT,bO hi,bf,bO hi];rfl
 refine .eP (blk:=⟨sz,l.map e,m⟩) (n:=sz) (ag:=ag) hp hb rfl hv (he.aj _) ?_ hT;have:=agu (e (l.getD i default)) (he.pure _);rwa[he.aj,he.isAgg]at this
theorem ey.asi[Inhabited α]{L:St}{dst:Option Tmp}{T:TypeId}{p x:Operand}{b sz i:Nat}{l:List α}{ag:Bool}{a:α}(he:fe e sz ag)(hp:L.ev p=.ax b sz i 0)(hb:L.heap b=some ⟨sz,l.map e,true⟩)
  (hx:L.ev x=e a) (hT:aX P T sz ag) (hi:i<l.length):ey P L dst (.store T p x) ((L.a5 b (some ⟨sz,(l.set i a).map e,true⟩)).put dst .any):=by
 have hv:(l.map e)[i]?=some (e l[i]):=by rw[iT,bO hi];rfl
 have:=ey.store (P:=P) (L:=L) (dst:=dst) (T:=T) (p:=p) (x:=x) (y':=e a) hp hb rfl rfl hv (he.aj _) (by rw[hx];exact aid _ _ (by rw[he.aj,he.aj]) (by rw[he.isAgg,he.isAgg]))
  (by rw[hx,he.aj,he.isAgg];exact hT) (by rw[hx];exact⟨LV.eg (he.pure _),LV.dV (he.pure _)⟩)
 rwa[<-List.map_set]at this
theorem cH.arb{T E:TypeId}{x c:Operand}{kl kc:IntKind}{d sz cn n m:Nat}{ag:Bool}{z:α}(he:fe e sz ag)(hT:P.underlying T=some (.slice E))(hz:ck P E (e z))(hE:aX P E sz ag)(hb:g6 P E cn)
  (hl:ρ x=.v (.int kl (n:Nat))) (hc:ρ c=.v (.int kc (m:Nat))) (iz:n<=m) (hm:cn*m<=281474976710656) (fh:m<=9223372036854775807) :
  cH P ρ d (.makeSlice T x c) (.ref d sz 0 n) ⟨sz,(aJ n z).map e,true⟩:=by
 rw[List.map_replicate];exact .make hT hz (by rw[he.isAgg];exact hE) (he.aj z) hb hl hc iz hm fh
theorem cH.aAh{T E:TypeId}{x:Operand}{d sz:Nat}{ag:Bool}{z a:α}(he:fe e sz ag)(hT:P.underlying T=some (.slice E))(hz:ck P E (e z))(hE:aX P E sz ag)(hx:ρ x=e a)(cG:0<sz)(fV:sz<=1000):
  cH P ρ d (.buildSlice T 1 #[(0,x)]) (.ref d sz 0 1) ⟨sz,[a].map e,true⟩:=by
 have:=cH.lit (P:=P) (ρ:=ρ) (d:=d) (T:=T) (n:=1) (ps:=#[(0,x)]) hT hz (by rw[he.isAgg];exact hE) (he.aj z) aa aa cG (by
  intro p hp;simp only[qk]at hp;subst hp;refine⟨by simp,?_,by rw[hx];exact LV.eg (he.pure _),by rw[hx];exact LV.dV (he.pure _)⟩;simp[lay,hx,he.aj,he.isAgg])
 simpa[jf,hx,aJ]using this
end
section
variable {a b:Int}
theorem qD(h1:-9223372036854775808<=a+b)(h2:a+b<=9223372036854775807):cj .add .i64 a b=some (.int .i64 (a+b)):=by
 simp only[cj];rw[IntWalk.i64_in _ ⟨h1,h2⟩]
theorem o5(h1:-9223372036854775808<=a-b)(h2:a-b<=9223372036854775807):cj .sub .i64 a b=some (.int .i64 (a-b)):=by
 simp only[cj];rw[IntWalk.i64_in _ ⟨h1,h2⟩]
theorem agI(h1:-9223372036854775808<=a*b)(h2:a*b<=9223372036854775807):cj .mul .i64 a b=some (.int .i64 (a*b)):=by
 simp only[cj];rw[IntWalk.i64_in _ ⟨h1,h2⟩]
end
section
variable {P:Program} {L L0:St} {Q:gI->St->Prop} {K:St->Prop}
theorem axF{l:List Oper}{id:Nat}(h:opsL P false l.toArray l L (Q .normal)):bM P (.region id l.toArray false) Q L:=⟨L,av.refl L,.inl ⟨fun e=>absurd e an,h⟩⟩
theorem azY{l:List Oper}{id:Nat}(m:Nat)(hm:yf l.toArray m []=true)(h:opsL P true l.toArray l L (Q .normal)):bM P (.region id l.toArray true) Q L:=⟨L,av.refl L,.inl ⟨fun _=>⟨m,[],hm⟩,h⟩⟩
theorem ss{l:List Oper}{id:Nat}(m:Nat)(fr:List Nat)(hm:yf l.toArray m fr=true)(h:opsL P true l.toArray l L (Q .normal)):bM P (.region id l.toArray true) Q L:=⟨L,av.refl L,.inl ⟨fun _=>⟨m,fr,hm⟩,h⟩⟩
theorem bX{l:List Oper}{id:Nat}(hw:av L L0)(h:opsL P false l.toArray l L0 (Q .normal)):bM P (.region id l.toArray false) Q L:=⟨L0,hw,.inl ⟨fun e=>absurd e an,h⟩⟩
theorem auZ{l:List Oper}{id:Nat}(m:Nat)(hm:yf l.toArray m []=true)(hw:av L L0)(h:opsL P true l.toArray l L0 (Q .normal)):bM P (.region id l.toArray true) Q L:=⟨L0,hw,.inl ⟨fun _=>⟨m,[],hm⟩,h⟩⟩
theorem auA{ops:Array Oper}{id:Nat}(h:iq P ops ops.size (nD ops.size false) L (Q .normal)):bM P (.region id ops true) Q L:=⟨L,av.refl L,.inr (.inl ⟨rfl,h⟩)⟩
theorem ad2{ops:Array Oper}{id:Nat}{d:Bool}(h:∀n W X Z0 a w,dM n W X Z0 L a w->ig n (.region 0 ops d)=true->∀id,(Code.region id ops d).wp P (yF n W X Z0 Q) a w):bM P (.region id ops d) Q L:=⟨L,av.refl L,.inr (.inr h)⟩
def alW(P:Program)(l:List Oper)(m b:Nat)(fr:List Nat)(x0:aL)(K:St->Prop)(Lm:St):Prop :=
 Lm.heap b=none/\(fr.all fun j=>match (l.toArray.getD j default).dst with|some d=>(Lm.heap (cQ d 1)).isNone|none=>true)=true /\
  (∀om,l.toArray[m]?=some om->∃T p v i o,om.op=.store T p v/\Lm.ev p=.ax b x0.sz i o)/\opsL P true l.toArray (l.drop m) (Lm.a5 b (some x0)) K
theorem atO{l:List Oper}{id:Nat}(fI:P.follows .mixedOrders=true)(m b:Nat)(fr:List Nat){x0:aL}(hm:afT l.toArray m fr=true)(hb:L.heap b=some x0)
  (h:opsL P true l.toArray (l.take m) (L.a5 b none) (alW P l m b fr x0 (Q .normal))):bM P (.region id l.toArray true) Q L:=by
 refine ad2 fun n W X Z0 a w hs hd id=>?_;have eJ:∀o∈l.toArray.toList,∀t,o.dst=some t->t<n:=fun o ho t ht=>by
  simp only[ig,mg]at hd;have:=hd o ho;rw[ht]at this;simpa using this
 exact azA fI hm hs hb h eJ (fun L' a' w' hk ji=>⟨L',hk,ji⟩)
theorem azX{l:List Oper}{m b:Nat}{fr:List Nat}{x0:aL}{K:St->Prop}{ops:Array Oper}(h1:L.heap b=none)(h2:(fr.all fun j=>match (l.toArray.getD j default).dst with|some d=>(L.heap (cQ d 1)).isNone|none=>true)=true)
  (h3:∀om,l.toArray[m]?=some om->∃T p v i o,om.op=.store T p v/\L.ev p=.ax b x0.sz i o) (h4:opsL P true l.toArray (l.drop m) (L.a5 b (some x0)) K):opsL P true ops [] L (alW P l m b fr x0 K):=⟨h1,h2,h3,h4⟩
theorem az6{x y:Code}(h:bM P x (lq (bM P y Q) Q) L):bM P (.seq x y) Q L:=h
theorem afZ{c:Operand}{x y:Code}{t:Bool}(hc:L.ev c=.v (.bool t))(h1:t=true->bM P x Q L)(h2:t=false->bM P y Q L):bM P (.cond c x y) Q L:=⟨t,hc,h1,h2⟩
theorem atb{c:Code}{id:Nat}(h:bM P c (nJ id Q) L):bM P (.block id c) Q L:=h
theorem avq(h:Q .normal L):bM P .skip Q L:=h
theorem axB(h:Q .ret L):bM P .ret Q L:=h
theorem atg{id:Nat}(h:Q (.exit id) L):bM P (.exit id) Q L:=h
theorem axI(h:K L):lq K Q .normal L:=h
theorem aym{i:Nat}(h:Q (.exit i) L):lq K Q (.exit i) L:=h
theorem aBj(h:Q .ret L):lq K Q .ret L:=h
theorem asD{id:Nat}(h:Q .normal L):nJ id Q .normal L:=h
theorem atA{id:Nat}(h:Q .ret L):nJ id Q .ret L:=h
theorem ayr{id:Nat}(h:Q .normal L):nJ id Q (.exit id) L:=by simp only[nJ,if_pos];exact h
theorem awk{id i:Nat}(aG:i≠id)(h:Q (.exit i) L):nJ id Q (.exit i) L:=by simp only[nJ,if_neg aG];exact h
theorem xN:∀{c:Code} {Q Q':gI->St->Prop} {L:St},(∀e L,Q e L->Q' e L)->bM P c Q L->bM P c Q' L:=by
 intro c
 induction c with
 |skip=>exact fun hq h=>hq _ _ h
 |region id ops d=>exact fun hq ⟨L0,a,h⟩=>⟨L0,a,h.imp (fun⟨b,h⟩=>⟨b,amM (hq _) _ _ h⟩) (fun h=>h.imp (fun⟨b,h⟩=>⟨b,aiQ (hq _) _ _ _ h⟩) (fun h n W X Z0 a w hs hd id=>wp_mono (h n W X Z0 a w hs hd id) fun e a w p=>by
  cases e with
  |normal=>obtain⟨L,q1,q2⟩:=p;exact⟨L,hq _ _ q1,q2⟩
  |exit i=>obtain⟨L,q1,q2⟩:=p;exact⟨L,hq _ _ q1,q2⟩
  |ret=>obtain⟨L,q1,q2⟩:=p;exact⟨L,hq _ _ q1,q2⟩
  |_=>exact p.elim))⟩
 |seq x y ihx ihy =>
  intro Q Q' L hq h;refine ihx (fun e L h=>?_) h
  cases e with
  |normal=>exact ihy hq h
  |exit i=>exact hq _ _ h
  |ret=>exact hq _ _ h
 |cond c x y ihx ihy=>exact fun hq ⟨t,a,b,c⟩=>⟨t,a,fun e=>ihx hq (b e),fun e=>ihy hq (c e)⟩
 |block id c ih =>
  intro Q Q' L hq h;refine ih (fun e L h=>?_) h
  cases e with
  |normal=>exact hq _ _ h
  |exit i =>
   simp only[nJ]at h ⊢;split
   ·rename_i e;rw[if_pos e]at h;exact hq _ _ h
   rename_i e;rw[if_neg e]at h;exact hq _ _ h
  |ret=>exact hq _ _ h
 |loop c ih =>
  intro Q Q' L hq h I hI;refine h I fun L hL=>hI L (ih (fun e L h=>?_) hL)
  cases e with
  |normal=>exact h
  |exit i=>exact hq _ _ h
  |ret=>exact hq _ _ h
 |exit id=>exact fun hq h=>hq _ _ h
 |ret=>exact fun hq h=>hq _ _ h
 |rangeFunc=>exact fun _ h=>h.elim
 |scope=>exact fun _ h=>h.elim
 |label=>exact fun _ h=>h.elim
 |goto=>exact fun _ h=>h.elim
 |refuse=>exact fun _ h=>h.elim
theorem acr{c:Code}{α:Type}(S:α->St->St)(C:α->Prop)(μ:α->Nat)(a0:α)(hC:C a0)(h0:∃L1,av L (S a0 L1))
  (hr:∀a L1,C a->bM P c (lq (fun L'=>∃a' L2,C a'/\μ a'<μ a/\av L' (S a' L2)) Q) (S a L1)):bM P (.loop c) Q L:=by
 obtain⟨L1,h1⟩:=h0;intro I hI;have key:∀n a L1,μ a=n->C a->I (S a L1):=by
  intro n
  induction n using zf with
  |_ n ih =>
   intro a L1 hn hCa;refine hI _ (xN (fun e L h=>?_) (hr a L1 hCa))
   cases e with
   |normal =>
    obtain⟨a',L2,g1,g2,g3⟩:=h;exact⟨_,g3,ih _ (hn▸g2) a' L2 rfl g1⟩
   |exit i=>exact h
   |ret=>exact h
 exact⟨_,h1,key _ a0 L1 rfl hC⟩
theorem jR{c:Code}(h:bM P c (lq (bM P (.loop c) Q) Q) L):bM P (.loop c) Q L:=by
 intro I hI;refine⟨L,av.refl L,hI L (xN (fun e L' h=>?_) h)⟩
 cases e with
 |normal=>exact h I hI
 |exit i=>exact h
 |ret=>exact h
theorem fk{c:Code}(K:St->Prop)(h:bM P c (lq K Q) L)(hk:∀L,K L->Q .normal L):bM P c Q L :=
 xN (fun e L h=>by cases e with|normal=>exact hk L h|exit i=>exact h|ret=>exact h) h
end
theorem asw{L:St}{t:Nat}{r:LV}(h:L.slot t=r):L.put (some t) r=L:=by
 cases L with
 |mk s hp =>
  simp only[St.put,St.mk.injEq,and_true];funext k;have:=fu ⟨s,hp⟩ t r k;simp only[St.put]at this;rw[this];split
  ·rename_i hk;subst hk;exact h.symm
  rfl
theorem b8{L L':St}{t:Nat}{r:LV}(h0:L'=L)(h:L.slot t=r):L'.put (some t) r=L:=by rw[h0];exact asw h
theorem av.of_eq{L L':St}(h:L'=L):av L L':=by subst h;exact av.refl _
theorem asU(L:St)(t:Nat)(r:LV)(s:Nat)(h:(s==t)=false):(L.put (some t) r).slot s=L.slot s:=by
 rw[fu,if_neg ga]
theorem auc(L:St)(t:Nat)(r:LV):(L.put (some t) r).slot t=r:=by rw[fu,if_pos rfl]
section
variable {P:Program} {dr:Bool} {ops:Array Oper} {rest:List Oper} {L:St} {K:St->Prop} {dst:Option Tmp} {op:Op} {ty:TypeId} {pos:String} {af:Array Edge}
theorem gr{j d:Nat}{b v want res:Bool}(h1:(ops[j]?).bind (·.dst)=some d)(h2:L.slot d=.v (.bool b))(h3:b=v)(h4:(v==want)=res):
  cI ops L ⟨dst,op,ty,pos,af,some (j,want)⟩ res:=⟨d,h1,.inl ⟨b,h2,by rw[h3,h4]⟩⟩
theorem awm{j d:Nat}{want:Bool}(h1:(ops[j]?).bind (·.dst)=some d)(h2:L.slot d=.aQ []):cI ops L ⟨dst,op,ty,pos,af,some (j,want)⟩ false:=⟨d,h1,.inr ⟨h2,rfl⟩⟩
theorem nL{L':St}(h:L=L')(k:K L'):opsL P dr ops [] L K:=by subst h;exact k
end
section
variable {P:Program} {L:St}
theorem cm{t:Nat}{x y:LV}(h:L.slot t=x)(hi:bR L.heap x y):mH P [.tmp t] L y [] :=
 ⟨[x],[y],L.heap,[],.cons h .nil,bn.le_refl _,.cons (.cC hi) .nil,y5,rfl,fun k b h=>by simp at h,rfl⟩
theorem nq{t:Nat}{x y:LV}(bs:List Nat)(h0:bs.contains 0=false)(h:L.slot t=x)(hi:bR (L.bo bs).heap x y):mH P [.tmp t] L y [] :=
 ⟨[x],[y],(L.bo bs).heap,[],.cons h .nil,r8 bs h0,.cons (.cC hi) .nil,y5,rfl,fun k b h=>by simp at h,rfl⟩
theorem pt{t u:Nat}{x y x' y':LV}(h:L.slot t=x)(hi:bR L.heap x y)(h':L.slot u=x')(pd:bR L.heap x' y'):mH P [.tmp t,.tmp u] L (.aQ [y,y']) [] :=
 ⟨[x,x'],[y,y'],L.heap,[],.cons h (.cons h' .nil),bn.le_refl _,.cons (.cC hi) (.cons (.cC pd) .nil),y5,rfl,fun k b h=>by simp at h,rfl⟩
theorem ajt{t u:Nat}{x y x' y':LV}(bs:List Nat)(h0:bs.contains 0=false)(h:L.slot t=x)(hi:bR (L.bo bs).heap x y)(h':L.slot u=x')(pd:bR (L.bo bs).heap x' y'):mH P [.tmp t,.tmp u] L (.aQ [y,y']) [] :=
 ⟨[x,x'],[y,y'],(L.bo bs).heap,[],.cons h (.cons h' .nil),r8 bs h0,.cons (.cC hi) (.cons (.cC pd) .nil),y5,rfl,fun k b h=>by simp at h,rfl⟩
theorem vZ{t u s:Nat}{x y x' y' x'' y'':LV}(bs:List Nat)(h0:bs.contains 0=false)(h:L.slot t=x)(hi:bR (L.bo bs).heap x y)(h':L.slot u=x')(pd:bR (L.bo bs).heap x' y')
  (h'':L.slot s=x'') (at9:bR (L.bo bs).heap x'' y''):mH P [.tmp t,.tmp u,.tmp s] L (.aQ [y,y',y'']) [] :=
 ⟨[x,x',x''],[y,y',y''],(L.bo bs).heap,[],.cons h (.cons h' (.cons h'' .nil)),r8 bs h0,.cons (.cC hi) (.cons (.cC pd) (.cons (.cC at9) .nil)),y5,rfl,fun k b h=>by simp at h,rfl⟩
theorem aaw{t b sz len:Nat}{blk:aL}(h:L.slot t=.ref b sz 0 len)(hb:L.heap b=some blk)(hp:aN blk.vals=true):mH P [.tmp t] L (.ref 1 sz 0 len) [blk] :=
 ⟨[.ref b sz 0 len],[.ref 1 sz 0 len],L.heap,[b],.cons h .nil,bn.le_refl _,.cons (.ref (k:=0) rfl) .nil,by simp,rfl,fun k c hk=>by
  cases k with
  |zero=>simp at hk;subst hk;exact⟨blk,hb,rfl,hp⟩
  |succ k=>simp at hk,rfl⟩
theorem iV{a:Nat}{T:TypeId}{b sz:Nat}{x y:LV}{m:Bool}{n:Nat}{ag:Bool}(bs:List Nat)(h0:bs.contains 0=false)(h:L.slot a=.ax b sz 0 0)(hb:L.heap b=some ⟨sz,[x],m⟩)
  (hx:x.aj=sz) (ru:x.at 0 n ag=some x) (hT:aX P T n ag) (hi:bR (L.bo bs).heap x y):mH P [.cell a T] L y [] :=
 ⟨[x],[y],(L.bo bs).heap,[],.cons ⟨b,sz,0,0,_,x,n,ag,h,hb,rfl,rfl,hx,ru,hT⟩ .nil,r8 bs h0,.cons (.cC hi) .nil,y5,rfl,fun k b h=>by simp at h,rfl⟩
theorem z6{bs:List Nat}{b sz off len:Nat}{vals:List LV}{m:Bool}(hb:L.heap b=some ⟨sz,vals,m⟩)(o9:bs.contains b=true)(hp:aN vals=true)(hl:off+len<=vals.length):
  bR (L.bo bs).heap (.ref b sz off len) (.list sz ((vals.drop off).take len)) :=
 bR.ref (blk:=⟨sz,vals,m&&!bs.contains b⟩) (by simp[St.bo,hb]) rfl hp hl (by rw[o9];simp)
theorem eM{α:Type}{e:α->LV}{ag:Bool}{bs:List Nat}{b sz len:Nat}{l:List α}{m:Bool}(he:fe e sz ag)(hb:L.heap b=some ⟨sz,l.map e,m⟩)(o9:bs.contains b=true)(hl:len=l.length):
  bR (L.bo bs).heap (.ref b sz 0 len) (.list sz (l.map e)):=by
 have:=z6 (L:=L) (bs:=bs) (off:=0) (len:=len) hb o9 (bS he l) (by simp[hl]);rwa[gX,List.take_of_length_le (by simp[hl])]at this
end
section
variable {P:Program} {H:bn} {ρ:Operand->LV}
theorem aq.uf{c x y:Operand}{t:Bool}(h:ρ c=.v (.bool t))(ht:t=true):aq P H ρ (.pick c x y) (ρ x):=by
 have:=aq.pick (P:=P) (H:=H) (x:=x) (y:=y) h;rwa[if_pos ht]at this
theorem aq.kO{c x y:Operand}{t:Bool}(h:ρ c=.v (.bool t))(ht:t=false):aq P H ρ (.pick c x y) (ρ y):=by
 have:=aq.pick (P:=P) (H:=H) (x:=x) (y:=y) h;rwa[if_neg (by simp[ht])]at this
end
section
variable {P:Program} {dr:Bool} {ops:Array Oper} {rest:List Oper} {L:St} {K:St->Prop} {dst:Option Tmp} {ty:TypeId} {pos:String} {af:Array Edge} {x:Operand}
theorem mv(k:opsL P dr ops rest (L.put dst (L.ev x)) K):opsL P dr ops (⟨dst,.move x,ty,pos,af,none⟩::rest) L K:=ai rfl (.move _) k
theorem asg(k:opsL P dr ops rest (L.put dst (L.ev x)) K):opsL P dr ops (⟨dst,.assign x,ty,pos,af,none⟩::rest) L K:=ai rfl (.assign _) k
end
section
variable {P:Program} {H:bn} {ρ:Operand->LV} {α:Type} {e:α->LV} {sz:Nat} {ag:Bool} {T E:TypeId} {x y z:Operand} {l:List α} {a h:Nat} {k k':IntKind}
theorem aq.agR(_he:fe e sz ag)(hx:ρ x=.list sz (l.map e))(hT:P.underlying T=some (.slice E))(hE:aX P E sz ag)(bD:ρ y=.v (.int k (a:Nat)))(fg:ρ z=.v (.int k' (h:Nat)))(h1:a<=h)(h2:h<=l.length):
  aq P H ρ (.slice T x (some y) (some z) none) (.list sz (((l.take h).drop a).map e)):=by
 have:=aq.aae (P:=P) (H:=H) (ρ:=ρ) (la:=some y) (ha:=some z) (a:=a) (h:=h) hx hT hE (fun w hw=>by cases hw;exact⟨_,bD⟩) (fun h=>by cases h) (fun w hw=>by cases hw;exact⟨_,fg⟩) (fun h=>by cases h) h1 (by simpa using h2);rwa[<-pU,<-ajg]at this
theorem aq.agH(_he:fe e sz ag)(hx:ρ x=.list sz (l.map e))(hT:P.underlying T=some (.slice E))(hE:aX P E sz ag)(bD:ρ y=.v (.int k (a:Nat)))(h1:a<=l.length):
  aq P H ρ (.slice T x (some y) none none) (.list sz ((l.drop a).map e)):=by
 have:=aq.aae (P:=P) (H:=H) (ρ:=ρ) (la:=some y) (ha:=none) (a:=a) (h:=(l.map e).length) hx hT hE (fun w hw=>by cases hw;exact⟨_,bD⟩) (fun h=>by cases h) (fun w hw=>by cases hw) (fun _=>rfl) (by simpa using h1) (bA _);rwa[List.take_length,<-ajg]at this
theorem aq.adg(_he:fe e sz ag)(hx:ρ x=.list sz (l.map e))(hT:P.underlying T=some (.slice E))(hE:aX P E sz ag)(fg:ρ z=.v (.int k' (h:Nat)))(h2:h<=l.length):
  aq P H ρ (.slice T x none (some z) none) (.list sz ((l.take h).map e)):=by
 have:=aq.aae (P:=P) (H:=H) (ρ:=ρ) (la:=none) (ha:=some z) (a:=0) (h:=h) hx hT hE (fun w hw=>by cases hw) (fun _=>rfl) (fun w hw=>by cases hw;exact⟨_,fg⟩) (fun h=>by cases h) aa (by simpa using h2);rwa[gX,<-pU]at this
theorem bN(he:fe e sz ag)(n:Nat)(l:List α):(LV.list n (l.map e)).pure=true:=by simp only[LV.pure];exact bS he l
end
theorem e1(L:St)(t:Nat):L.ev (.tmp t)=L.slot t:=rfl
theorem e2(L:St)(k:IntKind)(n:Int):L.ev (.const (.int k n))=.v (.int k n):=rfl
theorem e3(L:St)(b:Bool):L.ev (.const (.bool b))=.v (.bool b):=rfl
theorem e4(L:St):L.ev (.const (.slice none 0 0))=.v (.slice none 0 0):=rfl
theorem p1(L:St)(t:Nat)(r:LV):(L.put (some t) r).slot t=r:=auc L t r
theorem p2(L:St)(t:Nat)(r:LV)(s:Nat)(h:(s==t)=false):(L.put (some t) r).slot s=L.slot s:=asU L t r s h
theorem p3(L:St)(r:LV):L.put none r=L:=rfl
theorem q1(L:St)(b:Nat)(x:Option aL)(s:Nat):(L.a5 b x).slot s=L.slot s:=rfl
theorem q2(L:St)(bs:List Nat)(s:Nat):(L.bo bs).slot s=L.slot s:=rfl
theorem q3(L:St)(b:Nat)(s:Nat):(L.kill b).slot s=(L.slot s).kill b:=rfl
theorem l1{α β:Type}(f:α->β)(l:List α):(l.map f).length=l.length:=bF f
theorem og{P:Program}{dst:Option Tmp}{ty:TypeId}{pos:String}{af:Array Edge}{g:Option (Nat×Bool)}{rest:List Oper}{L:St}{K:St->Prop}{f:FuncId}{xs:Array Operand}{mh:Array TypeId}{args:List LV}{r:LV}{ops:Array Oper}(b:Nat){blk blk':aL}(hg:cI ops L ⟨dst,.call ⟨.value (.func f),xs,mh⟩,ty,pos,af,g⟩ true)
  (hb:L.heap b=some blk) (hm:blk.mt=true) (hp:aN blk.vals=true) (ha:p9 L.heap b (xs.toList.map L.ev) args) (hn:Names b (xs.toList.map L.ev)) (hk:jt P f blk args r blk')
  (lQ:blk'.mt=true) (fy:aN blk'.vals=true) (hr:r.pure=true) (k:opsL P false ops rest ((L.a5 b (some blk')).put dst r) K) :
  opsL P false ops (⟨dst,.call ⟨.value (.func f),xs,mh⟩,ty,pos,af,g⟩::rest) L K :=
 tD b hg hb hm hp ha hn hk lQ fy (by rw[LV.dF _ _ hr];exact k)
end Go.Lg
end
