/- Texts LgK, LgO of this proof, joined. -/
import Derived.Test.YtckppbhafancnaaGreatQT1
import Derived.Deep.Upon
import Derived.Lib.Overlaps
set_option linter.unusedVariables false
set_option linter.unusedSimpArgs false
open Array renaming all_eq_true_iff_forall_mem->ayc,ext'->vC,getD_eq_getD_getElem?->dG,getElem?_eq_getElem->pE,getElem?_eq_some_iff->nA,getElem?_modify->awE,getElem?_setIfInBounds_ne->ka,getElem?_setIfInBounds_self_of_lt->oz,length_toList->n9,map->afz,mapM_eq_mapM_toList->axb,mem_of_getElem?->axV,mem_toList_iff->af0,range->awm,replicate->rL,size_append->ahF,toList_append->alf
open Bool renaming and_eq_true->kI,false_eq_true->adL,not_eq_true'->xC,or_eq_true->oN
open Classical renaming byContradiction->pY,not_forall->aDK,not_imp->aEm
open Int renaming natCast_mul->asW
open List renaming all_eq_true->pO,append_nil->ng,contains_iff_mem->pS,drop_drop->rm,drop_left->abd,drop_of_length_le->kg,drop_zero->mn,eq_nil_of_length_eq_zero->nM,ext_getElem->vk,flatten_append->arN,flatten_cons->akN,getD_eq_getElem?_getD->bp,getElem?_append_left->aaM,getElem?_append_right->ae8,getElem?_cons_succ->ahO,getElem?_cons_zero->rj,getElem?_eq_getElem->b7,getElem?_eq_some_iff->pj,getElem?_map->g8,getElem?_toArray->ahm,length_append->lT,length_drop->lg,length_take->eP,mapM_cons->awv,map_cons->nZ,map_drop->aeD,map_nil->yT,map_take->xR,map_toArray->ab7,mem_append->o8,mem_filterMap->yL,mem_map->cQ,mem_mapIdx->aw4,mem_of_getElem?->sR,mem_range->qy,mem_replicate->sZ,mem_singleton->gS,nil_append->afQ,nodup_nil->zN,range->c9,replicate->ay,replicate_succ->ana,size_toArray->abr,take_append_drop->vS,take_left->aht
open List.cons renaming injEq->fP
open Nat renaming add_mul->iA,add_zero->mS,beq->oJ,le_refl->bq,le_trans->ba,lt_or_ge->gC,min->agO,min_eq_left->mf,min_self->asM,mod_eq_of_lt->iW,mul_assoc->fM,mul_eq_zero->aj0,mul_le_mul_right->fU,strongRecOn->abZ,sub_self->qn,succ_mul->v9,testBit_or->ayY,zero_add->fF,zero_le->b8,zero_mul->ad6
open Option renaming getD_some->aag,isNone_iff_eq_none->xy,map_eq_some_iff->aab,map_some->qS,ne_none_iff_exists'->ak9
open Option.some renaming injEq->fB
open Prod.mk renaming injEq->af8
section
set_option linter.unusedVariables false
set_option linter.unusedSimpArgs false
namespace Go.Lg
mutual
def LV.bV (f:Nat->Nat):LV->LV
 | .any=>.any
 | .v x=>.v x
 | .list sz l=>.list sz (dA f l)
 | .agg l=>.agg (dA f l)
 | .ref b sz off len=>.ref (f b) sz off len
 | .kC b sz off len cap=>.kC (f b) sz off len cap
 | .aD b sz i o=>.aD (f b) sz i o
 | .cr c=>.cr (c.bV f)
 | .dq g l=>.dq g (dA f l)
 | .bf l=>.bf (dA f l)
def dA (f:Nat->Nat):List LV->List LV
 | []=>[]
 | x :: xs=>x.bV f :: dA f xs
end
mutual
theorem LV.di (f:Nat->Nat):∀ (x:LV),x.pure=true->x.bV f=x
 | .any,_=>rfl
 | .v _,_=>rfl
 | .list sz l,h=>by simp only [LV.bV,oI f l (by simpa [LV.pure] using h)]
 | .agg l,h=>by simp only [LV.bV,oI f l (by simpa [LV.pure] using h)]
 | .ref ..,h=>by simp [LV.pure] at h
 | .kC ..,h=>by simp [LV.pure] at h
 | .aD ..,h=>by simp [LV.pure] at h
 | .cr c,h=>by simp only [LV.bV,LV.di f c (by simpa [LV.pure] using h)]
 | .dq g l,h=>by simp only [LV.bV,oI f l (by simpa [LV.pure] using h)]
 | .bf l,h=>by simp [LV.pure] at h
theorem oI (f:Nat->Nat):∀ (l:List LV),aN l=true->dA f l=l
 | [],_=>rfl
 | x :: xs,h=>by simp only [dA,LV.di f x (pure_cons h).1,oI f xs (pure_cons h).2]
end
mutual
theorem LV.ajs (f:Nat->Nat):∀ (x:LV),(x.bV f).aw=x.aw
 | .any=>rfl | .v _=>rfl | .list ..=>rfl | .ref ..=>rfl | .kC ..=>rfl | .aD ..=>rfl | .cr _=>rfl | .dq ..=>rfl | .bf _=>rfl
 | .agg l=>by simp only [LV.bV,LV.aw,ao5 f l]
theorem ao5 (f:Nat->Nat):∀ (l:List LV),da (dA f l)=da l
 | []=>rfl
 | x :: xs=>by simp only [dA,da,LV.ajs f x,ao5 f xs]
end
theorem LV.ahk (f:Nat->Nat) (x:LV):(x.bV f).isAgg=x.isAgg:=by cases x<;>rfl
section
variable {Z:Nat->Prop} {μ bm:Nat->Option Nat} {w:World}
mutual
theorem aB.bV (f:Nat->Nat) (hm:∀ b id,μ b=some id->bm (f b)=some id):∀ (lv:LV) (cs:List Value),aB Z μ w lv cs->aB Z bm w (lv.bV f) cs
 | .any,_,h=>by simpa [aB,LV.bV] using h
 | .v x,cs,h=>by simpa [aB,LV.bV] using h
 | .list sz l,cs,h=>by
   simp only [aB,LV.bV] at h ⊢
   obtain⟨a,len,cap,h1,h2,h3,h4,h9⟩:=h
   have hl:(dA f l).length=l.length:=by
    clear h2 h4 h9;induction l with
    | nil=>rfl
    | cons x xs ih=>simp [dA,ih]
   refine⟨a,len,cap,h1,by rw [hl];exact h2,h3,?_,by rw [oI f l h9];exact h9⟩
   rcases h4 with h4 | ⟨blk,off,c,T,fz,part,rest,e1,e2,e3,e4,e5⟩
   ·left;subst h4;rfl
   ·exact .inr ⟨blk,off,c,T,fz,part,rest,e1,e2,e3,e4,aS.bV f hm sz l part e5⟩
 | .agg l,cs,h=>by
   simp only [aB,LV.bV] at h ⊢
   exact cC.bV f hm l cs h
 | .ref b sz off len,cs,h=>by
   simp only [aB,LV.bV] at h ⊢
   rcases h with h | ⟨id,cap,c,T,fz,h1,h2,h3⟩
   ·exact rB
   exact .inr ⟨id,cap,c,T,fz,h1,hm _ _ h2,h3⟩
 | .kC b sz off len cap,cs,h=>by
   simp only [aB,LV.bV] at h ⊢
   obtain⟨id,c,T,fz,h1,h2,h3⟩:=h
   exact⟨id,c,T,fz,h1,hm _ _ h2,h3⟩
 | .aD b sz i o,cs,h=>by
   simp only [aB,LV.bV] at h ⊢
   obtain⟨id,h1,h2⟩:=h
   exact⟨id,h1,hm _ _ h2⟩
 | .cr c,cs,h=>by
   simp only [aB,LV.bV] at h ⊢
   obtain⟨blk,off,cc,T,fz,part,rest,h1,h2,h3,h4,h5,h6,h7⟩:=h
   exact⟨blk,off,cc,T,fz,part,rest,h1,h2,h3,h4,by rw [LV.ajs];exact h5,aB.bV f hm c part h6,by rw [LV.di f c h7];exact h7⟩
 | .dq g cap,cs,h=>by
   simp only [aB,LV.bV] at h ⊢
   obtain⟨vs,h1,h2,h3⟩:=h
   exact⟨vs,h1,aS.bV f hm 1 cap vs.toList h2,by rw [oI f cap h3];exact h3⟩
 | .bf _,_,h=>by simp [aB] at h
theorem aS.bV (f:Nat->Nat) (hm:∀ b id,μ b=some id->bm (f b)=some id) (sz:Nat):∀ (l:List LV) (cs:List Value),aS Z μ w sz l cs->aS Z bm w sz (dA f l) cs
 | [],cs,h=>by simpa [aS,dA] using h
 | x :: xs,cs,h=>by
   simp only [aS,dA] at h ⊢
   obtain⟨c1,c2,h1,h2,h3,h4⟩:=h
   exact⟨c1,c2,h1,h2,aB.bV f hm x c1 h3,aS.bV f hm sz xs c2 h4⟩
theorem cC.bV (f:Nat->Nat) (hm:∀ b id,μ b=some id->bm (f b)=some id):∀ (l:List LV) (cs:List Value),cC Z μ w l cs->cC Z bm w (dA f l) cs
 | [],cs,h=>by simpa [cC,dA] using h
 | x :: xs,cs,h=>by
   simp only [cC,dA] at h ⊢
   obtain⟨c1,c2,h1,h2,h3,h4⟩:=h
   exact⟨c1,c2,h1,by rw [LV.ajs];exact h2,aB.bV f hm x c1 h3,cC.bV f hm xs c2 h4⟩
end
theorem fS.bV (f:Nat->Nat) (hm:∀ b id,μ b=some id->bm (f b)=some id) {lv:LV} {v:Value} (h:fS Z μ w lv v):fS Z bm w (lv.bV f) v :=
 ⟨fun e=>let ⟨cs,h1,h2⟩:=h.1 (by rwa [LV.ahk] at e);⟨cs,h1,aB.bV f hm _ _ h2⟩,fun e=>aB.bV f hm _ _ (h.2 (by rwa [LV.ahk] at e))⟩
theorem gu.bV (f:Nat->Nat) (hm:∀ b id,μ b=some id->bm (f b)=some id):∀ (l:List LV) (vs:List Value),gu Z μ w l vs->gu Z bm w (dA f l) vs
 | [],_,h=>h
 | _ :: xs,_,⟨v,ks,h1,h2,h3⟩=>⟨v,ks,h1,h2.bV f hm,gu.bV f hm xs ks h3⟩
theorem bh.bV (f:Nat->Nat) (hm:∀ b id,μ b=some id->bm (f b)=some id) {lv:LV} {v:Value} (h:bh Z μ w lv v):bh Z bm w (lv.bV f) v:=by
 cases lv with
 | bf l=>obtain⟨vs,h1,h2⟩:=h;exact⟨vs,h1,gu.bV f hm _ _ h2⟩
 | any=>trivial
 | _=>exact fS.bV f hm h
end
def p7 (bs:List bg):bW:=fun n=>if n=0 then none else bs[n-1]?
def aiF (P:Program) (f:FuncId):Prop:=∃ fn,P.funcs[f]?=some fn/\fn.body.isNone=false/\(fn.name== "runtime.NumGoroutine")=false
def pW (P:Program) (f:FuncId) (args:List LV) (r:LV) (bs:List bg):Prop :=
 aiF P f/\∀ (W:World) (Z0:Nat->Prop) (vs:List Value),(∀ id,Z0 id->id<W.heap.size)->gu Z0 (fun _=>none) W args vs ->
  Calls P f vs.toArray W fun e w'=>∃ v μ Z,e=.returned v/\Core W XS.no Z0 μ Z (p7 bs) w'/\bh Z μ w' r v
def eE (d k:Nat):Nat:=1000000+d*16+k
def xn (μ ec:Nat->Option Nat) (d:Nat):Nat->Option Nat:=fun b =>
 if 1000000+d*16<=b/\b<1000000+d*16+16 then(ec (b-(1000000+d*16))).or (μ b) else μ b
section
variable {W w w':World} {X:XS} {Z0 Z Zr:Nat->Prop} {μ ec:Nat->Option Nat} {H:bW} {bs:List bg} {d:Nat}
theorem Core.call (hc:Core W X Z0 μ Z H w) (hr:Core w XS.no Z ec Zr (p7 bs) w') (hlen:bs.length<16) (oG:∀ blk∈bs,aN blk.vals=true)
  (hH:∀ i blk,bs[i]?=some blk->∃ m,H (eE d (i+1))=some ⟨blk.sz,blk.vals,m⟩/\(blk.mt=false->m=false)/\μ (eE d (i+1))=none) :
  ∃ Z',Core W X Z0 (xn μ ec d) Z' H w'/\(∀ id,Zr id->Z' id)/\(∀ id,Z id->Z' id)/\(∀ b id,μ b=some id->xn μ ec d b=some id)/\Frame Z μ w w' /\
   (∀ k id,ec k=some id->xn μ ec d (eE d k)=some id):=by
 have hk:∀ k id,ec k=some id->∃ blk,1<=k/\k<=bs.length/\bs[k-1]?=some blk/\p7 bs k=some blk:=fun k id h=>by
  obtain⟨blk,h1,_⟩:=hr.heap k id h
  have h0:k≠0:=by rintro rfl;simp [p7] at h1
  have h2:bs[k-1]?=some blk:=by simpa [p7,h0] using h1
  have:=(pj.1 h2).1
  exact⟨blk,ae,ae,h2,h1⟩
 have hHk:∀ k id,ec k=some id->∃ blk m,bs[k-1]?=some blk/\H (eE d k)=some ⟨blk.sz,blk.vals,m⟩/\(blk.mt=false->m=false)/\μ (eE d k)=none/\p7 bs k=some blk/\k<16:=fun k id h=>by
  obtain⟨blk,h1,h2,h3,h4⟩:=hk k id h
  obtain⟨m,g1,g2,g3⟩:=hH (k-1) blk h3
  have:k-1+1=k:=by omega
  rw [this] at g1 g3
  exact⟨blk,m,h3,g1,g2,g3,h4,ae⟩
 have mP:∀ k id,ec k=some id->xn μ ec d (eE d k)=some id:=fun k id h=>by
  obtain⟨blk,m,_,_,_,_,_,h6⟩:=hHk k id h
  unfold xn eE
  rw [if_pos ae]
  have:1000000+d*16+k-(1000000+d*16)=k:=by omega
  rw [this,h];rfl
 have hinv:∀ b id,xn μ ec d b=some id->(∃ k,b=eE d k/\ec k=some id)\/μ b=some id:=fun b id h=>by
  unfold xn at h
  split at h
  ·rename_i hb
   cases hq:ec (b-(1000000+d*16)) with
   | none=>rw [hq] at h;exact .inr nH
   | some id' =>
    rw [hq] at h
    simp only [Option.some_or,fB] at h
    subst h
    exact .inl ⟨b-(1000000+d*16),by unfold eE;omega,hq⟩
  ·exact .inr h
 have hold:∀ b id,μ b=some id->xn μ ec d b=some id:=fun b id h=>by
  unfold xn
  split
  ·rename_i hb
   cases hq:ec (b-(1000000+d*16)) with
   | none=>simpa using h
   | some id' =>
    obtain⟨blk,m,_,_,_,g,_⟩:=hHk _ _ hq
    have:eE d (b-(1000000+d*16))=b:=by unfold eE;omega
    rw [this,h] at g;cases g
  ·exact h
 have cg:∀ k id,ec k=some id->w.heap.size<=id:=fun k id h=>(hr.own k id h).resolve_right XS.ae2
 have se:∀ k,k<w.heap.size->w'.heap[k]?=w.heap[k]?:=fun k hk=>hr.cE.block k hk XS.ae2
 have dQ:=hc.awD se
 refine⟨fun id=>Zr id\/∃ k blk,ec k=some id/\H (eE d k)=some blk/\blk.mt=false,⟨?_,?_,fun id h=>.inl (hr.jS id (hc.jS id h)),?_,?_,?_,?_,hc.oZ,fun id h=>hold 0 id (hc.x1 id h),?_,?_,?_⟩,
  fun id h=>.inl h,fun id h=>.inl (hr.jS id h),hold,dQ,mP⟩
 ·exact⟨hr.cE.os.trans hc.cE.os,hr.cE.tape.trans hc.cE.tape,hr.cE.output.trans hc.cE.output,ba hc.cE.size hr.cE.size,
   fun k hk hx=>(se k (by have:=hc.cE.size;omega)).trans (hc.cE.block k hk hx),
   fun k hx c T fz h=>let ⟨c',g1,g2⟩:=hc.cE.vT k hx c T fz h;⟨c',(se k (nA.1 g1).1).trans g1,g2⟩⟩
 ·rintro id (h | ⟨k,blk,h,_⟩)
  ·exact hr.mc id h
  ·exact hr.lt h
 ·rintro id (h | ⟨k,blk,h,_⟩)
  ·rcases hr.me id h with h | h | h
   ·exact hc.me id h
   ·exact .inr (.inl (ba hc.cE.size h))
   ·exact h.elim
  ·exact .inr (.inl (ba hc.cE.size (cg k id h)))
 ·intro b b' id h h'
  rcases hinv b id h with⟨k,rfl,h1⟩ | h1<;>rcases hinv b' id h' with⟨k',rfl,h2⟩ | h2
  ·rw [hr.inj k k' id h1 h2]
  ·have:=cg k id h1;have:=hc.lt h2;omega
  ·have:=cg k' id h2;have:=hc.lt h1;omega
  ·exact hc.inj b b' id h1 h2
 ·intro b id h
  rcases hinv b id h with⟨k,rfl,h1⟩ | h1
  ·exact .inl (ba hc.cE.size (cg k id h1))
  ·exact hc.own b id h1
 ·intro b id h hx
  rcases hinv b id h with⟨k,rfl,h1⟩ | h1
  ·have:=cg k id h1;have:=hc.oZ id (.inl hx);have:=hc.cE.size;omega
  ·exact hc.x0 b id h1 hx
 ·intro b id blk h hb hm hz
  rcases hinv b id h with⟨k,rfl,h1⟩ | h1
  ·obtain⟨vc,m,_,g2,g3,_,g5,_⟩:=hHk k id h1
   rw [g2] at hb;cases hb
   simp only at hm;subst hm
   have iB:vc.mt=true:=by
    cases e:vc.mt with
    | true=>rfl
    | false=>exact absurd (g3 e) aM
   rcases hz with hz | ⟨k',blk',j1,j2,j3⟩
   ·exact hr.jD k id vc h1 g5 iB hz
   ·have:=hr.inj k k' id h1 j1
    subst this
    rw [g2] at j2;cases j2;simp at j3
  ·rcases hz with hz | ⟨k',blk',j1,j2,j3⟩
   ·rcases hr.me id hz with h | h | h
    ·exact hc.jD b id blk h1 hb hm h
    ·have:=hc.lt h1;omega
    ·exact h.elim
   ·have:=cg k' id j1;have:=hc.lt h1;omega
 ·intro b id blk h hb hm
  rcases hinv b id h with⟨k,rfl,h1⟩ | h1
  ·exact .inr ⟨k,blk,h1,hb,hm⟩
  ·exact .inl (hr.jS id (hc.cd b id blk h1 hb hm))
 ·intro b id h
  rcases hinv b id h with⟨k,rfl,h1⟩ | h1
  ·obtain⟨vc,m,g1,g2,g3,_,g5,_⟩:=hHk k id h1
   obtain⟨aiW,j1,c,T,part,rest,j2,j3,j4⟩:=hr.heap k id h1
   rw [g5] at j1;cases j1
   exact⟨_,g2,c,T,part,rest,j2,j3,aS.kW (fun id h=>.inl h) (fun _ _=>rfl) _ _ _ (oG vc (sR g1)) j4⟩
  ·obtain⟨blk,g1,g2⟩:=hc.heap b id h1
   exact⟨blk,g1,g2.mono (fun id h=>.inl (hr.jS id h)) hold dQ (se id (hc.lt h1))⟩
def acN (blk:bg):bW:=fun n=>if n=0 then some blk else none
def wj (id:Nat):Nat->Option Nat:=fun n=>if n=0 then some id else none
def nO (P:Program) (f:FuncId) (blk:bg) (args:List LV) (r:LV) (blk':bg):Prop :=
 aiF P f/\∀ (W:World) (Z0:Nat->Prop) (vs:List Value) (i0:Nat),(∀ id,Z0 id->id<W.heap.size)->¬ Z0 i0->u7 Z0 (wj i0) W blk i0->gu Z0 (wj i0) W args vs ->
  Calls P f vs.toArray W fun e w'=>∃ v μ Z,e=.returned v/\Core W (XS.one i0) Z0 μ Z (acN blk') w'/\bh Z μ w' r v
theorem Core.aDk {b i0:Nat} {blk blk':bg} (hc:Core W X Z0 μ Z H w) (hb:μ b=some i0) (hH:H b=some blk) (hm:blk.mt=true) (qH:blk'.mt=true) (kG:aN blk'.vals=true)
  (hr:Core w (XS.one i0) Z ec Zr (acN blk') w') :
  ∃ Z',Core W X Z0 μ Z' (fun k=>if k=b then some blk' else H k) w'/\(∀ id,Zr id->Z' id)/\(∀ id,Z id->Z' id)/\Frame Z μ w w'/\∀ k id,ec k=some id->k=0/\id=i0:=by
 have uv:=hr.x1 i0 rfl
 have lS:∀ k id,ec k=some id->k=0/\id=i0:=fun k id h=>by
  obtain⟨aiW,h1,_⟩:=hr.heap k id h
  have:k=0:=by
   unfold acN at h1;split at h1
   ·assumption
   ·cases h1
  subst this
  rw [uv] at h;cases h
  exact⟨rfl,rfl⟩
 have aLs:=hc.lt hb
 have se:∀ k,k<w.heap.size->k≠i0->w'.heap[k]?=w.heap[k]?:=fun k hk hx=>hr.cE.block k hk (fun e=>hx (XS.ayx e))
 have sY:¬ Z i0:=hc.jD b i0 blk hb hH hm
 have dQ:Frame Z μ w w':=by
  refine⟨fun id h=>se id (hc.mc id h) (fun e=>sY (e ▸ h)),fun c id h cc T fz rH=>?_⟩
  by_cases e:id=i0
  ·subst e
   exact hr.cE.vT id (.inl rfl) cc T fz rH
  ·exact⟨cc,(se id (hc.lt h) e).trans rH,rfl⟩
 refine⟨Zr,⟨?_,hr.mc,fun id h=>hr.jS id (hc.jS id h),?_,hc.inj,hc.own,hc.x0,hc.oZ,hc.x1,?_,?_,?_⟩,fun _ h=>h,hr.jS,dQ,lS⟩
 ·refine⟨hr.cE.os.trans hc.cE.os,hr.cE.tape.trans hc.cE.tape,hr.cE.output.trans hc.cE.output,ba hc.cE.size hr.cE.size,fun k hk hx=>?_,fun k hx c T fz h=>?_⟩
  ·have:k≠i0:=by
    rintro rfl
    rcases hc.own b k hb with h | h
    ·omega
    ·exact hx h
   exact(se k (by have:=hc.cE.size;omega) this).trans (hc.cE.block k hk hx)
  ·obtain⟨c',g1,g2⟩:=hc.cE.vT k hx c T fz h
   by_cases e:k=i0
   ·subst e
    obtain⟨c2,g3,g4⟩:=hr.cE.vT k (.inl rfl) c' T fz g1
    exact⟨c2,g3,g4.trans g2⟩
   ·exact⟨c',(se k (nA.1 g1).1 e).trans g1,g2⟩
 ·intro id h
  rcases hr.me id h with h | h | h
  ·exact hc.me id h
  ·exact .inr (.inl (ba hc.cE.size h))
  ·exact h.elim
 ·intro c id bk h g fQ hz
  rcases hr.me id hz with hz' | hz' | hz'
  ·by_cases e:c=b
   ·subst e;rw [hb] at h;cases h;exact sY hz'
   ·rw [if_neg e] at g;exact hc.jD c id bk h g fQ hz'
  ·have:=hc.lt h;omega
  ·exact hz'.elim
 ·intro c id bk h g fQ
  by_cases e:c=b
  ·rw [if_pos e] at g;cases g;rw [qH] at fQ;cases fQ
  ·rw [if_neg e] at g;exact hr.jS id (hc.cd c id bk h g fQ)
 ·intro c id h
  by_cases e:c=b
  ·subst e;rw [hb] at h;cases h
   obtain⟨bk,g1,cc,T,part,rest,g2,g3,g4⟩:=hr.heap 0 i0 uv
   simp only [acN,if_true] at g1
   cases g1
   exact⟨blk',if_pos rfl,cc,T,part,rest,g2,g3,aS.kW (fun _ h=>h) (fun _ _=>rfl) _ _ _ kG g4⟩
  ·obtain⟨bk,g1,g2⟩:=hc.heap c id h
   have aX:id≠i0:=fun e'=>e (hc.inj c b id h (e' ▸ hb))
   exact⟨bk,by rw [if_neg e];exact g1,g2.mono hr.jS (fun _ _ h=>h) dQ (se id (hc.lt h) aX)⟩
end
end Go.Lg
namespace Go.Lg
def mT (P:Program) (T:TypeId) (n:Nat):Prop:=∃ i,P.info? T=some i/\i.bytes=n
inductive dE (P:Program) (ρ:Operand->LV) (d:Nat):Op->LV->bg->Prop
 | make {T E l c kl kc z sz dP n m} (hT:P.underlying T=some (.slice E)) (hz:dp P E z) (hE:bE P E sz z.isAgg) (dX:z.aw=sz) (hb:mT P E dP)
   (hl:ρ l=.v (.int kl (n:Nat))) (hc:ρ c=.v (.int kc (m:Nat))) (kK:n<=m) (hm:dP*m<=281474976710656) (fe:m<=9223372036854775807) :
   dE P ρ d (.makeSlice T l c) (.ref d sz 0 n) ⟨sz,ay n z,true⟩
 | lit {T E n ps z sz} (hT:P.underlying T=some (.slice E)) (hz:dp P E z) (hE:bE P E sz z.isAgg) (dX:z.aw=sz) (hn:n*sz<=16777216) (h0:0<n) (dO:0<sz)
   (hp:∀ p∈ps.toList,p.1<n/\lay (ρ p.2)=lay z/\ρ p.2≠.any/\∀ m,ρ p.2≠.bf m) :
   dE P ρ d (.buildSlice T n ps) (.ref d sz 0 n) ⟨sz,kh (ay n z) (ps.toList.map fun p=>(p.1,ρ p.2)),true⟩
 | aiJ {T E sz ag} (hT:P.underlying T=some (.slice E)) (hE:bE P E sz ag):dE P ρ d (.buildSlice T 0 #[]) (.ref d sz 0 0) ⟨sz,[],true⟩
 | box {T x} (aX:ρ x≠.any/\∀ m,ρ x≠.bf m):dE P ρ d (.box T x) (.aD d (ρ x).aw 0 0) ⟨(ρ x).aw,[ρ x],true⟩
 | alloc {T z} (hz:dp P T z):dE P ρ d (.alloc T) (.aD d z.aw 0 0) ⟨z.aw,[z],true⟩
inductive OpC (P:Program) (H:bW) (ρ:Operand->LV) (d:Nat):Op->LV->List bg->Prop
 | func {f xs as args r bs} (ha:fY H (xs.toList.map ρ) args) (hk:pW P f args r bs) (hlen:bs.length<16) (oG:∀ blk∈bs,aN blk.vals=true) :
   OpC P H ρ d (.call ⟨.value (.func f),xs,as⟩) (r.bV (eE d)) bs
 | dq {t f cap xs as args r bs} (ht:ρ (.tmp t)=.dq f cap) (ha:fY H (xs.toList.map ρ) args) (xT:aN cap=true/\∀ x∈cap,x.aw=1/\x.isAgg=false) (hk:pW P f (args++cap) r bs)
   (hlen:bs.length<16) (oG:∀ blk∈bs,aN blk.vals=true) :
   OpC P H ρ d (.call ⟨.value (.tmp t),xs,as⟩) (r.bV (eE d)) bs
 | mk {f xs caps} (ha:fY H (xs.toList.map ρ) caps) (h1:∀ x∈caps,x.aw=1/\x.isAgg=false):OpC P H ρ d (.makeFunc (.func f) #[] xs) (.dq f caps) []
inductive nC (P:Program) (H:bW) (ρ:Operand->LV) (d:Nat):Op->LV->List (Nat × bg)->Prop
 | pure {op r} (h:aF P H ρ op r):nC P H ρ d op r []
 | alloc {op r blk} (h:dE P ρ d op r blk):nC P H ρ d op r [(d,blk)]
 | call {op r bs} (h:OpC P H ρ d op r bs):nC P H ρ d op r (bs.mapIdx fun i blk=>(eE d (i+1),blk))
section
variable {P:Program} {W w:World} {X:XS} {Z0 Z:Nat->Prop} {μ:Nat->Option Nat} {H H':bW} {ρ:Operand->LV} {a:Act}
theorem aF.le {op:Op} {r:LV} (hle:H.le H') (h:aF P H ρ op r):aF P H' ρ op r:=by
 cases h with
 | gj hp hb hs hi hx hr hT =>
  obtain⟨m,g1,_⟩:=hle _ _ hb
  exact .gj (blk:=⟨_,_,m⟩) hp g1 hs hi hx hr hT
 | move x=>exact .move x
 | assign x=>exact .assign x
 | pick h=>exact .pick h
 | bin hx hy h=>exact .bin hx hy h
 | sh hx hy h=>exact .sh hx hy h
 | beq hx hy hT=>exact .beq hx hy hT
 | bne hx hy hT=>exact .bne hx hy hT
 | not hx=>exact .not hx
 | neg hx=>exact .neg hx
 | conv hS hD hx=>exact .conv hS hD hx
 | extract ht hr aX=>exact .extract ht hr aX
 | field hx hT hr aX=>exact .field hx hT hr aX
 | zV hp hT hr=>exact .zV hp hT hr
 | abp hp hT hk=>exact .abp hp hT hk
 | z5 hp hT hc=>exact .z5 hp hT hc
 | afx hx=>exact .afx hx
 | aaX hx hT hE hf hi h0 hr hp=>exact .aaX hx hT hE hf hi h0 hr hp
 | abL hx hT hE hi h0 hm=>exact .abL hx hT hE hi h0 hm
 | abx hx hT hE hf hi h0 hr=>exact .abx hx hT hE hf hi h0 hr
 | aaW hT hE hf hz hp=>exact .aaW hT hE hf hz hp
 | ae6 hx=>exact .ae6 hx
 | kQ hx hT hE hi h0 hr hc=>exact .kQ hx hT hE hi h0 hr hc
 | xe hx hT hE hi h0 hn=>exact .xe hx hT hE hi h0 hn
 | ad0 hx hT hE a b c d e f=>exact .ad0 hx hT hE a b c d e f
 | wS hx hT hE a b c d e f g=>exact .wS hx hT hE a b c d e f g
 | af1 hx hT hE a b c d e f g i=>exact .af1 hx hT hE a b c d e f g i
 | aaj hx has hT=>exact .aaj hx has hT
 | aa8 hx has hT=>exact .aa8 hx has hT
 | aaO hx has hT=>exact .aaO hx has hT
 | alX hx has hT=>exact .alX hx has hT
 | abf hx has hT=>exact .abf hx has hT
 | aes hx has hT=>exact .aes hx has hT
 | aed hx hT hE a b c d e f g=>exact .aed hx hT hE a b c d e f g
 | aj1 hx hT hE hh=>exact .aj1 hx hT hE hh
 | min2 hx hy=>exact .min2 hx hy
 | max2 hx hy=>exact .max2 hx hy
 | ahZ hx hT hi h0 hb=>exact .ahZ hx hT hi h0 hb
 | abj hf ry hb hn he hx hr h1 h2=>exact .abj hf ry hb hn he hx hr h1 h2
 | zR hx hy h=>exact .zR hx hy h
 | eqS hx hy=>exact .eqS hx hy
 | eqN hx hy hT=>exact .eqN hx hy hT
 | aao hx hy hT=>exact .aao hx hy hT
 | zJ hx hy hT hE hs hd=>exact .zJ hx hy hT hE hs hd
 | amX hS hE hD hx hb hs hv hl =>
  obtain⟨m,h1,_⟩:=hle _ _ hb
  exact .amX hS hE hD hx h1 hs hv hl
 | build hT hz hp=>exact .build hT hz hp
theorem nC.le {op:Op} {r:LV} {d:Nat} {fr:List (Nat × bg)} (hle:H.le H') (h:nC P H ρ d op r fr):nC P H' ρ d op r fr:=by
 cases h with
 | pure h=>exact .pure (h.le hle)
 | alloc h=>exact .alloc h
 | call h =>
  refine .call ?_
  cases h with
  | func ha hk hlen oG=>exact .func (fY.le hle ha) hk hlen oG
  | dq ht ha xT hk hlen oG=>exact .dq ht (fY.le hle ha) xT hk hlen oG
  | mk ha h1=>exact .mk (fY.le hle ha) h1
theorem ahg (hc:Core W X Z0 μ Z H w):∀ (xs:List Operand) (args:List LV),fY H (xs.map ρ) args->(∀ x∈xs,bh Z μ w (ρ x) (a.eval x)) ->
  gu Z (fun _=>none) w args (xs.map a.eval)
 | [],_,h,_=>by cases h;rfl
 | x :: xs,_,h,hr=>by
   cases h with
   | cons h t =>
    exact⟨_,_,rfl,cY.abT hc h (hr x aM),ahg hc xs _ t (fun y hy=>hr y (by simp [hy]))⟩
theorem gu.append:∀ (l m:List LV) (vs us:List Value),gu Z μ w l vs->gu Z μ w m us->gu Z μ w (l++m) (vs++us)
 | [],m,vs,us,h,h'=>by cases h;exact h'
 | x :: xs,m,_,us,⟨v,ks,e,h1,h2⟩,h'=>by
   subst e
   exact⟨v,ks++us,by simp,h1,gu.append xs m ks us h2 h'⟩
theorem awI {bm:Nat->Option Nat}:∀ (l:List LV) (cs:List Value),aN l=true->(∀ x∈l,x.aw=1/\x.isAgg=false)->aS Z μ w 1 l cs->gu Z bm w l cs
 | [],cs,_,_,h=>by simp only [aS] at h;exact h
 | x :: xs,cs,hp,h1,h=>by
   simp only [aS] at h
   obtain⟨c1,c2,rfl,h2,h3,h4⟩:=h
   match c1,h2 with
   | [y],_ =>
    refine⟨y,c2,rfl,⟨fun e=>?_,fun _=>aB.kW (fun _ h=>h) (fun _ _=>rfl) _ _ (pure_cons hp).1 h3⟩,awI xs c2 (pure_cons hp).2 (fun z hz=>h1 z (by simp [hz])) h4⟩
    rw [(h1 x aM).2] at e;cases e
theorem av7 {bm:Nat->Option Nat}:∀ (l:List LV) (vs:List Value),aN l=true->(∀ x∈l,x.aw=1/\x.isAgg=false)->gu Z μ w l vs->aS Z bm w 1 l vs
 | [],vs,_,_,h=>by simp only [aS];exact h
 | x :: xs,_,hp,h1,⟨v,ks,e,h2,h3⟩=>by
   subst e
   simp only [aS]
   exact⟨[v],ks,rfl,rfl,aB.kW (fun _ h=>h) (fun _ _=>rfl) _ _ (pure_cons hp).1 (h2.2 (h1 x aM).2),av7 xs ks (pure_cons hp).2 (fun z hz=>h1 z (by simp [hz])) h3⟩
theorem aiI {f:FuncId} {args:Array Value} (h:aiF P f):(callFunc f args).run P w=.ok (.enter f args) w:=by
 obtain⟨fn,h1,h2,h3⟩:=h
 simp only [callFunc,Sem.run_bind,run_program,Result.andThen_ok,h1,h3,adL,if_false,h2,Sem.run_pure]
theorem akJ (z:Array Value) (hz:0<z.size):∀ n,(madeCells z (n*z.size)).toList=(ay n z.toList).flatten
 | 0=>by simp [madeCells]
 | n+1=>by
   have ih:=akJ z hz n
   simp only [madeCells,Array.toList_map,Array.toList_range] at ih ⊢
   rw [v9,List.range_add,List.map_append,ih,List.replicate_succ',arN,List.map_map]
   congr 1
   simp only [akN,List.flatten_nil,ng]
   apply vk
   ·simp
   ·intro j h1 h2
    simp at h1
    simp [iW h1,h1]
theorem aGy {sz:Nat} {z:LV} {ch:List Value} (h:aB Z μ w z ch) (hl:ch.length=sz) (n m:Nat) (kK:n<=m) :
  ∃ part rest,(ay m ch).flatten=part++rest/\aS Z μ w sz (ay n z) part:=by
 refine⟨(ay n ch).flatten,(ay (m-n) ch).flatten,?_,aS.replicate h hl n⟩
 rw [<-arN,List.replicate_append_replicate,Nat.add_sub_cancel' kK]
theorem aDa {ec:Nat->Option Nat} {d:Nat} {b:Nat} (h:xn μ ec d b≠none):μ b≠none\/∃ k,b=eE d k/\ec k≠none:=by
 unfold xn at h
 split at h
 ·cases hq:ec (b-(1000000+d*16)) with
  | none=>rw [hq] at h;exact .inl nH
  | some id=>exact .inr ⟨b-(1000000+d*16),by unfold eE;omega,by rw [hq];simp⟩
 ·exact rB
structure ahu (W:World) (X:XS) (Z0:Nat->Prop) (μ:Nat->Option Nat) (Z:Nat->Prop) (H:bW) (w:World) (r:LV) (fr:List (Nat × bg)) (v:Value) (w':World) (bm:Nat->Option Nat) (Z':Nat->Prop):Prop where
 core:Core W X Z0 bm Z' H w'
 hz:∀ id,Z id->Z' id
 hm:∀ b id,μ b=some id->bm b=some id
 hf:Frame Z μ w w'
 rep:bh Z' bm w' r v
 new:∀ b,bm b≠none->μ b≠none\/b∈fr.map (·.1)
theorem awk {f:FuncId} {vs:Array Value} {d:Nat} {args:List LV} {r:LV} {bs:List bg} {o:Oper} {K:Act->World->Prop} {Q:Exit->Act->World->Prop}
  (hc:Core W X Z0 μ Z H w) (hk:pW P f args r bs) (hlen:bs.length<16) (oG:∀ blk∈bs,aN blk.vals=true)
  (hargs:gu Z (fun _=>none) w args vs.toList)
  (dQ:∀ i blk,bs[i]?=some blk->∃ m,H (eE d (i+1))=some ⟨blk.sz,blk.vals,m⟩/\(blk.mt=false->m=false)/\μ (eE d (i+1))=none)
  (fw:(execOp a.eval o).run P w=.ok (.enter f vs) w)
  (hK:∀ v w' bm Z',ahu W X Z0 μ Z H w (r.bV (eE d)) (bs.mapIdx fun i blk=>(eE d (i+1),blk)) v w' bm Z'->K (a.put o.dst v) w'):o.wp P a w K Q:=by
 unfold Oper.wp
 rw [fw,Oper.upon_enter]
 have:=hk.2 w Z vs.toList hc.mc hargs
 rw [Array.toArray_toList] at this
 refine this.mono ?_
 rintro e w' ⟨v,ec,Zr,rfl,hr,hv⟩
 obtain⟨Z',h1,h2,h3,h4,h5,h6⟩:=hc.call hr hlen oG dQ
 refine hK v w' _ Z' ⟨h1,h3,h4,h5,?_,?_⟩
 ·exact(hv.mono h2 (fun _ _ h=>h) ⟨fun _ _=>rfl,(Frame.refl Zr ec w').m⟩).bV (eE d) h6
 ·intro b hb
  rcases aDa hb with h | ⟨k,rfl,h⟩
  ·exact rB
  ·right
   obtain⟨id,hid⟩:=ak9.1 h
   obtain⟨blk,g1,_⟩:=hr.heap k id hid
   have h0:k≠0:=by rintro rfl;simp [p7] at g1
   have g2:bs[k-1]?=some blk:=by simpa [p7,h0] using g1
   simp only [cQ,aw4]
   refine⟨_,⟨k-1,(pj.1 g2).1,rfl⟩,?_⟩
   show eE d (k-1+1)=eE d k
   congr 1;omega
theorem ar7 {sz:Nat}:∀ (l:List LV) (cs:List Value),(∀ x∈l,x.aw=sz)->aS Z μ w sz l cs->cC Z μ w l cs
 | [],cs,_,h=>by simpa [aS,cC] using h
 | x :: xs,cs,hx,h=>by
   simp only [aS,cC] at h ⊢
   obtain⟨c1,c2,h1,h2,h3,h4⟩:=h
   exact⟨c1,c2,h1,by rw [h2,hx x aM],h3,ar7 xs c2 (fun y hy=>hx y (by simp [hy])) h4⟩
theorem axB {sz:Nat}:∀ (l:List LV) (cs:List Value),(∀ x∈l,x.aw=sz)->cC Z μ w l cs->aS Z μ w sz l cs
 | [],cs,_,h=>by simpa [aS,cC] using h
 | x :: xs,cs,hx,h=>by
   simp only [aS,cC] at h ⊢
   obtain⟨c1,c2,h1,h2,h3,h4⟩:=h
   exact⟨c1,c2,h1,by rw [h2,hx x aM],h3,axB xs c2 (fun y hy=>hx y (by simp [hy])) h4⟩
theorem atQ (x:Nat × Bool):∀ n,oq (ay n x)=n*x.1
 | 0=>by simp [oq]
 | n+1=>by simp [ana,oq,atQ x n,v9];omega
theorem apN:∀ (qs:List (Nat × LV)) (zs:List LV) (n:Nat × Bool),(∀ x∈zs,lay x=n)->(∀ q∈qs,lay q.2=n)->∀ x∈kh zs qs,lay x=n
 | [],zs,n,h,_=>h
 | q :: qs,zs,n,h,hq=>by
   refine apN qs (zs.set q.1 q.2) n (fun x hx=>?_) (fun q' h'=>hq q' (by simp [h']))
   rcases List.mem_or_eq_of_mem_set hx with hx | rfl
   ·exact h x hx
   ·exact hq q aM
theorem aE9 {T E:TypeId} {n:Nat} {ps:Array (Nat × Operand)} {z:LV} {sz:Nat} (hT:P.underlying T=some (.slice E)) (hz:dp P E z) (hE:bE P E sz z.isAgg) (dX:z.aw=sz)
  (hn:n*sz<=16777216) (h0:0<n) (dO:0<sz) (hp:∀ p∈ps.toList,p.1<n/\lay (ρ p.2)=lay z/\ρ p.2≠.any/\∀ m,ρ p.2≠.bf m)
  (cx:∀ p∈ps.toList,bh Z μ w (ρ p.2) (a.eval p.2)) :
  ∃ cs,(Instr.buildSlice T n (ps.map fun(i,x)=>(i,a.eval x))).run P w=.ok (.slice (some ⟨w.heap.size,0,none⟩) n n) (w.alloc (.cells cs E)) /\
   aS Z μ w sz (kh (ay n z) (ps.toList.map fun p=>(p.1,ρ p.2))) cs.toList:=by
 obtain⟨i,zv,z1,z2,z3,z4⟩:=hz
 have aX:=LV.fp z3
 have bI:i.size=sz:=by have:=hE.1;rw [z1] at this;simpa using this
 have o5:=aB.len (z4 Z μ w) aX
 have ajU:zv.cells.size=sz:=by rw [<-n9,o5,dX]
 have aBS:(madeCells zv.cells (n*sz)).toList=(ay n zv.cells.toList).flatten:=by
  have:=akJ zv.cells ae n
  rwa [ajU] at this
 have eO:aS Z μ w sz (ay n z) (madeCells zv.cells (n*sz)).toList:=by
  rw [aBS];exact aS.replicate (z4 Z μ w) (by rw [o5,dX]) n
 have hcz:∀ x∈ay n z,x.aw=sz:=fun x hx=>by rw [(sZ.1 hx).2,dX]
 obtain⟨cs,f1,f2⟩:=aiP (Z:=Z) (μ:=μ) (w:=w) (ls:=ay n (lay z)) (fun k=>some (k*sz,sz))
  (fun k m hk=>by
   obtain⟨h1,h2⟩:=pj.1 hk
   simp at h1 h2
   subst h2
   rw [List.take_replicate,atQ,mf ae]
   simp [lay,dX])
  (ps.toList.map fun p=>(p.1,a.eval p.2)) (ps.toList.map fun p=>(p.1,ρ p.2)) (ay n z) (madeCells zv.cells (n*sz)) aM (ar7 _ _ hcz eO) aM
  (fun j p q kE rX=>by
   simp only [g8,aab] at kE rX
   obtain⟨x,hx,rfl⟩:=kE
   obtain⟨y,hy,rfl⟩:=rX
   rw [hx] at hy;cases hy
   have hm:=sR hx
   obtain⟨_,_,h3,h4⟩:=hp x hm
   exact⟨bh.zo h4 h3 (cx x hm),h3⟩)
  (fun q hq=>by
   simp only [cQ] at hq
   obtain⟨x,hx,rfl⟩:=hq
   obtain⟨h1,h2,_⟩:=hp x hx
   exact⟨lay z,by simp [h1],h2⟩)
 refine⟨cs,?_,axB _ _ (fun x hx=>?_) f2⟩
 ·have z9:(zeroValue E).run P w=.ok zv w:=by simp [zeroValue,typeInfo,z1,z2]
  have hso:(sizeOf E).run P w=.ok sz w:=run_sizeOf hE
  have hns:¬ n*sz=0:=by
   intro h;rcases aj0.1 h with h | h<;>omega
  have hle:¬ 2 ^ 24<n*sz:=by
   have:(2:Nat) ^ 24=16777216:=by decide
   omega
  have hps:(afz (fun x=>match x with | (i,x)=>(i,a.eval x)) ps).toList=ps.toList.map fun p=>(p.1,a.eval p.2):=by simp
  simp only [Instr.buildSlice,Sem.run_bind,run_underlying hT,Result.andThen_ok,hso,gt_iff_lt,hle,if_false,Sem.run_ite,hns,z9,Sem.run_pure,hps]
  have hmk:(awm (n*sz)).map (fun x=>zv.cells[x % zv.cells.size]!)=madeCells zv.cells (n*sz):=rfl
  rw [hmk,f1]
  rfl
 ·have hb:=apN (ps.toList.map fun p=>(p.1,ρ p.2)) (ay n z) (lay z) (fun x hx=>by rw [(sZ.1 hx).2]) (fun q hq=>by
   simp only [cQ] at hq
   obtain⟨y,hy,rfl⟩:=hq
   exact(hp y hy).2.1) x hx
  have:=congrArg Prod.fst hb
  simpa [lay,dX] using this
theorem amE (z:Array Value) (n:Nat):(Builtin.zeroCells z n).toList=(ay n z.toList).flatten:=by
 have hl:((ay n z.toList).flatten).length=n*z.size:=by
  induction n with
  | zero=>simp
  | succ n ih=>simp only [ana,akN,lT,ih,v9];simp;omega
 refine vk (by rw [hl];simp [Builtin.zeroCells]) (fun i h1 h2=>?_)
 have hi:i<n*z.size:=by rw [hl] at h2;exact h2
 have hz:0<z.size:=Nat.pos_of_ne_zero fun e=>by rw [e] at hi;simp at hi
 have key:∀ (n i:Nat),i<n*z.size->(ay n z.toList).flatten[i]?=z.toList[i % z.size]?:=by
  intro n
  induction n with
  | zero=>intro i h;simp at h
  | succ n ih =>
   intro i h
   rw [ana,akN]
   rcases gC i z.size with h3 | h3
   ·rw [aaM (by simpa using h3),iW h3]
   ·rw [ae8 (by simpa using h3)]
    have e:z.toList.length=z.size:=by simp
    rw [e,ih (i-z.size) (by rw [v9] at h;omega),<-Nat.mod_eq_sub_mod h3]
 have h3:=key n i hi
 rw [b7 h2] at h3
 have hm:i % z.size<z.size:=Nat.mod_lt _ hz
 rw [b7 (by simpa using hm)] at h3
 simp only [fB] at h3
 rw [h3]
 simp [Builtin.zeroCells,hm]
theorem aAn {P:Program} {w:World} (T U E ty:TypeId) (k kl:IntKind) (i:TypeInfo) (z:Value) (ht:P.underlying T=some (.slice E)) (hu:P.underlying U=some (.int k)) (hi:P.info? E=some i) (hz:i.zero=some z) (n:Nat)
  (h0:0<n) (dO:0<i.size) (gU:(n:Int)<=4611686018427387904) (l6:n*i.bytes<=140737488355328) (qA:Builtin.nextslicecap n 0*i.bytes<=281474976710656) :
  (Builtin.append_ #[T,U] ty #[.slice none 0 0,.int kl (n:Int)]).run P w =
   .ok (.slice (some ⟨w.heap.size,0,none⟩) n (grownCap w n 0 E))
    (w.drew.alloc (.cells (Builtin.zeroCells z.cells n++Builtin.zeroCells z.cells (grownCap w n 0 E-n)) E)):=by
 have hn:¬ (n<=0):=by omega
 have jn:¬ n=0:=by omega
 have hw:IntKind.i64.wrap (n:Int)=(n:Int):=by simp [IntKind.wrap,show IntKind.i64.bits=64 from rfl];omega
 have h1:¬ ((n:Int)<0):=by omega
 have h2:¬ (281474976710656<(n:Int)*(i.bytes:Int)):=by
  have h5:((n*i.bytes:Nat):Int)<=140737488355328:=by omega
  rw [asW] at h5
  omega
 have alm:¬ (9223372036854775807<(n:Int)):=by omega
 have amg:¬ (281474976710656<Builtin.nextslicecap n 0*i.bytes):=by omega
 have bI:¬ (i.size=0):=by omega
 simp [Builtin.append_,run_underlying ht,run_underlying hu,sizeOf,typeInfo,zeroValue,hi,hz,hn,jn,hw,h1,h2,alm,amg,asInt,asIntOf,Question.forced,Builtin.firstCells,newRow,grownCap]
 intro h
 rcases aj0.1 h with h | h<;>omega
theorem aDO {op:Op} {r:LV} {d:Nat} {blk:bg} (hc:Core W X Z0 μ Z H w) (ho:dE P ρ d op r blk) (cx:∀ x∈op.operands,bh Z μ w (ρ x) (a.eval x))
  {m:Bool} (hH:H d=some ⟨blk.sz,blk.vals,m⟩) (uh:μ d=none) (dst:Option Tmp) (ty:TypeId) (pos:String) (after:Array Edge) (g:Option (Nat × Bool)) :
  ∃ v w' bm Z',(execOp a.eval ⟨dst,op,ty,pos,after,g⟩).run P w=.ok (.value v) w'/\ahu W X Z0 μ Z H w r [(d,blk)] v w' bm Z':=by
 have mP:∀ id b,q7 μ d id b≠none->μ b≠none\/b∈[(d,blk)].map (·.1):=fun id b h=>by
  unfold q7 at h
  split at h
  ·subst_vars;right;simp
  ·exact rB
 cases ho with
 | @make T E l c kl kc z sz dP n cp hT hz hE dX hb hl gh kK jY fe =>
  obtain⟨i,zv,z1,z2,z3,z4⟩:=hz
  have e1:=cx l bU;rw [hl] at e1;have e1:=e1.eI
  have e2:=cx c bU;rw [gh] at e2;have e2:=e2.eI
  have aX:=LV.fp z3
  have bI:i.size=sz:=by have:=hE.1;rw [z1] at this;simpa using this
  have l6:i.bytes=dP:=by obtain⟨i',g1,g2⟩:=hb;rw [z1] at g1;cases g1;exact g2
  have o5:=aB.len (z4 Z μ w) aX
  have ajU:zv.cells.size=sz:=by rw [<-n9,o5,dX]
  have hr:=run_make (P:=P) w T E i zv hT z1 z2 kl kc (n:Int) (cp:Int) ae ae (by rw [l6];omega) ae
  simp only [Int.toNat_natCast,bI] at hr
  obtain⟨part,rest,p1,p2⟩:=aGy (sz:=sz) (z4 Z μ w) (by rw [o5,dX]) n cp kK
  have akW:(madeCells zv.cells (cp*sz)).toList=part++rest:=by
   by_cases ni:0<zv.cells.size
   ·rw [<-ajU,akJ _ ni,p1]
   ·have:sz=0:=by omega
    rw [<-p1,this]
    have h0:zv.cells.toList=[]:=by
     apply nM;rw [n9];omega
    simp [madeCells,h0]
  obtain⟨Z',h1,h2,h3,h4,h5,h6⟩:=hc.push hH uh (tf.alloc w (.cells (madeCells zv.cells (cp*sz)) E)) akW p2
  refine⟨_,_,_,Z',by simp only [execOp,e1,e2];rw [Sem.run_bind,hr];rfl,h1,h2,h3,h4,⟨by simp [LV.isAgg],fun _=>?_⟩,mP _⟩
  simp only [aB]
  exact .inr ⟨w.heap.size,cp,_,E,(0,0),by simp,h5,kK,h6,by rw [size_madeCells];simp⟩
 | @lit T E n ps z sz hT hz hE dX hn h0 dO hp =>
  have hpm:∀ p∈ps.toList,bh Z μ w (ρ p.2) (a.eval p.2):=fun p hp=>cx p.2 (by simp [Op.operands];exact⟨p.1,by simpa using hp⟩)
  obtain⟨cs,r1,r2⟩:=aE9 (P:=P) (Z:=Z) (μ:=μ) (w:=w) (a:=a) hT hz hE dX hn h0 dO hp hpm
  obtain⟨Z',h1,h2,h3,h4,h5,h6⟩:=hc.push hH uh (tf.alloc w (.cells cs E)) (ng _).symm r2
  refine⟨_,_,_,Z',by simp only [execOp];rw [Sem.run_bind,r1];rfl,h1,h2,h3,h4,⟨by simp [LV.isAgg],fun _=>?_⟩,mP _⟩
  simp only [aB]
  have hl:=aS.length _ _ r2
  have tp:(kh (ay n z) (ps.toList.map fun p=>(p.1,ρ p.2))).length=n:=by
   have:∀ (qs:List (Nat × LV)) (zs:List LV),(kh zs qs).length=zs.length:=fun qs=>by
    induction qs with
    | nil=>intro zs;rfl
    | cons q qs ih=>intro zs;exact(ih _).trans aM
   rw [this];simp
  exact .inr ⟨w.heap.size,n,cs,E,(0,0),by simp,h5,bq _,h6,by rw [<-n9,hl,tp];simp⟩
 | @aiJ T E sz ag hT hE =>
  obtain⟨Z',h1,h2,h3,h4,h5,h6⟩:=hc.push hH uh (tf.alloc w (.cells #[] E)) (part:=[]) (rest:=[]) rfl (by simp [aS])
  refine⟨_,_,_,Z',by simp [execOp,Instr.buildSlice,run_underlying hT,run_sizeOf hE,Instr.fill,newRow,show (afz (fun _:Nat=>(default:Value)) (awm 0))=#[] from by apply vC;simp];exact rfl,h1,h2,h3,h4,⟨by simp [LV.isAgg],fun _=>?_⟩,mP _⟩
  simp only [aB]
  exact .inr ⟨w.heap.size,0,#[],E,(0,0),by rw [ad6],h5,bq _,h6,by simp⟩
 | @box T x aX =>
  have e1:=cx x bU
  obtain⟨c1,c2,_,_⟩:=(bh.zo aX.2 aX.1 e1).cells aX.1
  have xf:aS Z μ w (ρ x).aw [ρ x] (a.eval x).cells.toList:=by
   simp only [aS]
   exact⟨_,[],by simp,by simp [c2],c1,rfl⟩
  obtain⟨Z',h1,h2,h3,h4,h5,h6⟩:=hc.push (T:=T) (c:=(a.eval x).cells) hH uh (tf.alloc w _) (ng _).symm xf
  refine⟨_,_,_,Z',by simp only [execOp,Instr.box,newVar,newRow,Sem.run_bind,run_newObj,Result.andThen_ok,Sem.run_pure];rfl,h1,h2,h3,h4,⟨by simp [LV.isAgg],fun _=>?_⟩,mP _⟩
  simp only [aB]
  exact⟨w.heap.size,by simp,h5⟩
 | @alloc T z hz =>
  obtain⟨i,zv,z1,z2,z3,z4⟩:=hz
  have aX:=LV.fp z3
  have o5:=aB.len (z4 Z μ w) aX
  have xf:aS Z μ w z.aw [z] zv.cells.toList:=by
   simp only [aS]
   exact⟨_,[],by simp,by simpa using o5,z4 Z μ w,rfl⟩
  obtain⟨Z',h1,h2,h3,h4,h5,h6⟩:=hc.push (T:=T) (c:=zv.cells) hH uh (tf.alloc w _) (ng _).symm xf
  have z9:(zeroValue T).run P w=.ok zv w:=by simp [zeroValue,typeInfo,z1,z2]
  refine⟨_,_,_,Z',by simp only [execOp,Instr.alloc,newVar,newRow,Sem.run_bind,z9,run_newObj,Result.andThen_ok,Sem.run_pure];rfl,h1,h2,h3,h4,⟨by simp [LV.isAgg],fun _=>?_⟩,mP _⟩
  simp only [aB]
  exact⟨w.heap.size,by simp,h5⟩
theorem aGJ {op:Op} {r:LV} {d:Nat} {bs:List bg} (hc:Core W X Z0 μ Z H w) (ho:OpC P H ρ d op r bs) (cx:∀ x∈op.operands,bh Z μ w (ρ x) (a.eval x))
  (dQ:∀ i blk,bs[i]?=some blk->∃ m,H (eE d (i+1))=some ⟨blk.sz,blk.vals,m⟩/\(blk.mt=false->m=false)/\μ (eE d (i+1))=none)
  (dst:Option Tmp) (ty:TypeId) (pos:String) (after:Array Edge) (g:Option (Nat × Bool)) {K:Act->World->Prop} {Q:Exit->Act->World->Prop}
  (hK:∀ v w' bm Z',ahu W X Z0 μ Z H w r (bs.mapIdx fun i blk=>(eE d (i+1),blk)) v w' bm Z'->K (a.put dst v) w') :
  (⟨dst,op,ty,pos,after,g⟩:Oper).wp P a w K Q:=by
 cases ho with
 | @func f xs as args r bs ha hk hlen oG =>
  have hargs:=ahg (a:=a) hc xs.toList args ha (fun x hx=>cx x (by simp [Op.operands,Call.operands];right;simpa using hx))
  refine awk (vs:=xs.map a.eval) hc hk hlen oG (by simpa using hargs) dQ ?_ hK
  simp only [execOp,resolve,Act.eval,Deferred.ofValue,Sem.run_bind,Sem.run_pure,Result.andThen_ok,invoke]
  have:=aiI (P:=P) (w:=w) (args:=xs.map a.eval) hk.1
  simpa using this
 | @dq t f cap xs as args r bs ht ha xT hk hlen oG =>
  have hargs:=ahg (a:=a) hc xs.toList args ha (fun x hx=>cx x (by simp [Op.operands,Call.operands];right;simpa using hx))
  have e1:=cx (.tmp t) lZ
  rw [ht] at e1
  have e2:=e1.2 rfl
  simp only [aB] at e2
  obtain⟨cv,q1,q2,_⟩:=e2
  simp only [fP,and_true] at q1
  have vN:=awI (bm:=fun _=>none) cap cv.toList xT.1 xT.2 q2
  refine awk (vs:=xs.map a.eval++cv) hc hk hlen oG (by simpa using gu.append _ _ _ _ hargs vN) dQ ?_ hK
  have:=aiI (P:=P) (w:=w) (args:=xs.map a.eval++cv) hk.1
  simp only [execOp,resolve,q1,Deferred.ofValue,Sem.run_bind,Sem.run_pure,Result.andThen_ok,invoke]
  simpa using this
 | @mk f xs caps ha h1 =>
  have hargs:=ahg (a:=a) hc xs.toList caps ha (fun x hx=>cx x (by simp [Op.operands];simpa using hx))
  have hp:=(fY.lay ha).2
  have fw:(execOp a.eval ⟨dst,.makeFunc (.func f) #[] xs,ty,pos,after,g⟩).run P w=.ok (.value (.func (.func f) #[] (xs.map a.eval))) w:=by
   simp [execOp,Instr.makeFunc]
  unfold Oper.wp
  rw [fw,Oper.upon_value]
  refine hK _ w μ Z ⟨hc,fun _ h=>h,fun _ _ h=>h,Frame.refl _ _ _,⟨by simp [LV.isAgg],fun _=>?_⟩,fun b h=>.inl h⟩
  simp only [aB]
  exact⟨_,rfl,av7 caps _ hp h1 (by simpa using hargs),hp⟩
theorem nC.sound {op:Op} {r:LV} {d:Nat} {fr:List (Nat × bg)} (hc:Core W X Z0 μ Z H w) (ho:nC P H ρ d op r fr) (cx:∀ x∈op.operands,bh Z μ w (ρ x) (a.eval x))
  (dQ:∀ b blk,(b,blk)∈fr->∃ m,H b=some ⟨blk.sz,blk.vals,m⟩/\(blk.mt=false->m=false)/\μ b=none)
  (dst:Option Tmp) (ty:TypeId) (pos:String) (after:Array Edge) (g:Option (Nat × Bool)) {K:Act->World->Prop} {Q:Exit->Act->World->Prop}
  (hK:∀ v w' bm Z',ahu W X Z0 μ Z H w r fr v w' bm Z'->K (a.put dst v) w') :
  (⟨dst,op,ty,pos,after,g⟩:Oper).wp P a w K Q:=by
 cases ho with
 | pure h =>
  obtain⟨v,h1,h2⟩:=h.sound cx hc.heap dst ty pos after g
  unfold Oper.wp
  rw [h1,Oper.upon_value]
  exact hK v w μ Z ⟨hc,fun _ h=>h,fun _ _ h=>h,Frame.refl _ _ _,h2,fun b h=>.inl h⟩
 | @alloc blk h =>
  obtain⟨m,g1,_,g3⟩:=dQ d blk aM
  obtain⟨v,w',bm,Z',h1,h2⟩:=aDO hc h cx g1 g3 dst ty pos after g
  unfold Oper.wp
  rw [h1,Oper.upon_value]
  exact hK v w' bm Z' h2
 | @call bs h =>
  refine aGJ hc h cx (fun i blk hb=>dQ _ blk ?_) dst ty pos after g hK
  rw [aw4]
  obtain⟨h1,h2⟩:=pj.1 hb
  exact⟨i,h1,by rw [h2]⟩
end
end Go.Lg
namespace Go.Lg
mutual
def LV.kill (b:Nat):LV->LV
 | .ref c sz off len=>if c=b then .any else .ref c sz off len
 | .kC c sz off len cap=>if c=b then .any else .kC c sz off len cap
 | .aD c sz i o=>if c=b then .any else .aD c sz i o
 | .agg l=>.agg (bX b l)
 | .bf l=>.bf (bX b l)
 | .any=>.any
 | .v x=>.v x
 | .list sz l=>.list sz l
 | .cr c=>.cr c
 | .dq f l=>.dq f l
def bX (b:Nat):List LV->List LV
 | []=>[]
 | x :: xs=>x.kill b :: bX b xs
end
mutual
theorem LV.atI (b:Nat):∀ (x:LV),(x.kill b).aw=x.aw
 | .any=>rfl | .v _=>rfl | .list ..=>rfl | .cr _=>rfl | .dq ..=>rfl
 | .bf _=>rfl
 | .ref c sz off len=>by simp only [LV.kill];split<;>rfl
 | .kC c sz off len cap=>by simp only [LV.kill];split<;>rfl
 | .aD c sz i o=>by simp only [LV.kill];split<;>rfl
 | .agg l=>by simp only [LV.kill,LV.aw,ap5 b l]
theorem ap5 (b:Nat):∀ (l:List LV),da (bX b l)=da l
 | []=>rfl
 | x :: xs=>by simp only [bX,da,LV.atI b x,ap5 b xs]
end
theorem LV.aqA (b:Nat) (x:LV):(x.kill b).isAgg=x.isAgg:=by
 cases x with
 | ref c sz off len=>simp only [LV.kill];split<;>rfl
 | kC c sz off len cap=>simp only [LV.kill];split<;>rfl
 | aD c sz i o=>simp only [LV.kill];split<;>rfl
 | _=>rfl
mutual
theorem LV.mr (b:Nat):∀ (x:LV),x.pure=true->x.kill b=x
 | .any,_=>rfl
 | .v _,_=>rfl
 | .list sz l,_=>rfl
 | .agg l,h=>by simp only [LV.kill,aeQ b l (by simpa [LV.pure] using h)]
 | .ref ..,h=>by simp [LV.pure] at h
 | .kC ..,h=>by simp [LV.pure] at h
 | .aD ..,h=>by simp [LV.pure] at h
 | .cr c,_=>rfl
 | .dq g l,_=>rfl
 | .bf l,h=>by simp [LV.pure] at h
theorem aeQ (b:Nat):∀ (l:List LV),aN l=true->bX b l=l
 | [],_=>rfl
 | x :: xs,h=>by simp only [bX,LV.mr b x (pure_cons h).1,aeQ b xs (pure_cons h).2]
end
section
variable {Z Z':Nat->Prop} {μ bm:Nat->Option Nat} {w w':World} {b:Nat}
mutual
theorem aB.kill (hz:∀ id,Z id->Z' id) (hm:∀ c id,c≠b->μ c=some id->bm c=some id) (hf:Frame Z μ w w') :
  ∀ (lv:LV) (cs:List Value),aB Z μ w lv cs->aB Z' bm w' (lv.kill b) cs
 | .any,_,h=>by simpa [aB,LV.kill] using h
 | .v x,cs,h=>by simpa [aB,LV.kill] using h
 | .list sz l,cs,h=>by
   have hp:(LV.list sz l).pure=true:=by
    simp only [aB] at h
    obtain⟨a,len,cap,_,_,_,_,h9⟩:=h
    simpa [LV.pure] using h9
   exact aB.kW hz hf.z _ _ hp h
 | .agg l,cs,h=>by
   simp only [aB,LV.kill] at h ⊢
   exact cC.kill hz hm hf l cs h
 | .ref c sz off len,cs,h=>by
   simp only [LV.kill]
   split
   ·exact fun u hu=>aB.one _ _ h u hu
   ·rename_i aX
    simp only [aB] at h ⊢
    rcases h with h | ⟨id,cap,c',T,fz,h1,h2,h3,h4,h5⟩
    ·exact rB
    obtain⟨c2,h6,h7⟩:=hf.m c id h2 c' T fz h4
    exact .inr ⟨id,cap,c2,T,fz,h1,hm _ _ aX h2,h3,h6,ae⟩
 | .kC c sz off len cap,cs,h=>by
   simp only [LV.kill]
   split
   ·exact fun u hu=>aB.one _ _ h u hu
   ·rename_i aX
    simp only [aB] at h ⊢
    obtain⟨id,c',T,fz,h1,h2,h3,h4,h5⟩:=h
    obtain⟨c2,h6,h7⟩:=hf.m c id h2 c' T fz h4
    exact⟨id,c2,T,fz,h1,hm _ _ aX h2,h3,h6,ae⟩
 | .aD c sz i o,cs,h=>by
   simp only [LV.kill]
   split
   ·exact fun u hu=>aB.one _ _ h u hu
   ·rename_i aX
    simp only [aB] at h ⊢
    obtain⟨id,h1,h2⟩:=h
    exact⟨id,h1,hm _ _ aX h2⟩
 | .cr c,cs,h=>by
   have hp:(LV.cr c).pure=true:=by
    simp only [aB] at h
    obtain⟨blk,off,cc,T,fz,part,rest,_,_,_,_,_,_,h7⟩:=h
    simpa [LV.pure] using h7
   exact aB.kW hz hf.z _ _ hp h
 | .dq f cap,cs,h=>by
   have hp:(LV.dq f cap).pure=true:=by
    simp only [aB] at h
    obtain⟨vs,_,_,h3⟩:=h
    simpa [LV.pure] using h3
   exact aB.kW hz hf.z _ _ hp h
 | .bf _,_,h=>by simp [aB] at h
theorem cC.kill (hz:∀ id,Z id->Z' id) (hm:∀ c id,c≠b->μ c=some id->bm c=some id) (hf:Frame Z μ w w') :
  ∀ (l:List LV) (cs:List Value),cC Z μ w l cs->cC Z' bm w' (bX b l) cs
 | [],cs,h=>by simpa [cC,bX] using h
 | x :: xs,cs,h=>by
   simp only [cC,bX] at h ⊢
   obtain⟨c1,c2,h1,h2,h3,h4⟩:=h
   exact⟨c1,c2,h1,by rw [LV.atI];exact h2,aB.kill hz hm hf x c1 h3,cC.kill hz hm hf xs c2 h4⟩
end
theorem aS.kill {sz:Nat} (hz:∀ id,Z id->Z' id) (hm:∀ c id,c≠b->μ c=some id->bm c=some id) (hf:Frame Z μ w w') :
  ∀ (l:List LV) (cs:List Value),aS Z μ w sz l cs->aS Z' bm w' sz (bX b l) cs
 | [],cs,h=>by simpa [aS,bX] using h
 | x :: xs,cs,h=>by
   simp only [aS,bX] at h ⊢
   obtain⟨c1,c2,h1,h2,h3,h4⟩:=h
   exact⟨c1,c2,h1,h2,aB.kill hz hm hf x c1 h3,aS.kill hz hm hf xs c2 h4⟩
theorem fS.kill (hz:∀ id,Z id->Z' id) (hm:∀ c id,c≠b->μ c=some id->bm c=some id) (hf:Frame Z μ w w') {lv:LV} {v:Value}
  (h:fS Z μ w lv v):fS Z' bm w' (lv.kill b) v :=
 ⟨fun e=>let ⟨cs,h1,h2⟩:=h.1 (by rwa [LV.aqA] at e);⟨cs,h1,aB.kill hz hm hf _ _ h2⟩,fun e=>aB.kill hz hm hf _ _ (h.2 (by rwa [LV.aqA] at e))⟩
theorem gu.kill (hz:∀ id,Z id->Z' id) (hm:∀ c id,c≠b->μ c=some id->bm c=some id) (hf:Frame Z μ w w') :
  ∀ (l:List LV) (vs:List Value),gu Z μ w l vs->gu Z' bm w' (bX b l) vs
 | [],_,h=>h
 | _ :: xs,_,⟨v,ks,h1,h2,h3⟩=>⟨v,ks,h1,h2.kill hz hm hf,gu.kill hz hm hf xs ks h3⟩
theorem bh.kill (hz:∀ id,Z id->Z' id) (hm:∀ c id,c≠b->μ c=some id->bm c=some id) (hf:Frame Z μ w w') {lv:LV} {v:Value}
  (h:bh Z μ w lv v):bh Z' bm w' (lv.kill b) v:=by
 cases lv with
 | bf l=>obtain⟨vs,h1,h2⟩:=h;exact⟨vs,h1,gu.kill hz hm hf _ _ h2⟩
 | any=>trivial
 | _ =>
  refine bh.tw (fun l e=>?_) (fS.kill hz hm hf h)
  simp only [LV.kill] at e
  first
   | cases e
   | (split at e<;>cases e)
end
structure St where
 slot:Nat->LV
 heap:bW
def St.ev (L:St):Operand->LV
 | .tmp t=>L.slot t
 | .const v=>if v.oneCell' then .v v else .any
 | .func f=>.dq f []
 | .global _=>.any
def St.put (L:St) (d:Option Nat) (r:LV):St :=
 match d with
 | some t=>⟨fun s=>bif oJ s t then r else L.slot s,L.heap⟩
 | none=>L
theorem iz (L:St) (t:Nat) (r:LV) (s:Nat):(L.put (some t) r).slot s=if s=t then r else L.slot s:=by
 show (bif oJ s t then r else L.slot s)=_
 by_cases h:s=t
 ·subst h;simp
 ·have:oJ s t=false:=by rw [<-Bool.not_eq_true,Nat.beq_eq];exact h
  rw [this,if_neg h];rfl
def St.bO (L:St) (b:Nat) (x:Option bg):St:=⟨L.slot,fun c=>if c=b then x else L.heap c⟩
def St.kill (L:St) (b:Nat):St :=
 ⟨fun t=>(L.slot t).kill b,fun c=>if c=b then none else(L.heap c).map fun blk=>⟨blk.sz,bX b blk.vals,blk.mt⟩⟩
def gi (n:Nat) (W:World) (X:XS) (Z0:Nat->Prop) (L:St) (a:Act) (w:World):Prop :=
 a.defers=[]/\a.tmps.size=n/\∃ μ Z,Core W X Z0 μ Z L.heap w/\∀ t,bh Z μ w (L.slot t) (a.tmps.getD t undef)
inductive xg (H:bW) (b:Nat):LV->LV->Prop
 | cF {x y} (h:cY H x y):xg H b x y
 | ref {sz off len}:xg H b (.ref b sz off len) (.ref 0 sz off len)
 | ptr {sz i o}:xg H b (.aD b sz i o) (.aD 0 sz i o)
inductive x7 (H:bW) (b:Nat):List LV->List LV->Prop
 | nil:x7 H b [] []
 | cons {x y xs ys} (h:xg H b x y) (t:x7 H b xs ys):x7 H b (x :: xs) (y :: ys)
inductive Names (b:Nat):List LV->Prop
 | ref {sz off len xs} (h:0<len):Names b (.ref b sz off len :: xs)
 | ptr {sz i o xs}:Names b (.aD b sz i o :: xs)
 | tl {x xs} (h:Names b xs):Names b (x :: xs)
inductive OpM (P:Program) (L:St) (dst:Option Tmp):Op->St->Prop
 | call {f xs as args r b blk blk'} (hb:L.heap b=some blk) (hm:blk.mt=true) (hp:aN blk.vals=true) (ha:x7 L.heap b (xs.toList.map L.ev) args) (hn:Names b (xs.toList.map L.ev)) (hk:nO P f blk args r blk')
   (qH:blk'.mt=true) (kG:aN blk'.vals=true) :
   OpM P L dst (.call ⟨.value (.func f),xs,as⟩) ((L.bO b (some blk')).put dst (r.bV fun _=>b))
 | ajg {T U E x y z k kl sz dP n d} (hT:P.underlying T=some (.slice E)) (hU:P.underlying U=some (.int k)) (hz:dp P E z) (hE:bE P E sz z.isAgg) (dX:z.aw=sz) (hb:mT P E dP)
   (hx:L.ev x=.v (.slice none 0 0)) (hy:L.ev y=.v (.int kl (n:Nat))) (gz:L.heap d=none) (h0:0<n) (dO:0<sz) (hm:n*dP<=140737488355328) (gU:n<=4611686018427387904) :
   OpM P L dst (.call ⟨.builtin .append,#[x,y],#[T,U]⟩) ((L.bO d (some ⟨sz,ay n z,true⟩)).put dst (.ref d sz 0 n))
 | agl {T U E x y z k kl sz dP len cp n d b blk} (hT:P.underlying T=some (.slice E)) (hU:P.underlying U=some (.int k)) (hz:dp P E z) (hE:bE P E sz z.isAgg) (dX:z.aw=sz) (hb:mT P E dP)
   (hx:L.ev x=.kC b sz 0 len cp) (lX:L.heap b=some blk) (hs:blk.sz=sz) (hlen:len<=blk.vals.length) (hy:L.ev y=.v (.int kl (n:Nat))) (gz:L.heap d=none) (hg:cp<len+n) (dO:0<sz) (hm:(len+n)*dP<=140737488355328) (gU:len+n<=4611686018427387904) :
   OpM P L dst (.call ⟨.builtin .append,#[x,y],#[T,U]⟩) ((L.bO d (some ⟨sz,blk.vals.take len++ay n z,true⟩)).put dst (.ref d sz 0 (len+n)))
 | ovl {f x y Tx Ty fn b c sz o1 n1 o2 n2 ag tS tR e} (hf:P.funcs[f]?=some fn) (ry:(fn.name== "runtime.NumGoroutine")=false) (hb:fn.body.isNone=true) (hn:Extern.findNext fn=none) (he:Extern.find fn=some (Extern.SlicesOverlaps.overlaps #[tS,tS] #[tR]))
   (ht:P.underlying tS=some (.slice e)) (hE:bE P e sz ag) (hx:L.ev x=.ref b sz o1 n1) (hy:L.ev y=.ref c sz o2 n2) (vK:b≠c) (h1:0<n1) (h2:0<n2) (dO:0<sz) :
   OpM P L dst (.call ⟨.value (.func f),#[x,y],#[Tx,Ty]⟩) (L.put dst (.v (.bool false)))
inductive g7 (P:Program) (L:St) (dst:Option Tmp):Op->St->Prop
 | store {T p x b sz i o blk y y'} (hp:L.ev p=.aD b sz i o) (hb:L.heap b=some blk) (hs:blk.sz=sz) (hm:blk.mt=true) (hi:blk.vals[i]?=some y) (hy:y.aw=sz)
   (nF:y.put o (L.ev x)=some y') (hT:bE P T (L.ev x).aw (L.ev x).isAgg) (aX:L.ev x≠.any/\∀ l,L.ev x≠.bf l) :
   g7 P L dst (.store T p x) ((L.bO b (some ⟨sz,blk.vals.set i y',true⟩)).put dst .any)
 | iJ {T U E E' d b sz len blk x y news z dP} (hx:L.ev x=.ref b sz 0 len) (hb:L.heap b=some blk) (hs:blk.sz=sz) (hm:blk.mt=true) (hlen:len<=blk.vals.length) (gz:d=b\/L.heap d=none) (gE:b≠0)
   (hT:P.underlying T=some (.slice E)) (hU:P.underlying U=some (.slice E')) (hz:dp P E z) (hE:bE P E sz z.isAgg) (dX:z.aw=sz) (l6:mT P E dP)
   (hy:(∃ c off ee,L.ev y=.ref c sz off news.length/\c≠b/\L.heap c=some ee/\ee.sz=sz/\off+news.length<=ee.vals.length/\news=(ee.vals.drop off).take news.length/\aN news=true) \/
    L.ev y=.list sz news\/(L.ev y=.v (.slice none 0 0)/\news=[]))
   (bI:(len+news.length)*dP<=140737488355328) (gU:len+news.length<=4611686018427387904) (dO:0<sz) :
   g7 P L dst (.call ⟨.builtin .append,#[x,y],#[T,U]⟩) (((L.kill b).bO d (some ⟨sz,bX b (blk.vals.take len++news),true⟩)).put dst (.ref d sz 0 (len+news.length)))
 | afl {T U E E' d sz x y news z dP} (hx:L.ev x=.v (.slice none 0 0)) (gz:L.heap d=none)
   (hT:P.underlying T=some (.slice E)) (hU:P.underlying U=some (.slice E')) (hz:dp P E z) (hE:bE P E sz z.isAgg) (dX:z.aw=sz) (l6:mT P E dP)
   (hy:(∃ c off ee,L.ev y=.ref c sz off news.length/\L.heap c=some ee/\ee.sz=sz/\off+news.length<=ee.vals.length/\news=(ee.vals.drop off).take news.length/\aN news=true) \/
    L.ev y=.list sz news)
   (hn:0<news.length) (bI:news.length*dP<=140737488355328) (gU:news.length<=4611686018427387904) (dO:0<sz) :
   g7 P L dst (.call ⟨.builtin .append,#[x,y],#[T,U]⟩) ((L.bO d (some ⟨sz,news,true⟩)).put dst (.ref d sz 0 news.length))
 | clr {T E x b sz off n blk z} (hx:L.ev x=.ref b sz off n) (hb:L.heap b=some blk) (hs:blk.sz=sz) (hm:blk.mt=true) (hl:off+n<=blk.vals.length) (hT:P.underlying T=some (.slice E)) (hz:dp P E z) (dX:z.aw=sz) :
   g7 P L dst (.call ⟨.builtin .clear,#[x],#[T]⟩) ((L.bO b (some ⟨sz,blk.vals.take off++ay n z++blk.vals.drop (off+n),true⟩)).put dst .any)
 | cpy {T U E E' x y b sz off news blk ag} (hx:L.ev x=.ref b sz off news.length) (hb:L.heap b=some blk) (hs:blk.sz=sz) (hm:blk.mt=true) (hl:off+news.length<=blk.vals.length) (hT:P.underlying T=some (.slice E)) (hU:P.underlying U=some (.slice E')) (hE:bE P E sz ag)
   (hy:(∃ c off2 ee,L.ev y=.ref c sz off2 news.length/\L.heap c=some ee/\ee.sz=sz/\off2+news.length<=ee.vals.length/\news=(ee.vals.drop off2).take news.length)\/L.ev y=.list sz news) :
   g7 P L dst (.call ⟨.builtin .copy,#[x,y],#[T,U]⟩) ((L.bO b (some ⟨sz,blk.vals.take off++news++blk.vals.drop (off+news.length),true⟩)).put dst .any)
 | adm {T U E E' x y b sz off n1 blk c off2 n2 ee news ag} (hx:L.ev x=.ref b sz off n1) (hb:L.heap b=some blk) (hs:blk.sz=sz) (hm:blk.mt=true) (hl:off<=blk.vals.length) (hT:P.underlying T=some (.slice E)) (hU:P.underlying U=some (.slice E')) (hE:bE P E sz ag)
   (hy:L.ev y=.ref c sz off2 n2) (hc:L.heap c=some ee) (xr:ee.sz=sz) (hn:news.length=agO n2 n1) (h0:0<news.length) (oX:off2+news.length<=ee.vals.length) (rV:news=(ee.vals.drop off2).take news.length) :
   g7 P L dst (.call ⟨.builtin .copy,#[x,y],#[T,U]⟩) ((L.bO b (some ⟨sz,blk.vals.take off++news++blk.vals.drop (off+news.length),true⟩)).put dst .any)
theorem g7.app {P:Program} {L:St} {dst:Option Tmp} {T:TypeId} {U:TypeId} {E:TypeId} {E':TypeId} {d:Nat} {b:Nat} {sz:Nat} {len:Nat} {blk:bg} {x:Operand} {y:Operand} {news:List LV} {z:LV} {dP:Nat} (hd:dst=some d) (hx:L.ev x=.ref b sz 0 len) (hb:L.heap b=some blk) (hs:blk.sz=sz) (hm:blk.mt=true) (hlen:len<=blk.vals.length) (gz:d=b\/L.heap d=none) (gE:b≠0)
   (hT:P.underlying T=some (.slice E)) (hU:P.underlying U=some (.slice E')) (hz:dp P E z) (hE:bE P E sz z.isAgg) (dX:z.aw=sz) (l6:mT P E dP)
   (hy:(∃ c off ee,L.ev y=.ref c sz off news.length/\c≠b/\L.heap c=some ee/\ee.sz=sz/\off+news.length<=ee.vals.length/\news=(ee.vals.drop off).take news.length/\aN news=true) \/
    L.ev y=.list sz news\/(L.ev y=.v (.slice none 0 0)/\news=[]))
   (bI:(len+news.length)*dP<=140737488355328) (gU:len+news.length<=4611686018427387904) (dO:0<sz) :
  g7 P L dst (.call ⟨.builtin .append,#[x,y],#[T,U]⟩) (((L.kill b).bO d (some ⟨sz,bX b (blk.vals.take len++news),true⟩)).put dst (.ref d sz 0 (len+news.length))):=.iJ hx hb hs hm hlen gz gE hT hU hz hE dX l6 hy bI gU dO
section
variable {P:Program} {W w w':World} {X:XS} {Z0 Z:Nat->Prop} {μ:Nat->Option Nat} {H:bW} {a:Act} {L L':St} {n:Nat}
theorem l9 (h:∀ t,bh Z μ w (L.slot t) (a.tmps.getD t undef)) (x:Operand):bh Z μ w (L.ev x) (a.eval x):=by
 cases x with
 | tmp t=>exact h t
 | const v =>
  simp only [St.ev,Act.eval]
  split
  ·exact bh.v (by assumption)
  ·trivial
 | func f =>
  simp only [St.ev,Act.eval]
  exact⟨by simp [LV.isAgg],fun _=>by simp [aB,aS,aN]⟩
 | global g=>simp only [St.ev];trivial
theorem r9 {d:Option Nat} {r:LV} {v:Value} (hd:∀ t,d=some t->t<a.tmps.size) (h:∀ t,bh Z μ w (L.slot t) (a.tmps.getD t undef)) (hv:bh Z μ w r v) :
  ∀ t,bh Z μ w ((L.put d r).slot t) ((a.put d v).tmps.getD t undef):=by
 intro t
 cases d with
 | none=>exact h t
 | some s =>
  rw [iz]
  simp only [Act.put]
  by_cases hts:t=s
  ·subst hts
   have:=hd t rfl
   simp [this]
   exact hv
  ·have:=h t
   simp only [hts,if_false,dG,ka (Ne.symm hts)] at this ⊢
   exact this
theorem r7 (a:Act) (d:Option Nat) (v:Value):(a.put d v).tmps.size=a.tmps.size:=by cases d<;>simp [Act.put]
theorem put_defers (a:Act) (d:Option Nat) (v:Value):(a.put d v).defers=a.defers:=by cases d<;>rfl
theorem mb (L:St) (d:Option Nat) (r:LV):(L.put d r).heap=L.heap:=by cases d<;>rfl
end
end Go.Lg
namespace Go.Lg
section
variable {P:Program} {W w w':World} {X:XS} {Z0 Z:Nat->Prop} {μ:Nat->Option Nat} {H:bW} {a:Act} {L L':St} {n:Nat}
theorem Core.rewrite {b id:Nat} {blk blk':bg} {c c':Array Value} {T:TypeId} {part rest:List Value} (hc:Core W X Z0 μ Z H w) (hb:μ b=some id) (hH:H b=some blk) (hm:blk.mt=true) (qH:blk'.mt=true)
  (hcell:w.heap[id]?=some (.cells c T (0,0))) (bI:c'.size=c.size) (h1:c'.toList=part++rest) (h2:aS Z μ w blk'.sz blk'.vals part)
  (hw:w'=w.setRow id c') :
  Core W X Z0 μ Z (fun k=>if k=b then some blk' else H k) w'/\Frame Z μ w w':=by
 subst hw
 have ab9:(w.setRow id c').heap[id]?=some (.cells c' T (0,0)):=setRow_heap w id c c' T (0,0) hcell
 have xM:∀ k,k≠id->(w.setRow id c').heap[k]?=w.heap[k]?:=fun k hk=>by
  simp only [World.setRow,awE,if_neg (Ne.symm hk)]
 have afv:(w.setRow id c').heap.size=w.heap.size:=by simp [World.setRow]
 have sY:¬ Z id:=hc.jD b id blk hb hH hm
 have dQ:Frame Z μ w (w.setRow id c'):=by
  refine⟨fun k hk=>xM k (fun e=>sY (e ▸ hk)),fun b' k hk cc T' fz rH=>?_⟩
  by_cases e:k=id
  ·subst e
   rw [hcell] at rH;cases rH
   exact⟨c',ab9,bI⟩
  ·exact⟨cc,(xM k e).trans rH,rfl⟩
 refine⟨⟨?_,fun k hk=>by rw [afv];exact hc.mc k hk,hc.jS,hc.me,hc.inj,hc.own,hc.x0,hc.oZ,hc.x1,?_,?_,?_⟩,dQ⟩
 ·refine⟨hc.cE.os,hc.cE.tape,hc.cE.output,by rw [afv];exact hc.cE.size,fun k hk hx=>?_,fun k hx c0 T0 fz0 h0=>?_⟩
  have:k≠id:=by
   rintro rfl
   rcases hc.own b k hb with h | h
   ·omega
   ·exact hx h
  exact(xM k this).trans (hc.cE.block k hk hx)
  obtain⟨c1,g1,g2⟩:=hc.cE.vT k hx c0 T0 fz0 h0
  by_cases e:k=id
  ·subst e
   rw [hcell] at g1;cases g1
   exact⟨c',ab9,bI.trans g2⟩
  ·exact⟨c1,(xM k e).trans g1,g2⟩
 ·intro b' k bk h g fQ
  by_cases e:b'=b
  ·subst e;rw [hb] at h;cases h;exact sY
  ·rw [if_neg e] at g;exact hc.jD b' k bk h g fQ
 ·intro b' k bk h g fQ
  by_cases e:b'=b
  ·subst e;rw [if_pos rfl] at g;cases g;rw [qH] at fQ;cases fQ
  ·rw [if_neg e] at g;exact hc.cd b' k bk h g fQ
 ·intro b' k h
  by_cases e:b'=b
  ·subst e;rw [hb] at h;cases h
   exact⟨blk',if_pos rfl,c',T,part,rest,ab9,h1,h2.mono (fun _ h=>h) (fun _ _ h=>h) dQ⟩
  ·obtain⟨bk,g1,g2⟩:=hc.heap b' k h
   have aX:k≠id:=fun e'=>e (hc.inj b' b k h (e' ▸ hb))
   exact⟨bk,by rw [if_neg e];exact g1,g2.mono (fun _ h=>h) (fun _ _ h=>h) dQ (xM k aX)⟩
theorem aAW {T:TypeId} {id off:Nat} {c:Array Value} {U:TypeId} {v:Value} {sz:Nat} {ag:Bool} (hT:bE P T sz ag) (hcell:w.heap[id]?=some (.cells c U (0,0)))
  (hv:v.cells.size=sz) (h1:∀ u∈v.cells.toList,u.oneCell'=true) (qA:off+sz<=c.size) :
  (storeVar T ⟨id,off,none⟩ v).run P w=.ok () (w.setRow id (c.toList.take off++v.cells.toList++c.toList.drop (off+sz)).toArray):=by
 have:=run_storeCells_at P id off U v.cells.toList 0 c w hcell bz h1
 simp only [storeVar,Sem.run_bind,run_sizeOf hT,Result.andThen_ok,hv,ne_eq,not_true_eq_false,if_false,Sem.run_ite]
 simpa [hv] using this
theorem aFO {T:TypeId} {p x:Operand} {b sz i o:Nat} {blk:bg} {y y':LV} (hc:Core W X Z0 μ Z L.heap w) (hr:∀ t,bh Z μ w (L.slot t) (a.tmps.getD t undef))
  (hp:L.ev p=.aD b sz i o) (hb:L.heap b=some blk) (hs:blk.sz=sz) (hm:blk.mt=true) (hi:blk.vals[i]?=some y) (hy:y.aw=sz)
  (nF:y.put o (L.ev x)=some y') (hT:bE P T (L.ev x).aw (L.ev x).isAgg) (aX:L.ev x≠.any/\∀ l,L.ev x≠.bf l)
  (dst:Option Tmp) (ty:TypeId) (pos:String) (after:Array Edge) (g:Option (Nat × Bool)) :
  ∃ w',(execOp a.eval ⟨dst,.store T p x,ty,pos,after,g⟩).run P w=.ok .skip w'/\Core W X Z0 μ Z (L.bO b (some ⟨sz,blk.vals.set i y',true⟩)).heap w'/\Frame Z μ w w':=by
 have e1:=l9 (L:=L) hr p
 rw [hp] at e1
 have e2:=e1.2 rfl
 simp only [aB] at e2
 obtain⟨id,h1,h2⟩:=e2
 simp only [fP,and_true] at h1
 obtain⟨blk',qm,c,U,part,rest,q1,q2,q3⟩:=hc.heap b id h2
 rw [hb] at qm;cases qm
 obtain⟨c1,c2,c3,_⟩:=(bh.zo aX.2 aX.1 (l9 (L:=L) hr x)).cells aX.1
 obtain⟨pre,ch,post,g1,g2,g3,g4,g5⟩:=aS.get blk.vals part i y q3 hi
 obtain⟨zL,vX,wq,j1,j2,j3,j4,j5⟩:=LV.atH (L.ev x) (a.eval x).cells.toList c1 (by simpa using c2) y o y' ch nF g4 (by rw [g3,hs,hy])
 have jl:=g5 y' _ j4 (by
  have:=congrArg List.length j1
  simp only [lT] at this ⊢
  omega)
 have hlen:c.toList.length=pre.length+(zL.length+(vX.length+wq.length)+post.length)+rest.length:=by
  rw [q2,g1,j1];simp;omega
 have qA:i*sz+o+(L.ev x).aw<=c.size:=by
  rw [<-n9,hlen]
  rw [hs] at g2
  have:vX.length=(L.ev x).aw:=by rw [j3];simpa using c2
  omega
 have fw:=aAW (P:=P) (id:=id) (off:=i*sz+o) hT q1 c2 c3 qA
 have mP:(c.toList.take (i*sz+o)++(a.eval x).cells.toList++c.toList.drop (i*sz+o+(L.ev x).aw))=(pre++((zL++((a.eval x).cells.toList++wq))++post))++rest:=by
  rw [q2,g1,j1]
  have lY:i*sz+o=(pre++zL).length:=by rw [hs] at g2;simp;omega
  have oX:(L.ev x).aw=vX.length:=by rw [j3];simpa using c2.symm
  rw [lY,oX]
  have e:(pre++(zL++(vX++wq)++post))++rest=(pre++zL)++(vX++(wq++(post++rest))):=by simp
  rw [e,aht]
  have e2:List.drop ((pre++zL).length+vX.length) ((pre++zL)++(vX++(wq++(post++rest))))=wq++(post++rest):=by
   rw [<-rm,abd,abd]
  rw [e2];simp
 rw [mP] at fw
 have hcs:c.size=c.toList.length:=n9.symm
 have hA:(a.eval x).cells.toList.length=vX.length:=j3.symm
 obtain⟨k1,k2⟩:=Core.rewrite (w':=w.setRow id ((pre++((zL++((a.eval x).cells.toList++wq))++post))++rest).toArray) (blk':=⟨sz,blk.vals.set i y',true⟩)
  (part:=pre++((zL++((a.eval x).cells.toList++wq))++post)) (rest:=rest) hc h2 hb hm rfl q1
  (by rw [hcs,hlen];simp only [abr,lT,hA]) aM (by rw [<-hs];exact jl) rfl
 exact⟨_,by simp only [execOp,h1,Instr.storeAt,Instr.sureAddr,Sem.run_bind,Sem.run_pure,Result.andThen_ok,fw],k1,k2⟩
theorem xg.sound {b i0:Nat} (hc:Core W X Z0 μ Z H w) (hb:μ b=some i0) {x y:LV} {v:Value} (h:xg H b x y) (hr:bh Z μ w x v):fS Z (wj i0) w y v:=by
 cases h with
 | cF h=>exact cY.abT hc h hr
 | ref =>
  have:=hr.2 rfl
  refine⟨by simp [LV.isAgg],fun _=>?_⟩
  simp only [aB] at this ⊢
  rcases this with h | ⟨id,cap,c,T,fz,h1,h2,h3⟩
  ·exact rB
  rw [hb] at h2;cases h2
  exact .inr ⟨i0,cap,c,T,fz,h1,rfl,h3⟩
 | ptr =>
  have:=hr.2 rfl
  refine⟨by simp [LV.isAgg],fun _=>?_⟩
  simp only [aB] at this ⊢
  obtain⟨id,h1,h2⟩:=this
  rw [hb] at h2;cases h2
  exact⟨i0,h1,rfl⟩
theorem xg.ne {b:Nat} {x y:LV} (h:xg H b x y):(x≠.any/\∀ m,x≠.bf m):=by
 cases h with
 | cF h=>exact h.ne
 | ref=>exact⟨by simp,by simp⟩
 | ptr=>exact⟨by simp,by simp⟩
theorem asP {b i0:Nat} (hc:Core W X Z0 μ Z H w) (hb:μ b=some i0) {ρ:Operand->LV}:∀ (xs:List Operand) (args:List LV),x7 H b (xs.map ρ) args->(∀ x∈xs,bh Z μ w (ρ x) (a.eval x)) ->
  gu Z (wj i0) w args (xs.map a.eval)
 | [],_,h,_=>by cases h;rfl
 | x :: xs,_,h,hr=>by
   cases h with
   | cons h t=>exact⟨_,_,rfl,h.sound hc hb (hr x aM),asP hc hb xs _ t (fun y hy=>hr y (by simp [hy]))⟩
theorem Names.mu {b:Nat} {ρ:Operand->LV}:∀ (xs:List Operand),Names b (xs.map ρ)->(∀ x∈xs,bh Z μ w (ρ x) (a.eval x))->∃ id,μ b=some id
 | [],h,_=>by cases h
 | x :: xs,h,hr=>by
   have h1:=hr x aM
   generalize hq:ρ x=q at h h1
   simp only [nZ,hq] at h
   cases h with
   | ref hl =>
    have:=h1.2 rfl
    simp only [aB] at this
    rcases this with⟨_,h⟩ | ⟨id,_,_,_,_,_,h2,_⟩
    ·omega
    exact⟨id,h2⟩
   | ptr =>
    have:=h1.2 rfl
    simp only [aB] at this
    obtain⟨id,_,h2⟩:=this
    exact⟨id,h2⟩
   | tl h=>exact Names.mu xs h (fun y hy=>hr y (by simp [hy]))
theorem aIK {f:FuncId} {xs:Array Operand} {as:Array TypeId} {args:List LV} {r:LV} {b:Nat} {blk blk':bg} {dst:Option Tmp} {ty:TypeId} {pos:String} {af:Array Edge} {g:Option (Nat × Bool)}
  {K:Act->World->Prop} {Q:Exit->Act->World->Prop}
  (hc:Core W X Z0 μ Z L.heap w) (hr:∀ t,bh Z μ w (L.slot t) (a.tmps.getD t undef)) (hb:L.heap b=some blk) (hm:blk.mt=true) (hp:aN blk.vals=true)
  (ha:x7 L.heap b (xs.toList.map L.ev) args) (hn:Names b (xs.toList.map L.ev)) (hk:nO P f blk args r blk') (qH:blk'.mt=true) (kG:aN blk'.vals=true)
  (hK:∀ v w' Z',Core W X Z0 μ Z' (L.bO b (some blk')).heap w'->(∀ t,bh Z' μ w' (L.slot t) (a.tmps.getD t undef))->bh Z' μ w' (r.bV fun _=>b) v->K (a.put dst v) w') :
  (Oper.mk dst (.call ⟨.value (.func f),xs,as⟩) ty pos af g).wp P a w K Q:=by
 obtain⟨i0,qt⟩:=Names.mu (μ:=μ) (Z:=Z) (w:=w) (a:=a) xs.toList hn (fun x _=>l9 (L:=L) hr x)
 have hargs:=asP (a:=a) hc qt xs.toList args ha (fun x _=>l9 (L:=L) hr x)
 have fw:(execOp a.eval (Oper.mk dst (.call ⟨.value (.func f),xs,as⟩) ty pos af g)).run P w=.ok (.enter f (xs.map a.eval)) w:=by
  have:=aiI (P:=P) (w:=w) (args:=xs.map a.eval) hk.1
  simp only [execOp,resolve,Act.eval,Deferred.ofValue,Sem.run_bind,Sem.run_pure,Result.andThen_ok,invoke]
  simpa using this
 unfold Oper.wp
 rw [fw,Oper.upon_enter]
 obtain⟨aiW,g1,g2⟩:=hc.heap b i0 qt
 rw [hb] at g1;cases g1
 have oC:u7 Z (wj i0) w blk i0:=by
  obtain⟨c,T,part,rest,q1,q2,q3⟩:=g2
  exact⟨c,T,part,rest,q1,q2,aS.kW (fun _ h=>h) (fun _ _=>rfl) _ _ _ hp q3⟩
 have:=hk.2 w Z (xs.toList.map a.eval) i0 hc.mc (hc.jD b i0 blk qt hb hm) oC hargs
 rw [show (xs.toList.map a.eval).toArray=xs.map a.eval from by apply vC;simp] at this
 refine this.mono ?_
 rintro e w' ⟨v,ec,Zr,rfl,uM,hv⟩
 obtain⟨Z',h1,h2,h3,h4,h5⟩:=hc.aDk qt hb hm qH kG uM
 refine hK v w' Z' h1 (fun t=>(hr t).mono h3 (fun _ _ h=>h) h4) ?_
 exact(hv.mono h2 (fun _ _ h=>h) ⟨fun _ _=>rfl,(Frame.refl Zr ec w').m⟩).bV (fun _=>b) (fun k id h=>by obtain⟨rfl,rfl⟩:=h5 k id h;exact qt)
end
end Go.Lg
namespace Go.Lg
section
variable {P:Program} {W w w':World} {X:XS} {Z0 Z:Nat->Prop} {μ:Nat->Option Nat} {H:bW} {a:Act} {L L':St} {n:Nat}
def kO (μ:Nat->Option Nat) (b:Nat):Nat->Option Nat:=fun c=>if c=b then none else μ c
theorem Core.kill (b:Nat) (gE:b≠0) (hc:Core W X Z0 μ Z L.heap w):Core W X Z0 (kO μ b) Z (L.kill b).heap w:=by
 have hinv:∀ c id,kO μ b c=some id->c≠b/\μ c=some id:=fun c id h=>by
  unfold kO at h;split at h
  ·cases h
  ·exact⟨by assumption,h⟩
 have hH:∀ c blk,(L.kill b).heap c=some blk->c≠b->∃ bk,L.heap c=some bk/\blk=⟨bk.sz,bX b bk.vals,bk.mt⟩:=fun c blk h aX=>by
  simp only [St.kill,if_neg aX,aab] at h
  obtain⟨bk,h1,h2⟩:=h
  exact⟨bk,h1,h2.symm⟩
 refine⟨hc.cE,hc.mc,hc.jS,hc.me,?_,?_,?_,hc.oZ,fun id h=>by simp only [kO,if_neg (Ne.symm gE)];exact hc.x1 id h,?_,?_,?_⟩
 ·intro c c' id h h'
  exact hc.inj c c' id (hinv c id h).2 (hinv c' id h').2
 ·intro c id h;exact hc.own c id (hinv c id h).2
 ·intro c id h;exact hc.x0 c id (hinv c id h).2
 ·intro c id blk h g hm
  obtain⟨bk,g1,rfl⟩:=hH c blk g (hinv c id h).1
  exact hc.jD c id bk (hinv c id h).2 g1 hm
 ·intro c id blk h g hm
  obtain⟨bk,g1,rfl⟩:=hH c blk g (hinv c id h).1
  exact hc.cd c id bk (hinv c id h).2 g1 hm
 ·intro c id h
  obtain⟨aX,h1⟩:=hinv c id h
  obtain⟨bk,g1,cc,T,part,rest,g2,g3,g4⟩:=hc.heap c id h1
  refine⟨⟨bk.sz,bX b bk.vals,bk.mt⟩,by simp [St.kill,aX,g1],cc,T,part,rest,g2,g3,?_⟩
  exact aS.kill (fun _ h=>h) (fun k id hk h=>by simp [kO,hk,h]) (Frame.refl _ _ _) _ _ g4
theorem aeA (b:Nat) (hr:∀ t,bh Z μ w (L.slot t) (a.tmps.getD t undef)):∀ t,bh Z (kO μ b) w ((L.kill b).slot t) (a.tmps.getD t undef):=fun t =>
 bh.kill (fun _ h=>h) (fun k id hk h=>by simp [kO,hk,h]) (Frame.refl _ _ _) (hr t)
theorem Core.attach {d id:Nat} {blk:bg} {c c':Array Value} {T:TypeId} {part rest:List Value} (hc:Core W X Z0 μ Z H w) (hd:μ d=none) (hm:blk.mt=true)
  (nI:∀ k,μ k≠some id) (sY:¬ Z id) (cg:W.heap.size<=id\/X.y id) (bI:c'.size=c.size)
  (hcell:w.heap[id]?=some (.cells c T (0,0))) (h1:c'.toList=part++rest) (h2:aS Z μ w blk.sz blk.vals part)
  (hw:w'=w.setRow id c') :
  Core W X Z0 (q7 μ d id) Z (fun k=>if k=d then some blk else H k) w'/\Frame Z μ w w'/\(∀ b k,μ b=some k->q7 μ d id b=some k)/\w'.heap[id]?=some (.cells c' T (0,0)):=by
 subst hw
 have ab9:(w.setRow id c').heap[id]?=some (.cells c' T (0,0)):=setRow_heap w id c c' T (0,0) hcell
 have xM:∀ k,k≠id->(w.setRow id c').heap[k]?=w.heap[k]?:=fun k hk=>by
  simp only [World.setRow,awE,if_neg (Ne.symm hk)]
 have afv:(w.setRow id c').heap.size=w.heap.size:=by simp [World.setRow]
 have dQ:Frame Z μ w (w.setRow id c') :=
  ⟨fun k hk=>xM k (fun e=>sY (e ▸ hk)),fun b' k hk cc T' fz rH=>⟨cc,(xM k (fun e=>nI b' (e ▸ hk))).trans rH,rfl⟩⟩
 have hup:∀ b k,μ b=some k->q7 μ d id b=some k:=fun b k h=>by
  unfold q7;split
  ·subst_vars;rw [hd] at h;cases h
  ·exact h
 have hinv:∀ b k,q7 μ d id b=some k->(b=d/\k=id)\/(b≠d/\μ b=some k):=fun b k h=>by
  unfold q7 at h;split at h
  ·cases h;exact .inl ⟨by assumption,rfl⟩
  ·exact .inr ⟨by assumption,h⟩
 refine⟨⟨?_,fun k hk=>by rw [afv];exact hc.mc k hk,hc.jS,hc.me,?_,?_,?_,hc.oZ,fun k h=>hup 0 k (hc.x1 k h),?_,?_,?_⟩,dQ,hup,ab9⟩
 ·exact⟨hc.cE.os,hc.cE.tape,hc.cE.output,by rw [afv];exact hc.cE.size,fun k hk hx=>(xM k (by
    rintro rfl
    rcases cg with h | h
    ·omega
    ·exact hx (.inr h))).trans (hc.cE.block k hk hx),
   fun k hx c0 T0 fz0 h0=>by
    obtain⟨c1,g1,g2⟩:=hc.cE.vT k hx c0 T0 fz0 h0
    by_cases e:k=id
    ·subst e
     rw [hcell] at g1;cases g1
     exact⟨c',ab9,bI.trans g2⟩
    ·exact⟨c1,(xM k e).trans g1,g2⟩⟩
 ·intro b b' k h h'
  rcases hinv b k h with⟨rfl,rfl⟩ | ⟨n1,h3⟩<;>rcases hinv b' _ h' with⟨rfl,e⟩ | ⟨n2,h4⟩
  ·rfl
  ·exact absurd h4 (nI b')
  ·exact absurd (e ▸ h3) (nI b)
  ·exact hc.inj b b' k h3 h4
 ·intro b k h
  rcases hinv b k h with⟨rfl,rfl⟩ | ⟨n1,h3⟩
  ·exact cg.imp (fun h=>h) .inr
  ·exact hc.own b k h3
 ·intro b k h hx
  rcases hinv b k h with⟨rfl,rfl⟩ | ⟨n1,h3⟩
  ·exact absurd (hc.x1 _ hx) (nI 0)
  ·exact hc.x0 b k h3 hx
 ·intro b k bk h g fQ
  rcases hinv b k h with⟨rfl,rfl⟩ | ⟨n1,h3⟩
  ·exact sY
  ·rw [if_neg n1] at g;exact hc.jD b k bk h3 g fQ
 ·intro b k bk h g fQ
  rcases hinv b k h with⟨rfl,rfl⟩ | ⟨n1,h3⟩
  ·rw [if_pos rfl] at g;cases g;rw [hm] at fQ;cases fQ
  ·rw [if_neg n1] at g;exact hc.cd b k bk h3 g fQ
 ·intro b k h
  rcases hinv b k h with⟨rfl,rfl⟩ | ⟨n1,h3⟩
  ·exact⟨blk,if_pos rfl,c',T,part,rest,ab9,h1,h2.mono (fun _ h=>h) hup dQ⟩
  ·obtain⟨bk,g1,g2⟩:=hc.heap b k h3
   exact⟨bk,by rw [if_neg n1];exact g1,g2.mono (fun _ h=>h) hup dQ (xM k (fun e=>nI b (e ▸ h3)))⟩
theorem ajZ {U E':TypeId} {y:Operand} {news:List LV} {sz:Nat} (hc:Core W X Z0 μ Z L.heap w) (hr:∀ t,bh Z μ w (L.slot t) (a.tmps.getD t undef)) (hU:P.underlying U=some (.slice E'))
  (hy:(∃ c off ee,L.ev y=.ref c sz off news.length/\L.heap c=some ee/\ee.sz=sz/\off+news.length<=ee.vals.length/\news=(ee.vals.drop off).take news.length) \/
    L.ev y=.list sz news\/(L.ev y=.v (.slice none 0 0)/\news=[])) :
  ∃ cells,Src P sz U (a.eval y) news.length cells w/\aS Z μ w sz news cells:=by
 have e1:=l9 (L:=L) hr y
 have one:∀ (l:List LV) (cs:List Value),aS Z μ w sz l cs->∀ u∈cs,u.oneCell'=true:=by
  intro l
  induction l with
  | nil=>intro cs h;simp only [aS] at h;simp [h]
  | cons x xs ih =>
   intro cs h u hu
   simp only [aS] at h
   obtain⟨c1,c2,rfl,h2,h3,h4⟩:=h
   rcases o8.1 hu with hu | hu
   ·exact aB.one _ _ h3 u hu
   ·exact ih c2 h4 u hu
 rcases hy with⟨cc,off,ee,h1,h2,h3,h4,h5⟩ | h1 | ⟨h1,rfl⟩
 ·rw [h1] at e1
  have e2:=e1.2 rfl
  simp only [aB] at e2
  rcases e2 with⟨q1,q2⟩ | ⟨id,cap,c,T,fz,q1,q2,q3,q4,q5⟩
  ·simp only [fP,and_true] at q1
   have agp:=nM q2
   subst agp
   refine⟨[],?_,by simp [aS]⟩
   rw [q1]
   exact Src.ofNil w hU 0
  simp only [fP,and_true] at q1
  obtain⟨bk,g1,c',T',part,rest,g2,g3,g4⟩:=hc.heap cc id q2
  rw [h2] at g1;cases g1
  rw [q4] at g2;cases g2
  obtain⟨c1,c2,d1,d2,d3⟩:=aS.split (ee.vals.take off) (ee.vals.drop off) part ace
  obtain⟨c3,c4,d4,d5,d6⟩:=aS.split ((ee.vals.drop off).take news.length) ((ee.vals.drop off).drop news.length) c2 (by rw [vS];exact d3)
  rw [<-h5,h3] at d5
  have lY:=aS.length _ _ d2
  rw [eP,mf ae,h3] at lY
  have aal:=adD (w:=w) (off:=off*sz) (part:=c3) (rest:=c4++rest) q4 (by rw [g3,d1,d4,<-lY];simp)
  refine⟨c3,?_,d5⟩
  rw [q1]
  exact Src.ofSlice w hU _ _ _ c3 (aS.length _ _ d5) (fun j u hj=>by rw [Addr.add_mid];exact aal j u hj) (one _ _ d5)
 ·rw [h1] at e1
  have e2:=e1.2 rfl
  simp only [aB] at e2
  obtain⟨ad,len,cap,q1,q2,q3,q4,_⟩:=e2
  simp only [fP,and_true] at q1
  rcases q4 with q4 | ⟨blk,off,c,T,fz,part,rest,g1,g2,g3,g4,g5⟩
  ·subst q4
   simp at q2;subst q2
   refine⟨[],?_,rfl⟩
   rw [q1]
   cases ad with
   | none=>exact Src.ofNil w hU cap
   | some ad=>exact Src.ofSlice w hU ad 0 cap [] aM aM aM
  ·subst g1
   have aal:=adD (w:=w) (part:=part) (rest:=rest) g3 g4
   refine⟨part,?_,g5⟩
   rw [q1,q2]
   exact Src.ofSlice w hU _ _ _ part (aS.length _ _ g5) (fun j u hj=>by rw [Addr.add_mid];exact aal j u hj) (one _ _ g5)
 ·rw [h1] at e1
  have e2:=e1.eI
  refine⟨[],?_,rfl⟩
  rw [e2]
  exact Src.ofNil w hU 0
theorem afo {d:Nat} {blk:bg} {H:bW} (hd:H d=none):H.le (fun k=>if k=d then some blk else H k):=fun b bk h=>by
 have:b≠d:=by rintro rfl;rw [hd] at h;cases h
 exact⟨bk.mt,by simp only [if_neg this];exact h,fun h=>h,fun h1 h2=>by rw [h1] at h2;cases h2⟩
theorem ajq {g o:Nat} {T:TypeId} {vs:List Value} {cur:Array Value} (hg:w.heap[g]?=some (.cells cur T (0,0))) (hl:o+vs.length<=cur.size) (h1:∀ v∈vs,v.oneCell'=true) :
  w.setCells g o vs=w.setRow g (cur.toList.take o++vs++cur.toList.drop (o+vs.length)).toArray:=by
 have a:=run_storeCells_at (default:Program) g o T vs 0 cur w hg (by simpa using hl) h1
 have hc:∀ j,j<vs.length->(w.cell? ⟨g,o+j,none⟩).isSome=true:=fun j hj=>by
  rw [cell_of_row w g (o+j) cur T (0,0) hg,pE ae];rfl
 have hf:∀ j,j<vs.length->w.frozen? ⟨g,o+j,none⟩=false:=fun j hj=>by simp [World.frozen?,hg]
 have b:=run_storeCells_cells (P:=(default:Program)) g o vs 0 w (by simpa using hc) (by simpa using hf) h1
 rw [b] at a
 simp only [mS,Result.ok.injEq,true_and] at a
 exact a
theorem ang {T U E ty:TypeId} {d sz:Nat} {news olds:List LV} {z:LV} {dP:Nat} {oldc fa:List Value} {base:Option Addr} {sLen sCap:Nat} {xv yv:Value}
  (hc:Core W X Z0 μ Z H w) (hd:H d=none) (hT:P.underlying T=some (.slice E)) (hz:dp P E z) (hE:bE P E sz z.isAgg) (dX:z.aw=sz) (l6:mT P E dP)
  (hx:xv=.slice base sLen sCap) (hold:(Builtin.firstCells sz sLen (.slice base sLen sCap)).run P w.drew=.ok oldc.toArray w.drew)
  (hs:Src P sz U yv news.length fa w) (ho:aS Z μ w sz olds oldc) (de:olds.length=sLen) (hn:aS Z μ w sz news fa)
  (hg:sCap<sLen+news.length) (bI:(sLen+news.length)*dP<=140737488355328) (gU:sLen+news.length<=4611686018427387904) :
  ∃ v w' bm Z',(Builtin.append_ #[T,U] ty #[xv,yv]).run P w=.ok v w'/\Core W X Z0 bm Z' (fun k=>if k=d then some ⟨sz,olds++news,true⟩ else H k) w' /\
   (∀ id,Z id->Z' id)/\(∀ b id,μ b=some id->bm b=some id)/\Frame Z μ w w'/\bh Z' bm w' (.ref d sz 0 (sLen+news.length)) v:=by
 obtain⟨i,zv,z1,z2,z3,z4⟩:=hz
 have v8:i.size=sz:=by have:=hE.1;rw [z1] at this;simpa using this
 have yg:i.bytes=dP:=by obtain⟨i',g1,g2⟩:=l6;rw [z1] at g1;cases g1;exact g2
 have xT:=nextslicecap_le hg
 have qA:Builtin.nextslicecap (sLen+news.length) sCap*i.bytes<=281474976710656:=by
  rw [yg]
  calc Builtin.nextslicecap (sLen+news.length) sCap*dP<=(2*(sLen+news.length))*dP:=fU _ xT
   _=2*((sLen+news.length)*dP):=by rw [fM]
   _<=281474976710656:=by omega
 subst hx
 have fw:=run_append_grow_src (P:=P) w T U ty E i zv hT z1 z2 base sLen sCap oldc (by rw [v8];exact hold) yv news.length fa (by rw [v8];exact hs) hg ae qA
 have acE:μ d=none:=by
  cases hq:μ d with
  | none=>rfl
  | some id=>obtain⟨bk,g,_⟩:=hc.heap d id hq;rw [hd] at g;cases g
 have hcz:zv.cells.size=sz:=by
  have h1:=aB.len (z4 Z μ w) (LV.fp z3)
  rw [<-n9,h1,dX]
 have eO:=aS.append _ _ _ _ ho hn
 have hlen:=aS.length _ _ eO
 obtain⟨Z1,k1,k2⟩:=hc.xW (afo (blk:=⟨sz,olds++news,true⟩) hd)
 have azU:tf w (w.drew.alloc (.cells ((oldc++fa).toArray++Builtin.zeroCells zv.cells (grownCap w (sLen+news.length) sCap E-(sLen+news.length))) E)) _:=⟨rfl,rfl,rfl,rfl⟩
 obtain⟨Z2,h1,h2,h3,h4,h5,h6⟩:=k1.push (d:=d) (blk:=⟨sz,olds++news,true⟩) (part:=oldc++fa) (rest:=(Builtin.zeroCells zv.cells (grownCap w (sLen+news.length) sCap E-(sLen+news.length))).toList)
  aM acE azU aM (eO.mono k2 (fun _ _ h=>h) ⟨fun _ _=>rfl,(Frame.refl Z μ w).m⟩)
 refine⟨_,_,_,Z2,fw,h1,fun id h=>h2 id (k2 id h),h3,⟨fun id h=>h4.z id (k2 id h),h4.m⟩,⟨by simp [LV.isAgg],fun _=>?_⟩⟩
 simp only [aB]
 have kM:=grownCap_ge w (sLen+news.length) sCap E
 refine .inr ⟨w.heap.size,_,_,E,(0,0),by simp,h5,kM,h6,?_⟩
 rw [ahF,abr,hlen,size_zeroCells,hcz,lT,de,fF,<-iA]
 exact fU _ ae
theorem u4 (hc:Core W X Z0 μ Z H w) {d:Nat} (hd:H d=none):μ d=none:=by
 cases hq:μ d with
 | none=>rfl
 | some id=>obtain⟨bk,g,_⟩:=hc.heap d id hq;rw [hd] at g;cases g
theorem aS.aeJ {sz b:Nat} (l:List LV) (cs:List Value) (h:aS Z μ w sz l cs):aS Z (kO μ b) w sz (bX b l) cs :=
 aS.kill (fun _ h=>h) (fun k id hk h=>by simp [kO,hk,h]) (Frame.refl _ _ _) _ _ h
theorem ag6 (b:Nat):∀ l:List LV,(bX b l).length=l.length
 | []=>rfl
 | x :: xs=>by simp [bX,ag6 b xs]
theorem aix (b:Nat):∀ l m:List LV,bX b (l++m)=bX b l++bX b m
 | [],m=>rfl
 | x :: xs,m=>by simp [bX,aix b xs m]
theorem Core.aiO {H':bW} (hc:Core W X Z0 μ Z H w) (hh:∀ b id,μ b=some id->H' b=H b):Core W X Z0 μ Z H' w :=
 ⟨hc.cE,hc.mc,hc.jS,hc.me,hc.inj,hc.own,hc.x0,hc.oZ,hc.x1,fun b id blk h g=>hc.jD b id blk h ((hh b id h).symm.trans g),fun b id blk h g=>hc.cd b id blk h ((hh b id h).symm.trans g),
  fun b id h=>let ⟨blk,g1,g2⟩:=hc.heap b id h;⟨blk,(hh b id h).trans g1,g2⟩⟩
theorem aEA {T U E E' ty:TypeId} {d b sz len:Nat} {blk:bg} {x y:Operand} {news:List LV} {z:LV} {dP:Nat} (hc:Core W X Z0 μ Z L.heap w) (hr:∀ t,bh Z μ w (L.slot t) (a.tmps.getD t undef))
  (hx:L.ev x=.ref b sz 0 len) (hb:L.heap b=some blk) (hs:blk.sz=sz) (hm:blk.mt=true) (hlen:len<=blk.vals.length) (gz:d=b\/L.heap d=none) (gE:b≠0)
  (hT:P.underlying T=some (.slice E)) (hU:P.underlying U=some (.slice E')) (hz:dp P E z) (hE:bE P E sz z.isAgg) (dX:z.aw=sz) (l6:mT P E dP)
  (hy:(∃ c off ee,L.ev y=.ref c sz off news.length/\c≠b/\L.heap c=some ee/\ee.sz=sz/\off+news.length<=ee.vals.length/\news=(ee.vals.drop off).take news.length/\aN news=true) \/
    L.ev y=.list sz news\/(L.ev y=.v (.slice none 0 0)/\news=[]))
  (bI:(len+news.length)*dP<=140737488355328) (gU:len+news.length<=4611686018427387904) :
  ∃ v w' bm Z',(Builtin.append_ #[T,U] ty #[a.eval x,a.eval y]).run P w=.ok v w' /\
   Core W X Z0 bm Z' ((L.kill b).bO d (some ⟨sz,bX b (blk.vals.take len++news),true⟩)).heap w' /\
   (∀ t,bh Z' bm w' ((L.kill b).slot t) (a.tmps.getD t undef))/\bh Z' bm w' (.ref d sz 0 (len+news.length)) v:=by
 obtain⟨fa,ss,rV⟩:=ajZ (P:=P) hc hr hU (y:=y) (news:=news) (sz:=sz) (by
  rcases hy with⟨c,off,b2,q1,_,q3,q4,q5,q6,_⟩ | h | h
  ·exact .inl ⟨c,off,b2,q1,q3,q4,q5,q6⟩
  ·exact .inr (.inl h)
  ·exact .inr (.inr h))
 have e1:=l9 (L:=L) hr x
 rw [hx] at e1
 have e2:=e1.2 rfl
 simp only [aB] at e2
 have hkd:(L.kill b).heap d=none:=by
  rcases gz with rfl | h
  ·simp [St.kill]
  ·simp only [St.kill];split
   ·rfl
   ·rw [h];rfl
 rcases e2 with⟨q1,rfl⟩ | ⟨id,cap,c,U',fz,q1,q2,q3,q4,q5⟩
 ·simp only [fP,and_true] at q1
  have hk:=hc.kill b gE
  have kN:=aeA b hr
  have iI:(bX b news).length=news.length:=ag6 b news
  cases hnw:news with
  | nil =>
   subst hnw
   obtain⟨i,zv,z1,z2,z3,z4⟩:=hz
   have v8:i.size=sz:=by have:=hE.1;rw [z1] at this;simpa using this
   have akW:fa=[]:=by simpa [aS] using rV
   subst akW
   have fw:=run_append_nothing (P:=P) w T U ty E i hT z1 none 0 0 (bq _) (a.eval y) (v8 ▸ ss)
   refine⟨_,w,kO μ b,Z,by rw [q1];exact fw,?_,kN,⟨by simp [LV.isAgg],fun _=>by simp [aB]⟩⟩
   exact hk.aiO fun c id yx=>by
    have:c≠d:=by rintro rfl;rw [u4 hk hkd] at yx;cases yx
    simp [St.bO,this]
  | cons x0 xs0 =>
   rw [<-hnw]
   have ni:0<news.length:=by rw [hnw];simp
   obtain⟨v,w',bm,Z',r1,r2,r3,r4,r5,r6⟩:=ang (P:=P) (ty:=ty) (U:=U) (olds:=[]) (news:=bX b news) (oldc:=[]) (sLen:=0) (sCap:=0) hk hkd hT hz hE dX l6 q1 (by simp [Builtin.firstCells]) (by rw [iI];exact ss)
    (by simp [aS]) rfl (aS.aeJ _ _ rV) (by rw [iI];omega) (by rw [iI];exact bI) (by rw [iI];exact gU)
   rw [afQ] at r2
   rw [iI] at r6
   exact⟨v,w',bm,Z',r1,by simpa [St.bO] using r2,fun t=>(kN t).mono r3 r4 r5,r6⟩
 simp only [fP,and_true,ad6] at q1
 obtain⟨bk,g1,c',T',part,rest,g2,g3,g4⟩:=hc.heap b id q2
 rw [hb] at g1;cases g1
 rw [q4] at g2;cases g2
 simp only [fF] at q5
 obtain⟨p1,p2,d1,d2,d3⟩:=aS.split (blk.vals.take len) (blk.vals.drop len) part ace
 rw [hs] at d2
 have kE:=aS.length _ _ d2
 rw [eP,mf hlen] at kE
 have hk:=hc.kill b gE
 have kN:=aeA b hr
 have nI:∀ k,kO μ b k≠some id:=fun k h=>by
  unfold kO at h;split at h
  ·cases h
  ·rename_i aX;exact aX (hc.inj k b id h q2)
 have cg:W.heap.size<=id\/X.y id:=by
  rcases hc.own b id q2 with h | h | h
  ·exact rB
  ·exact absurd (hc.x0 b id q2 h) gE
  ·exact .inr h
 have sY:=hc.jD b id blk q2 hb hm
 have nj:=aS.length _ _ rV
 by_cases al9:len+news.length<=cap
 ·have qA:len*sz+fa.length<=c.size:=by
   rw [nj,<-iA]
   exact ba (fU _ al9) q5
  have wT:∀ j,j<fa.length->(w.cell? ⟨id,0+len*sz+j,none⟩).isSome=true:=fun j hj=>by
   rw [cell_of_row w id _ c _ _ q4,pE ae];rfl
  have hc2:∀ j,j<fa.length->w.frozen? ⟨id,0+len*sz+j,none⟩=false:=fun j hj=>by simp [World.frozen?,q4]
  obtain⟨i,zv,z1,z2,z3,z4⟩:=hz
  have v8:i.size=sz:=by have:=hE.1;rw [z1] at this;simpa using this
  have fw:=run_append_room_src (P:=P) w T U ty E i hT z1 id 0 len cap (a.eval y) news.length fa (by rw [v8];exact ss) al9 (by rw [v8];exact wT) (by rw [v8];exact hc2)
  rw [v8,fF,ajq q4 qA ss.one] at fw
  have hold:=(aS.aeJ (b:=b) _ _ d2)
  have mP:=(aS.aeJ (b:=b) _ _ rV)
  have eO:=aS.append _ _ _ _ hold mP
  rw [<-aix] at eO
  have aAe:c.toList.take (len*sz)++fa++c.toList.drop (len*sz+fa.length)=(p1++fa)++c.toList.drop (len*sz+fa.length):=by
   rw [g3,d1,<-kE];simp
  rw [aAe] at fw
  obtain⟨k1,k2,k3,k4⟩:=hk.attach (d:=d) (id:=id) (blk:=⟨sz,bX b (blk.vals.take len++news),true⟩) (c':=((p1++fa)++c.toList.drop (len*sz+fa.length)).toArray)
   (part:=p1++fa) (rest:=c.toList.drop (len*sz+fa.length)) (u4 hk hkd) rfl nI sY cg (by
    simp only [abr,lT,kE,lg,n9]
    omega) q4 aM eO rfl
  refine⟨_,_,_,Z,by rw [q1];exact fw,k1,fun t=>(kN t).mono (fun _ h=>h) k3 k2,⟨by simp [LV.isAgg],fun _=>?_⟩⟩
  simp only [aB]
  refine .inr ⟨id,cap,_,U',(0,0),by simp,by simp [q7],al9,k4,?_⟩
  rw [fF]
  simp only [abr,lT,kE,lg,n9]
  omega
 ·have hold:(Builtin.firstCells sz len (.slice (some ⟨id,0,none⟩) len cap)).run P w.drew=.ok p1.toArray w.drew:=by
   refine run_firstCells_some w.drew sz len ⟨id,0,none⟩ len cap p1 kE (fun j v hj=>?_)
   rw [Addr.add_mid]
   have aal:=adD (w:=w) (off:=0) (part:=p1) (rest:=p2++rest) q4 (by rw [mn,g3,d1];simp)
   exact aal j v hj
  have iI:(bX b news).length=news.length:=ag6 b news
  obtain⟨v,w',bm,Z',r1,r2,r3,r4,r5,r6⟩:=ang (P:=P) (ty:=ty) (U:=U) (olds:=bX b (blk.vals.take len)) (news:=bX b news) hk hkd hT hz hE dX l6 q1 hold (by rw [iI];exact ss)
   (aS.aeJ _ _ d2) (by rw [ag6,eP];omega) (aS.aeJ _ _ rV) (by rw [iI];omega) (by rw [iI];exact bI) (by rw [iI];exact gU)
  rw [<-aix] at r2
  rw [iI] at r6
  exact⟨v,w',bm,Z',r1,r2,fun t=>(kN t).mono r3 r4 r5,r6⟩
theorem aB3 {T U E ty:TypeId} {d sz n:Nat} {x y:Operand} {z:LV} {dP:Nat} {k kl:IntKind} (hc:Core W X Z0 μ Z L.heap w) (hr:∀ t,bh Z μ w (L.slot t) (a.tmps.getD t undef))
  (hT:P.underlying T=some (.slice E)) (hU:P.underlying U=some (.int k)) (hz:dp P E z) (hE:bE P E sz z.isAgg) (dX:z.aw=sz) (hb:mT P E dP)
  (hx:L.ev x=.v (.slice none 0 0)) (hy:L.ev y=.v (.int kl (n:Nat))) (gz:L.heap d=none) (h0:0<n) (dO:0<sz) (hm:n*dP<=140737488355328) (gU:n<=4611686018427387904) :
  ∃ v w' bm Z',(Builtin.append_ #[T,U] ty #[a.eval x,a.eval y]).run P w=.ok v w'/\Core W X Z0 bm Z' (L.bO d (some ⟨sz,ay n z,true⟩)).heap w' /\
   (∀ t,bh Z' bm w' (L.slot t) (a.tmps.getD t undef))/\bh Z' bm w' (.ref d sz 0 n) v:=by
 obtain⟨i,zv,z1,z2,z3,z4⟩:=hz
 have e1:=l9 (L:=L) hr x
 rw [hx] at e1
 have e1:=e1.eI
 have e2:=l9 (L:=L) hr y
 rw [hy] at e2
 have e2:=e2.eI
 have aX:=LV.fp z3
 have v8:i.size=sz:=by have:=hE.1;rw [z1] at this;simpa using this
 have yg:i.bytes=dP:=by obtain⟨i',g1,g2⟩:=hb;rw [z1] at g1;cases g1;exact g2
 have o5:=aB.len (z4 Z μ w) aX
 have hcz:zv.cells.size=sz:=by rw [<-n9,o5,dX]
 have xT:=nextslicecap_le (show 0<n from h0)
 have qA:Builtin.nextslicecap n 0*i.bytes<=281474976710656:=by
  rw [yg]
  calc Builtin.nextslicecap n 0*dP<=(2*n)*dP:=fU _ xT
   _=2*(n*dP):=by rw [fM]
   _<=281474976710656:=by omega
 have fw:=aAn (P:=P) (w:=w) T U E ty k kl i zv hT hU z1 z2 n h0 ae ae (by rw [yg];exact hm) qA
 have acE:=u4 hc gz
 obtain⟨Z1,k1,k2⟩:=hc.xW (afo (blk:=⟨sz,ay n z,true⟩) gz)
 have eO:=aS.replicate (sz:=sz) (z4 Z1 μ w) (by rw [o5,dX]) n
 obtain⟨Z2,h1,h2,h3,h4,h5,h6⟩:=k1.push (d:=d) (blk:=⟨sz,ay n z,true⟩) (part:=(ay n zv.cells.toList).flatten) (rest:=(Builtin.zeroCells zv.cells (grownCap w n 0 E-n)).toList) aM acE
  (⟨rfl,rfl,rfl,rfl⟩:tf w (w.drew.alloc (.cells (Builtin.zeroCells zv.cells n++Builtin.zeroCells zv.cells (grownCap w n 0 E-n)) E)) _) (by rw [alf,amE]) eO
 have dQ:Frame Z μ w (w.drew.alloc (.cells (Builtin.zeroCells zv.cells n++Builtin.zeroCells zv.cells (grownCap w n 0 E-n)) E)):=⟨fun id h=>h4.z id (k2 id h),h4.m⟩
 refine⟨_,_,_,Z2,by rw [e1,e2];exact fw,h1,fun t=>(hr t).mono (fun id h=>h2 id (k2 id h)) h3 dQ,⟨by simp [LV.isAgg],fun _=>?_⟩⟩
 simp only [aB]
 have kM:=grownCap_ge w n 0 E
 refine .inr ⟨w.heap.size,_,_,E,(0,0),by simp,h5,kM,h6,?_⟩
 rw [ahF,size_zeroCells,size_zeroCells,hcz,fF,<-iA]
 exact fU _ ae
theorem aDe {T U E E' ty:TypeId} {d sz:Nat} {x y:Operand} {news:List LV} {z:LV} {dP:Nat} (hc:Core W X Z0 μ Z L.heap w) (hr:∀ t,bh Z μ w (L.slot t) (a.tmps.getD t undef))
  (hx:L.ev x=.v (.slice none 0 0)) (gz:L.heap d=none)
  (hT:P.underlying T=some (.slice E)) (hU:P.underlying U=some (.slice E')) (hz:dp P E z) (hE:bE P E sz z.isAgg) (dX:z.aw=sz) (l6:mT P E dP)
  (hy:(∃ c off ee,L.ev y=.ref c sz off news.length/\L.heap c=some ee/\ee.sz=sz/\off+news.length<=ee.vals.length/\news=(ee.vals.drop off).take news.length/\aN news=true) \/
    L.ev y=.list sz news)
  (hn:0<news.length) (bI:news.length*dP<=140737488355328) (gU:news.length<=4611686018427387904) :
  ∃ v w' bm Z',(Builtin.append_ #[T,U] ty #[a.eval x,a.eval y]).run P w=.ok v w'/\Core W X Z0 bm Z' (L.bO d (some ⟨sz,news,true⟩)).heap w' /\
   (∀ t,bh Z' bm w' (L.slot t) (a.tmps.getD t undef))/\bh Z' bm w' (.ref d sz 0 news.length) v:=by
 obtain⟨fa,ss,rV⟩:=ajZ (P:=P) hc hr hU (y:=y) (news:=news) (sz:=sz) (by
  rcases hy with⟨c,off,b2,q1,q3,q4,q5,q6,_⟩ | h
  ·exact .inl ⟨c,off,b2,q1,q3,q4,q5,q6⟩
  ·exact .inr (.inl h))
 have e1:=l9 (L:=L) hr x
 rw [hx] at e1
 have e2:=e1.eI
 obtain⟨v,w',bm,Z',r1,r2,r3,r4,r5,r6⟩:=ang (P:=P) (ty:=ty) (U:=U) (olds:=[]) (news:=news) (oldc:=[]) (sLen:=0) hc gz hT hz hE dX l6 e2 (by simp [Builtin.firstCells]) ss
  (by simp [aS]) rfl rV ae (by rw [fF];exact bI) (by rw [fF];exact gU)
 rw [fF] at r6
 rw [afQ] at r2
 exact⟨v,w',bm,Z',r1,r2,fun t=>(hr t).mono r3 r4 r5,r6⟩
end
end Go.Lg
namespace Go.Lg
def ef (ops:Array Oper) (L:St) (o:Oper) (res:Bool):Prop :=
 match o.guard with
 | none=>res=true
 | some (j,want)=>∃ d,(ops[j]?).bind (·.dst)=some d/\((∃ b,L.slot d=.v (.bool b)/\res=(b==want))\/(L.slot d=.bf []/\res=false))
inductive Step (P:Program) (dr:Bool) (ops:Array Oper) (o:Oper) (L L':St):Prop
 | skip (hg:ef ops L o false) (h:L'=L.put o.dst (.bf []))
 | val {r fr H1} (hg:ef ops L o true) (hle:L.heap.le H1) (dQ:∀ b blk,(b,blk)∈fr->L.heap b=none/\∃ m,H1 b=some ⟨blk.sz,blk.vals,m⟩/\(blk.mt=false->m=false))
   (ho:nC P H1 L.ev (o.dst.getD 0) o.op r fr) (h:L'=⟨(L.put o.dst r).slot,H1⟩)
 | st (hg:ef ops L o true) (ho:g7 P L o.dst o.op L')
 | stM (im:dr=false) (hg:ef ops L o true) (ho:OpM P L o.dst o.op L')
def opsL (P:Program) (dr:Bool) (ops:Array Oper):List Oper->St->(St->Prop)->Prop
 | [],L,K=>K L
 | o :: r,L,K=>∃ L',Step P dr ops o L L'/\opsL P dr ops r L' K
section
variable {P:Program} {W w w':World} {X:XS} {Z0 Z:Nat->Prop} {μ:Nat->Option Nat} {H:bW} {a:Act} {L L':St} {n:Nat} {dr:Bool} {ops:Array Oper}
theorem acw {o:Oper} {res:Bool} {L:St} (hr:∀ t,bh Z μ w (L.slot t) (a.tmps.getD t undef)) (hg:ef ops L o res):Region.wanted o (yielded ops a.tmps)=res:=by
 unfold ef at hg
 unfold Region.wanted
 split at hg
 ·rename_i h;rw [h];exact hg.symm
 ·rename_i j want h
  rw [h]
  obtain⟨d,h1,⟨b,h2,rfl⟩ | ⟨h2,rfl⟩⟩:=hg
  case inr =>
   have h3:=hr d
   rw [h2] at h3
   obtain⟨vs,h4,h5⟩:=h3
   have h5:vs=#[]:=by cases vs with | mk l=>exact congrArg Array.mk h5
   subst h5
   have h6:((ops[j]?).bind (·.dst)).bind (fun t=>a.tmps[t]?)=a.tmps[d]?:=by rw [h1];rfl
   rw [dG] at h4
   simp only [yielded,h6]
   cases hq:a.tmps[d]? with
   | none=>rfl
   | some u=>rw [hq] at h4;simp only [aag] at h4;subst h4;rfl
  have h3:=hr d
  rw [h2] at h3
  have h4:=h3.eI
  have h5:a.tmps[d]?=some (.bool b):=by
   rw [dG] at h4
   cases hq:a.tmps[d]? with
   | none=>rw [hq] at h4;simp [undef] at h4
   | some u=>rw [hq] at h4;simpa using h4
  have h6:((ops[j]?).bind (·.dst)).bind (fun t=>a.tmps[t]?)=some (.bool b):=by rw [h1];simpa using h5
  simp only [yielded,h6]
  cases b<;>cases want<;>rfl
theorem ato {P:Program} {ops:Array Oper} {dr:Bool} {K K':St->Prop} (hk:∀ L,K L->K' L):∀ (l:List Oper) (L:St),opsL P dr ops l L K->opsL P dr ops l L K'
 | [],L,h=>hk L h
 | o :: r,L,⟨L',h1,h2⟩=>⟨L',h1,ato hk r L' h2⟩
theorem aIj {T E ty:TypeId} {x:Operand} {b sz off n:Nat} {blk:bg} {z:LV} (hc:Core W X Z0 μ Z L.heap w) (hr:∀ t,bh Z μ w (L.slot t) (a.tmps.getD t undef))
  (hx:L.ev x=.ref b sz off n) (hb:L.heap b=some blk) (hs:blk.sz=sz) (hm:blk.mt=true) (hl:off+n<=blk.vals.length) (hT:P.underlying T=some (.slice E)) (hz:dp P E z) (dX:z.aw=sz) :
  ∃ w',(Builtin.clear_ #[T] ty #[a.eval x]).run P w=.ok (.tuple #[]) w' /\
   Core W X Z0 μ Z (L.bO b (some ⟨sz,blk.vals.take off++ay n z++blk.vals.drop (off+n),true⟩)).heap w'/\Frame Z μ w w':=by
 have e1:=l9 (L:=L) hr x
 rw [hx] at e1
 have e2:=e1.2 rfl
 simp only [aB] at e2
 have acC:n=0->(L.bO b (some ⟨sz,blk.vals.take off++ay n z++blk.vals.drop (off+n),true⟩)).heap=L.heap:=by
  rintro rfl
  funext c
  show (if c=b then _ else L.heap c)=_
  split
  ·rename_i e;subst e
   rw [hb]
   obtain⟨s,v,m⟩:=blk
   simp only at hs hm ⊢
   subst hs;subst hm
   simp
  ·rfl
 rcases e2 with⟨q1,rfl⟩ | ⟨id,cap,c,U',fz,q1,q2,q3,q4,q5⟩
 ·simp only [fP,and_true] at q1
  rw [acC rfl]
  exact⟨w,by rw [q1];simp [Builtin.clear_,run_underlying hT],hc,Frame.refl _ _ _⟩
 ·simp only [fP,and_true] at q1
  cases n with
  | zero =>
   rw [acC rfl]
   exact⟨w,by rw [q1];simp [Builtin.clear_,run_underlying hT],hc,Frame.refl _ _ _⟩
  | succ n =>
   obtain⟨bk,g1,c',T',part,rest,g2,g3,g4⟩:=hc.heap b id q2
   rw [hb] at g1;cases g1
   rw [q4] at g2;cases g2
   rw [hs] at g4
   obtain⟨i,zv,z1,z2,z3,z4⟩:=hz
   have z9:(zeroValue E).run P w=.ok zv w:=by simp [zeroValue,typeInfo,z1,z2]
   have aX:=LV.fp z3
   have o5:=aB.len (z4 Z μ w) aX
   rw [dX] at o5
   have rV:=aS.replicate (z4 Z μ w) o5 (n+1)
   have nj:=aS.length _ _ rV
   rw [List.length_replicate] at nj
   have alQ:blk.vals=blk.vals.take off++((blk.vals.drop off).take (n+1)++blk.vals.drop (off+(n+1))):=by
    rw [<-rm,vS,vS]
   rw [alQ] at g4
   obtain⟨p1,p2,d1,d2,d3⟩:=aS.split _ _ part g4
   obtain⟨p3,p4,d4,d5,d6⟩:=aS.split _ _ p2 d3
   have l1:=aS.length _ _ d2
   have l2:=aS.length _ _ d5
   rw [eP,mf ae] at l1
   rw [eP,lg,mf ae] at l2
   have hlen:c.toList.length=p1.length+(p3.length+p4.length)+rest.length:=by rw [g3,d1,d4];simp;omega
   have qA:off*sz+((ay (n+1) zv.cells.toList).flatten).length<=c.size:=by
    rw [<-n9,hlen,nj,l1,l2];omega
   have eO:=aS.append _ _ _ _ (aS.append _ _ _ _ d2 rV) d6
   have y8:∀ v∈(ay (n+1) zv.cells.toList).flatten,v.oneCell'=true:=fun v hv=>by
    simp only [List.mem_flatten] at hv
    obtain⟨l,lY,oX⟩:=hv
    rw [List.eq_of_mem_replicate lY] at oX
    exact aB.one _ _ (z4 Z μ w) v oX
   have hcell:∀ j,j<((ay (n+1) zv.cells.toList).flatten).length->(w.cell? ⟨id,off*sz+j,none⟩).isSome=true:=fun j hj=>by
    rw [cell_of_row w id _ c _ _ q4,pE ae];rfl
   have aet:∀ j,j<((ay (n+1) zv.cells.toList).flatten).length->w.frozen? ⟨id,off*sz+j,none⟩=false:=fun j hj=>by simp [World.frozen?,q4]
   have dj:=run_storeCells_cells (P:=P) id (off*sz) ((ay (n+1) zv.cells.toList).flatten) 0 w (by simpa using hcell) (by simpa using aet) y8
   simp only [mS] at dj
   rw [ajq q4 qA y8] at dj
   have mP:c.toList.take (off*sz)++(ay (n+1) zv.cells.toList).flatten++c.toList.drop (off*sz+((ay (n+1) zv.cells.toList).flatten).length)=(p1++(ay (n+1) zv.cells.toList).flatten++p4)++rest:=by
    rw [g3,d1,d4,nj,<-l1,<-l2]
    have e:(p1++(p3++p4))++rest=p1++(p3++(p4++rest)):=by simp
    rw [e,aht,<-rm,abd,abd];simp
   rw [mP] at dj
   obtain⟨k1,k2⟩:=Core.rewrite (blk':=⟨sz,blk.vals.take off++ay (n+1) z++blk.vals.drop (off+(n+1)),true⟩)
    (c':=((p1++(ay (n+1) zv.cells.toList).flatten++p4)++rest).toArray) (part:=p1++(ay (n+1) zv.cells.toList).flatten++p4) (rest:=rest) hc q2 hb hm rfl q4
    (by rw [<-n9 (xs:=c),hlen];simp only [abr,lT,nj,l2];omega) aM eO rfl
   refine⟨_,?_,k1,k2⟩
   rw [q1]
   simp only [Builtin.clear_,ahm,rj,Sem.run_bind,Sem.run_pure,run_underlying hT,Result.andThen_ok,z9,amE,dj]
theorem aFc {T U E E' ty:TypeId} {x y:Operand} {b sz off:Nat} {blk:bg} {news:List LV} {ag:Bool} (hc:Core W X Z0 μ Z L.heap w) (hr:∀ t,bh Z μ w (L.slot t) (a.tmps.getD t undef))
  (hx:L.ev x=.ref b sz off news.length) (hb:L.heap b=some blk) (hs:blk.sz=sz) (hm:blk.mt=true) (hl:off+news.length<=blk.vals.length) (hT:P.underlying T=some (.slice E)) (hU:P.underlying U=some (.slice E')) (hE:bE P E sz ag)
  (hy:(∃ c off2 ee,L.ev y=.ref c sz off2 news.length/\L.heap c=some ee/\ee.sz=sz/\off2+news.length<=ee.vals.length/\news=(ee.vals.drop off2).take news.length)\/L.ev y=.list sz news) :
  ∃ v w',(Builtin.copy_ #[T,U] ty #[a.eval x,a.eval y]).run P w=.ok v w' /\
   Core W X Z0 μ Z (L.bO b (some ⟨sz,blk.vals.take off++news++blk.vals.drop (off+news.length),true⟩)).heap w'/\Frame Z μ w w':=by
 obtain⟨fa,ss,rV⟩:=ajZ (P:=P) hc hr hU (y:=y) (news:=news) (sz:=sz) (by
  rcases hy with h | h
  ·exact rB
  ·exact .inr (.inl h))
 have e1:=l9 (L:=L) hr x
 rw [hx] at e1
 have e2:=e1.2 rfl
 simp only [aB] at e2
 have aEG:agO news.length news.length=news.length:=asM _
 have nj:=aS.length _ _ rV
 have acC:news=[]->(L.bO b (some ⟨sz,blk.vals.take off++news++blk.vals.drop (off+news.length),true⟩)).heap=L.heap:=by
  rintro rfl
  funext c
  show (if c=b then _ else L.heap c)=_
  split
  ·rename_i e;subst e
   rw [hb]
   obtain⟨s,v,m⟩:=blk
   simp only at hs hm ⊢
   subst hs;subst hm
   simp
  ·rfl
 rcases e2 with⟨q1,q0⟩ | ⟨id,cap,c,U',fz,q1,q2,q3,q4,q5⟩
 ·simp only [fP,and_true] at q1
  have agp:=nM q0
  rw [acC agp]
  refine⟨goInt ((0:Nat):Int),w,?_,hc,Frame.refl _ _ _⟩
  rw [q1]
  simp only [Builtin.copy_,ahm,rj,ahO,Sem.run_bind,Sem.run_pure,run_underlying hT,Result.andThen_ok,ss.len,run_sizeOf hE,q0,asM,show agO 0 0=0 from rfl]
  have jH:=ss.cells
  rw [q0] at jH
  simp only [jH,Result.andThen_ok,Sem.run_pure]
 ·simp only [fP,and_true] at q1
  obtain⟨bk,g1,c',T',part,rest,g2,g3,g4⟩:=hc.heap b id q2
  rw [hb] at g1;cases g1
  rw [q4] at g2;cases g2
  rw [hs] at g4
  have alQ:blk.vals=blk.vals.take off++((blk.vals.drop off).take news.length++blk.vals.drop (off+news.length)):=by
   rw [<-rm,vS,vS]
  rw [alQ] at g4
  obtain⟨p1,p2,d1,d2,d3⟩:=aS.split _ _ part g4
  obtain⟨p3,p4,d4,d5,d6⟩:=aS.split _ _ p2 d3
  have l1:=aS.length _ _ d2
  have l2:=aS.length _ _ d5
  rw [eP,mf ae] at l1
  rw [eP,lg,mf ae] at l2
  have hlen:c.toList.length=p1.length+(p3.length+p4.length)+rest.length:=by rw [g3,d1,d4];simp;omega
  have qA:off*sz+fa.length<=c.size:=by
   rw [<-n9,hlen,nj,l1,l2];omega
  have eO:=aS.append _ _ _ _ (aS.append _ _ _ _ d2 rV) d6
  have y8:∀ v∈fa,v.oneCell'=true:=ss.one
  have hcell:∀ j,j<fa.length->(w.cell? ⟨id,off*sz+j,none⟩).isSome=true:=fun j hj=>by
   rw [cell_of_row w id _ c _ _ q4,pE ae];rfl
  have aet:∀ j,j<fa.length->w.frozen? ⟨id,off*sz+j,none⟩=false:=fun j hj=>by simp [World.frozen?,q4]
  have dj:=run_storeCells_cells (P:=P) id (off*sz) fa 0 w (by simpa using hcell) (by simpa using aet) y8
  simp only [mS] at dj
  rw [ajq q4 qA y8] at dj
  have mP:c.toList.take (off*sz)++fa++c.toList.drop (off*sz+fa.length)=(p1++fa++p4)++rest:=by
   rw [g3,d1,d4,nj,<-l1,<-l2]
   have e:(p1++(p3++p4))++rest=p1++(p3++(p4++rest)):=by simp
   rw [e,aht,<-rm,abd,abd];simp
  rw [mP] at dj
  obtain⟨k1,k2⟩:=Core.rewrite (blk':=⟨sz,blk.vals.take off++news++blk.vals.drop (off+news.length),true⟩)
   (c':=((p1++fa++p4)++rest).toArray) (part:=p1++fa++p4) (rest:=rest) hc q2 hb hm rfl q4
   (by rw [<-n9 (xs:=c),hlen];simp only [abr,lT,nj,l2];omega) aM eO rfl
  refine⟨goInt news.length,_,?_,k1,k2⟩
  rw [q1]
  have jH:=ss.cells
  simp only [Builtin.copy_,ahm,rj,ahO,Sem.run_bind,Sem.run_pure,run_underlying hT,Result.andThen_ok,ss.len,run_sizeOf hE,aEG,jH,dj]
theorem aKe {T U E E' ty:TypeId} {x y:Operand} {b c sz off off2 n1 n2:Nat} {blk ee:bg} {news:List LV} {ag:Bool} (hc:Core W X Z0 μ Z L.heap w) (hr:∀ t,bh Z μ w (L.slot t) (a.tmps.getD t undef))
  (hx:L.ev x=.ref b sz off n1) (hb:L.heap b=some blk) (hs:blk.sz=sz) (hm:blk.mt=true) (hl:off<=blk.vals.length) (hT:P.underlying T=some (.slice E)) (hU:P.underlying U=some (.slice E')) (hE:bE P E sz ag)
  (hy:L.ev y=.ref c sz off2 n2) (oa:L.heap c=some ee) (xr:ee.sz=sz) (hn:news.length=agO n2 n1) (h0:0<news.length) (oX:off2+news.length<=ee.vals.length) (aIb:news=(ee.vals.drop off2).take news.length) :
  ∃ v w',(Builtin.copy_ #[T,U] ty #[a.eval x,a.eval y]).run P w=.ok v w' /\
   Core W X Z0 μ Z (L.bO b (some ⟨sz,blk.vals.take off++news++blk.vals.drop (off+news.length),true⟩)).heap w'/\Frame Z μ w w':=by
 have jY:news.length<=n1:=by rw [hn];exact Nat.min_le_right _ _
 have fe:news.length<=n2:=by rw [hn];exact Nat.min_le_left _ _
 have e1:=l9 (L:=L) hr x
 rw [hx] at e1
 have e2:=e1.2 rfl
 simp only [aB] at e2
 have f1:=l9 (L:=L) hr y
 rw [hy] at f1
 have f2:=f1.2 rfl
 simp only [aB] at f2
 rcases e2 with⟨q1,q0⟩ | ⟨id,cap,cc,U',fz,q1,q2,q3,q4,q5⟩
 ·omega
 rcases f2 with⟨p1,p0⟩ | ⟨id2,afe,cc2,U2,fz2,p1,p2,p3,p4,p5⟩
 ·omega
 simp only [fP,and_true] at q1 p1
 have one:∀ (l:List LV) (cs:List Value),aS Z μ w sz l cs->∀ u∈cs,u.oneCell'=true:=by
  intro l
  induction l with
  | nil=>intro cs h;simp only [aS] at h;simp [h]
  | cons x xs ih =>
   intro cs h u hu
   simp only [aS] at h
   obtain⟨c1,c2,rfl,h2,h3,h4⟩:=h
   rcases o8.1 hu with hu | hu
   ·exact aB.one _ _ h3 u hu
   ·exact ih c2 h4 u hu
 obtain⟨bk,g1,c',T',part,rest,g2,g3,g4⟩:=hc.heap c id2 p2
 rw [oa] at g1;cases g1
 rw [p4] at g2;cases g2
 obtain⟨c1,c2,d1,d2,d3⟩:=aS.split (ee.vals.take off2) (ee.vals.drop off2) part ace
 obtain⟨fa,c4,d4,d5,d6⟩:=aS.split ((ee.vals.drop off2).take news.length) ((ee.vals.drop off2).drop news.length) c2 (by rw [vS];exact d3)
 rw [<-aIb,xr] at d5
 have lY:=aS.length _ _ d2
 rw [eP,mf ae,xr] at lY
 have nj:=aS.length _ _ d5
 have aal:=adD (w:=w) (off:=off2*sz) (part:=fa) (rest:=c4++rest) p4 (by rw [g3,d1,d4,<-lY];simp)
 have ss:Src P sz U (.slice (some ⟨id2,off2*sz,none⟩) news.length afe) news.length fa w:=Src.ofSlice w hU _ _ _ fa nj (fun j u hj=>by rw [Addr.add_mid];exact aal j u hj) (one _ _ d5)
 have jH:(Builtin.firstCells sz news.length (.slice (some ⟨id2,off2*sz,none⟩) n2 afe)).run P w=.ok fa.toArray w:=ss.cells
 have y8:∀ v∈fa,v.oneCell'=true:=ss.one
 obtain⟨bk,g1,ct,T',part,rest,g2,g3,g4⟩:=hc.heap b id q2
 rw [hb] at g1;cases g1
 rw [q4] at g2;cases g2
 rw [hs] at g4
 obtain⟨tu,rJ,r1,r2,r3⟩:=aS.split (blk.vals.take off) (blk.vals.drop off) part ace
 have l1:=aS.length _ _ r2
 rw [eP,mf hl] at l1
 have l2:=aS.length _ _ r3
 rw [lg] at l2
 have qA:off*sz+fa.length<=cc.size:=by
  rw [nj,<-iA]
  exact ba (fU _ ae) q5
 have aIz:aS Z μ w sz (blk.vals.drop (off+news.length)) (rJ.drop fa.length):=by
  rcases gC (off+news.length) blk.vals.length with h | h
  ·obtain⟨p3,p4,t1,t2,t3⟩:=aS.split ((blk.vals.drop off).take news.length) ((blk.vals.drop off).drop news.length) rJ (by rw [vS];exact r3)
   have l3:=aS.length _ _ t2
   rw [eP,lg,mf ae,<-nj] at l3
   rw [t1,<-l3,abd,<-rm]
   exact t3
  ·rw [kg h,kg (by rw [l2,nj];exact fU _ ae)]
   simp [aS]
 have eO:=aS.append _ _ _ _ (aS.append _ _ _ _ r2 d5) aIz
 have hcell:∀ j,j<fa.length->(w.cell? ⟨id,off*sz+j,none⟩).isSome=true:=fun j hj=>by
  rw [cell_of_row w id _ cc _ _ q4,pE ae];rfl
 have aet:∀ j,j<fa.length->w.frozen? ⟨id,off*sz+j,none⟩=false:=fun j hj=>by simp [World.frozen?,q4]
 have dj:=run_storeCells_cells (P:=P) id (off*sz) fa 0 w (by simpa using hcell) (by simpa using aet) y8
 simp only [mS] at dj
 rw [ajq q4 qA y8] at dj
 have hlen:cc.size=tu.length+rJ.length+rest.length:=by rw [<-n9,g3,r1];simp;omega
 have mP:cc.toList.take (off*sz)++fa++cc.toList.drop (off*sz+fa.length)=(tu++fa++rJ.drop fa.length)++rest.drop (fa.length-rJ.length):=by
  rw [g3,r1,<-l1]
  have e:(tu++rJ)++rest=tu++(rJ++rest):=by simp
  rw [e,aht,<-rm,abd,List.drop_append];simp
 rw [mP] at dj
 obtain⟨k1,k2⟩:=Core.rewrite (blk':=⟨sz,blk.vals.take off++news++blk.vals.drop (off+news.length),true⟩)
  (c':=((tu++fa++rJ.drop fa.length)++rest.drop (fa.length-rJ.length)).toArray) (part:=tu++fa++rJ.drop fa.length) (rest:=rest.drop (fa.length-rJ.length)) hc q2 hb hm rfl q4
  (by
   simp only [abr,lT,lg]
   omega) aM eO rfl
 refine⟨goInt news.length,_,?_,k1,k2⟩
 rw [q1,p1]
 simp only [Builtin.copy_,ahm,rj,ahO,Sem.run_bind,Sem.run_pure,run_underlying hT,Result.andThen_ok,Builtin.lenOf,run_sizeOf hE,<-hn,jH,dj]
theorem aGH {P:Program} {w:World} (T U E ty:TypeId) (k kl:IntKind) (i:TypeInfo) (z:Value) (ht:P.underlying T=some (.slice E)) (hu:P.underlying U=some (.int k)) (hi:P.info? E=some i) (hz:i.zero=some z) (n:Nat)
  (base:Option Addr) (sLen sCap:Nat) (olds:List Value) (hold:(Builtin.firstCells i.size sLen (.slice base sLen sCap)).run P w.drew=.ok olds.toArray w.drew) (hg:sCap<sLen+n)
  (h0:0<n) (dO:0<i.size) (gU:sLen+n<=4611686018427387904) (l6:(sLen+n)*i.bytes<=140737488355328) (qA:Builtin.nextslicecap (sLen+n) sCap*i.bytes<=281474976710656) :
  (Builtin.append_ #[T,U] ty #[.slice base sLen sCap,.int kl (n:Int)]).run P w =
   .ok (.slice (some ⟨w.heap.size,0,none⟩) (sLen+n) (grownCap w (sLen+n) sCap E))
    (w.drew.alloc (.cells (olds.toArray++Builtin.zeroCells z.cells n++Builtin.zeroCells z.cells (grownCap w (sLen+n) sCap E-(sLen+n))) E)):=by
 have hn:¬ (sLen+n<=sCap):=by omega
 have jn:¬ n=0:=by omega
 have hw:IntKind.i64.wrap (n:Int)=(n:Int):=by simp [IntKind.wrap,show IntKind.i64.bits=64 from rfl];omega
 have h1:¬ ((n:Int)<0):=by omega
 have h2:¬ (281474976710656<(n:Int)*(i.bytes:Int)):=by
  have h4:n*i.bytes<=(sLen+n)*i.bytes:=fU _ ae
  have h5:((n*i.bytes:Nat):Int)<=140737488355328:=by omega
  rw [asW] at h5
  omega
 have alm:¬ (9223372036854775807<((sLen:Int)+(n:Int))):=by omega
 have amg:¬ (281474976710656<Builtin.nextslicecap (sLen+n) sCap*i.bytes):=by omega
 have bI:¬ (i.size=0):=by omega
 have hns:¬ (n*i.size=0):=Nat.mul_ne_zero jn bI
 simp [Builtin.append_,run_underlying ht,run_underlying hu,sizeOf,typeInfo,zeroValue,hi,hz,hn,jn,hw,h1,h2,alm,amg,asInt,asIntOf,Question.forced,hold,bI,newRow,grownCap]
 intro h
 rcases aj0.1 h with h | h<;>omega
theorem azR {T U E ty:TypeId} {d b sz n len cp:Nat} {x y:Operand} {z:LV} {dP:Nat} {k kl:IntKind} {blk:bg} (hc:Core W X Z0 μ Z L.heap w) (hr:∀ t,bh Z μ w (L.slot t) (a.tmps.getD t undef))
  (hT:P.underlying T=some (.slice E)) (hU:P.underlying U=some (.int k)) (hz:dp P E z) (hE:bE P E sz z.isAgg) (dX:z.aw=sz) (hb:mT P E dP)
  (hx:L.ev x=.kC b sz 0 len cp) (lX:L.heap b=some blk) (hs:blk.sz=sz) (hlen:len<=blk.vals.length) (hy:L.ev y=.v (.int kl (n:Nat))) (gz:L.heap d=none) (hg:cp<len+n) (dO:0<sz)
  (hm:(len+n)*dP<=140737488355328) (gU:len+n<=4611686018427387904) :
  ∃ v w' bm Z',(Builtin.append_ #[T,U] ty #[a.eval x,a.eval y]).run P w=.ok v w'/\Core W X Z0 bm Z' (L.bO d (some ⟨sz,blk.vals.take len++ay n z,true⟩)).heap w' /\
   (∀ t,bh Z' bm w' (L.slot t) (a.tmps.getD t undef))/\bh Z' bm w' (.ref d sz 0 (len+n)) v:=by
 obtain⟨i,zv,z1,z2,z3,z4⟩:=hz
 have e1:=l9 (L:=L) hr x
 rw [hx] at e1
 have e3:=e1.2 rfl
 simp only [aB] at e3
 obtain⟨id,cc,Ti,fz,q1,q2,q3,q4,q5⟩:=e3
 simp only [fP,and_true] at q1
 have e2:=l9 (L:=L) hr y
 rw [hy] at e2
 have e2:=e2.eI
 have aX:=LV.fp z3
 have v8:i.size=sz:=by have:=hE.1;rw [z1] at this;simpa using this
 have yg:i.bytes=dP:=by obtain⟨i',g1,g2⟩:=hb;rw [z1] at g1;cases g1;exact g2
 have o5:=aB.len (z4 Z μ w) aX
 have hcz:zv.cells.size=sz:=by rw [<-n9,o5,dX]
 have xT:=nextslicecap_le hg
 have qA:Builtin.nextslicecap (len+n) cp*i.bytes<=281474976710656:=by
  rw [yg]
  calc Builtin.nextslicecap (len+n) cp*dP<=(2*(len+n))*dP:=fU _ xT
   _=2*((len+n)*dP):=by rw [fM]
   _<=281474976710656:=by omega
 obtain⟨bk,g1,c',T',part,rest,g2,g3,g4⟩:=hc.heap b id q2
 rw [lX] at g1;cases g1
 rw [q4] at g2;cases g2
 rw [hs] at g4
 obtain⟨oldc,c2,d1,d2,d3⟩:=aS.split (blk.vals.take len) (blk.vals.drop len) part ace
 have lY:=aS.length _ _ d2
 rw [eP,mf hlen] at lY
 have aal:=adD (w:=w) (off:=0*sz) (part:=oldc) (rest:=c2++rest) q4 (by rw [g3,d1];simp)
 have hold:(Builtin.firstCells i.size len (.slice (some ⟨id,0*sz,none⟩) len cp)).run P w.drew=.ok oldc.toArray w.drew:=by
  rw [v8]
  exact run_firstCells_some w.drew sz len _ len cp oldc lY (fun j u hj=>by rw [Addr.add_mid];simpa using aal j u hj)
 have fw:=aGH (P:=P) (w:=w) T U E ty k kl i zv hT hU z1 z2 n (some ⟨id,0*sz,none⟩) len cp oldc hold hg ae ae gU (by rw [yg];exact hm) qA
 have acE:=u4 hc gz
 obtain⟨Z1,k1,k2⟩:=hc.xW (afo (blk:=⟨sz,blk.vals.take len++ay n z,true⟩) gz)
 have eO:=aS.append _ _ _ _ (d2.mono k2 (fun _ _ h=>h) ⟨fun _ _=>rfl,(Frame.refl Z μ w).m⟩) (aS.replicate (sz:=sz) (z4 Z1 μ w) (by rw [o5,dX]) n)
 obtain⟨Z2,h1,h2,h3,h4,h5,h6⟩:=k1.push (d:=d) (blk:=⟨sz,blk.vals.take len++ay n z,true⟩) (part:=oldc++(ay n zv.cells.toList).flatten) (rest:=(Builtin.zeroCells zv.cells (grownCap w (len+n) cp E-(len+n))).toList) aM acE
  (⟨rfl,rfl,rfl,rfl⟩:tf w (w.drew.alloc (.cells (oldc.toArray++Builtin.zeroCells zv.cells n++Builtin.zeroCells zv.cells (grownCap w (len+n) cp E-(len+n))) E)) _) (by rw [alf,alf,amE]) eO
 have dQ:Frame Z μ w (w.drew.alloc (.cells (oldc.toArray++Builtin.zeroCells zv.cells n++Builtin.zeroCells zv.cells (grownCap w (len+n) cp E-(len+n))) E)):=⟨fun id h=>h4.z id (k2 id h),h4.m⟩
 refine⟨_,_,_,Z2,by rw [q1,e2];exact fw,h1,fun t=>(hr t).mono (fun id h=>h2 id (k2 id h)) h3 dQ,⟨by simp [LV.isAgg],fun _=>?_⟩⟩
 simp only [aB]
 have kM:=grownCap_ge w (len+n) cp E
 refine .inr ⟨w.heap.size,_,_,E,(0,0),by simp,h5,kM,h6,?_⟩
 rw [ahF,ahF,size_zeroCells,size_zeroCells,hcz,abr,lY,fF,<-iA,<-iA]
 exact fU _ ae
theorem aEi {f:FuncId} {x y:Operand} {Tx Ty:TypeId} {fn:Func} {b c sz o1 n1 o2 n2:Nat} {ag:Bool} {tS tR e:TypeId} {dst:Option Tmp} {ty:TypeId} {pos:String} {af:Array Edge} {g:Option (Nat × Bool)} (hc:Core W X Z0 μ Z L.heap w) (hr:∀ t,bh Z μ w (L.slot t) (a.tmps.getD t undef))
  (hf:P.funcs[f]?=some fn) (ry:(fn.name== "runtime.NumGoroutine")=false) (hb:fn.body.isNone=true) (hn:Extern.findNext fn=none) (he:Extern.find fn=some (Extern.SlicesOverlaps.overlaps #[tS,tS] #[tR]))
  (ht:P.underlying tS=some (.slice e)) (hE:bE P e sz ag) (hx:L.ev x=.ref b sz o1 n1) (hy:L.ev y=.ref c sz o2 n2) (vK:b≠c) (h1:0<n1) (h2:0<n2) (dO:0<sz) :
  (execOp a.eval ⟨dst,.call ⟨.value (.func f),#[x,y],#[Tx,Ty]⟩,ty,pos,af,g⟩).run P w=.ok (.value (.bool false)) w:=by
 have e1:=l9 (L:=L) hr x
 rw [hx] at e1
 have e2:=e1.2 rfl
 simp only [aB] at e2
 have f1:=l9 (L:=L) hr y
 rw [hy] at f1
 have f2:=f1.2 rfl
 simp only [aB] at f2
 rcases e2 with⟨q1,q0⟩ | ⟨id,cap,cc,U',fz,q1,q2,q3,q4,q5⟩
 ·omega
 rcases f2 with⟨p1,p0⟩ | ⟨id2,afe,cc2,U2,fz2,p1,p2,p3,p4,p5⟩
 ·omega
 simp only [fP,and_true] at q1 p1
 have aFv:id≠id2:=fun h=>vK (hc.inj _ _ _ q2 (h ▸ p2))
 obtain⟨bk,g1,c',T',part,rest,g2,g3,g4⟩:=hc.heap b id q2
 rw [q4] at g2;cases g2
 have hv:(Extern.SlicesOverlaps.overlaps #[tS,tS] #[tR] #[a.eval x,a.eval y]).run P w=.ok (.bool false) w:=by
  rw [q1,p1]
  refine Lib.run_overlaps_apart w tS tR e ht sz (fun w'=>run_sizeOf hE) ⟨id,o1*sz,none⟩ ⟨id2,o2*sz,none⟩ n1 cap n2 afe aFv U' U2 cc.size cc2.size (by simp only [World.shape?,q4]) (by simp only [World.shape?,p4]) ?_ (by simp [World.frozen?,q4]) (by simp [World.frozen?,q4])
  have:0<(o2+afe)*sz:=Nat.mul_pos ae dO
  omega
 have hc2:=run_callFunc_extern (P:=P) (args:=#[a.eval x,a.eval y]) hf ry hb hn he w
 rw [hv] at hc2
 simp only [execOp,resolve,Act.eval,Deferred.ofValue,Sem.run_bind,Sem.run_pure,Result.andThen_ok,invoke]
 simpa using hc2
theorem acU {o:Oper} (hs:gi n W X Z0 L a w) (dj:Step P dr ops o L L') (hd:∀ t,o.dst=some t->t<n) {K:Act->World->Prop} {Q:Exit->Act->World->Prop}
  (hK:∀ a' w',gi n W X Z0 L' a' w'->K a' w'):if Region.wanted o (yielded ops a.tmps) then o.wp P a w K Q else K (a.put o.dst undef) w:=by
 obtain⟨ey,bI,μ,Z,hc,hr⟩:=hs
 have iU:∀ t,o.dst=some t->t<a.tmps.size:=fun t h=>by rw [bI];exact hd t h
 cases dj with
 | skip hg h =>
  rw [acw hr hg]
  simp only [adL,if_false]
  subst h
  exact hK _ _ ⟨by rw [put_defers];exact ey,by rw [r7];exact bI,μ,Z,by rw [mb];exact hc,r9 iU hr ⟨#[],rfl,rfl⟩⟩
 | @val r fr H1 hg hle dQ ho h =>
  rw [acw hr hg]
  simp only [if_true]
  obtain⟨Z1,k1,k2⟩:=hc.xW hle
  have fu:∀ t,bh Z1 μ w (L.slot t) (a.tmps.getD t undef):=fun t=>(hr t).mono k2 (fun _ _ h=>h) ⟨fun _ _=>rfl,(Frame.refl Z μ w).m⟩
  obtain⟨dst,op,ty,pos,after,g⟩:=o
  refine nC.sound k1 ho (fun x _=>l9 (L:=L) fu x) (fun b blk hb=>?_) dst ty pos after g ?_
  ·obtain⟨h1,m,h2,h3⟩:=dQ b blk hb
   exact⟨m,h2,h3,u4 hc h1⟩
  ·intro v w' bm Z' qW
   subst h
   refine hK _ _ ⟨by rw [put_defers];exact ey,by rw [r7];exact bI,bm,Z',qW.core,?_⟩
   exact r9 (L:=L) iU (fun t=>(fu t).mono qW.hz qW.hm qW.hf) qW.rep
 | st hg ho =>
  rw [acw hr hg]
  simp only [if_true]
  obtain⟨dst,op,ty,pos,after,g⟩:=o
  simp only at ho iU
  cases ho with
  | store hp hb oM hm hi hy nF hT aX =>
   obtain⟨w',h1,h2,h3⟩:=aFO (P:=P) hc hr hp hb oM hm hi hy nF hT aX dst ty pos after g
   unfold Oper.wp
   rw [h1,Oper.upon_skip]
   refine hK _ _ ⟨by rw [put_defers];exact ey,by rw [r7];exact bI,μ,Z,by rw [mb];exact h2,?_⟩
   exact r9 iU (fun t=>(hr t).mono (fun _ h=>h) (fun _ _ h=>h) h3) trivial
  | @iJ T U E E' d b sz len blk x y news z dP hx hb oM hm hlen gz gE hT hU hz hE dX l6 hy alG gU dO =>
   obtain⟨v,w',bm,Z',r1,r2,r3,r4⟩:=aEA (P:=P) (ty:=ty) hc hr hx hb oM hm hlen gz gE hT hU hz hE dX l6 hy alG gU
   have fw:(execOp a.eval ⟨dst,.call ⟨.builtin .append,#[x,y],#[T,U]⟩,ty,pos,after,g⟩).run P w=.ok (.value v) w':=by
    simp only [execOp,resolve,Sem.run_bind,Sem.run_pure,Result.andThen_ok,invoke,builtin]
    simp only [ab7,nZ,yT,r1,Result.andThen_ok]
   unfold Oper.wp
   rw [fw,Oper.upon_value]
   refine hK _ _ ⟨by rw [put_defers];exact ey,by rw [r7];exact bI,bm,Z',by rw [mb];exact r2,?_⟩
   exact r9 iU r3 r4
  | @afl T U E E' d sz x y news z dP hx gz hT hU hz hE dX l6 hy hn alG gU dO =>
   obtain⟨v,w',bm,Z',r1,r2,r3,r4⟩:=aDe (P:=P) (ty:=ty) hc hr hx gz hT hU hz hE dX l6 hy hn alG gU
   have fw:(execOp a.eval ⟨dst,.call ⟨.builtin .append,#[x,y],#[T,U]⟩,ty,pos,after,g⟩).run P w=.ok (.value v) w':=by
    simp only [execOp,resolve,Sem.run_bind,Sem.run_pure,Result.andThen_ok,invoke,builtin]
    simp only [ab7,nZ,yT,r1,Result.andThen_ok]
   unfold Oper.wp
   rw [fw,Oper.upon_value]
   refine hK _ _ ⟨by rw [put_defers];exact ey,by rw [r7];exact bI,bm,Z',by rw [mb];exact r2,?_⟩
   exact r9 iU r3 r4
  | @clr T E x b sz off n blk z hx hb oM hm hl hT hz dX =>
   obtain⟨w',r1,r2,r3⟩:=aIj (P:=P) (ty:=ty) hc hr hx hb oM hm hl hT hz dX
   have fw:(execOp a.eval ⟨dst,.call ⟨.builtin .clear,#[x],#[T]⟩,ty,pos,after,g⟩).run P w=.ok (.value (.tuple #[])) w':=by
    simp only [execOp,resolve,Sem.run_bind,Sem.run_pure,Result.andThen_ok,invoke,builtin]
    simp only [ab7,nZ,yT,r1,Result.andThen_ok]
   unfold Oper.wp
   rw [fw,Oper.upon_value]
   refine hK _ _ ⟨by rw [put_defers];exact ey,by rw [r7];exact bI,μ,Z,by rw [mb];exact r2,?_⟩
   exact r9 iU (fun t=>(hr t).mono (fun _ h=>h) (fun _ _ h=>h) r3) trivial
  | @cpy T U E E' x y b sz off news blk ag hx hb oM hm hl hT hU hE hy =>
   obtain⟨v,w',r1,r2,r3⟩:=aFc (P:=P) (ty:=ty) hc hr hx hb oM hm hl hT hU hE hy
   have fw:(execOp a.eval ⟨dst,.call ⟨.builtin .copy,#[x,y],#[T,U]⟩,ty,pos,after,g⟩).run P w=.ok (.value v) w':=by
    simp only [execOp,resolve,Sem.run_bind,Sem.run_pure,Result.andThen_ok,invoke,builtin]
    simp only [ab7,nZ,yT,r1,Result.andThen_ok]
   unfold Oper.wp
   rw [fw,Oper.upon_value]
   refine hK _ _ ⟨by rw [put_defers];exact ey,by rw [r7];exact bI,μ,Z,by rw [mb];exact r2,?_⟩
   exact r9 iU (fun t=>(hr t).mono (fun _ h=>h) (fun _ _ h=>h) r3) trivial
  | @adm T U E E' x y b sz off n1 blk c off2 n2 ee news ag hx hb oM hm hl hT hU hE hy oa xr hn h0 oX rV =>
   obtain⟨v,w',r1,r2,r3⟩:=aKe (P:=P) (ty:=ty) hc hr hx hb oM hm hl hT hU hE hy oa xr hn h0 oX rV
   have fw:(execOp a.eval ⟨dst,.call ⟨.builtin .copy,#[x,y],#[T,U]⟩,ty,pos,after,g⟩).run P w=.ok (.value v) w':=by
    simp only [execOp,resolve,Sem.run_bind,Sem.run_pure,Result.andThen_ok,invoke,builtin]
    simp only [ab7,nZ,yT,r1,Result.andThen_ok]
   unfold Oper.wp
   rw [fw,Oper.upon_value]
   refine hK _ _ ⟨by rw [put_defers];exact ey,by rw [r7];exact bI,μ,Z,by rw [mb];exact r2,?_⟩
   exact r9 iU (fun t=>(hr t).mono (fun _ h=>h) (fun _ _ h=>h) r3) trivial
 | stM _ hg ho =>
  rw [acw hr hg]
  simp only [if_true]
  obtain⟨dst,op,ty,pos,after,g⟩:=o
  simp only at ho iU
  cases ho with
  | call hb hm hp ha hn hk qH kG =>
   refine aIK hc hr hb hm hp ha hn hk qH kG fun v w' Z' h1 h2 h3=>?_
   refine hK _ _ ⟨by rw [put_defers];exact ey,by rw [r7];exact bI,μ,Z',by rw [mb];exact h1,?_⟩
   exact r9 (L:=L.bO _ _) iU h2 h3
  | @agl T U E x y z k kl sz dP len cp n d b blk hT hU hz hE dX hb hx lX oM hlen hy gz hgr dO hm gU =>
   obtain⟨v,w',bm,Z',r1,r2,r3,r4⟩:=azR (P:=P) (ty:=ty) hc hr hT hU hz hE dX hb hx lX oM hlen hy gz hgr dO hm gU
   have fw:(execOp a.eval ⟨dst,.call ⟨.builtin .append,#[x,y],#[T,U]⟩,ty,pos,after,g⟩).run P w=.ok (.value v) w':=by
    simp only [execOp,resolve,Sem.run_bind,Sem.run_pure,Result.andThen_ok,invoke,builtin]
    simp only [ab7,nZ,yT,r1,Result.andThen_ok]
   unfold Oper.wp
   rw [fw,Oper.upon_value]
   refine hK _ _ ⟨by rw [put_defers];exact ey,by rw [r7];exact bI,bm,Z',by rw [mb];exact r2,?_⟩
   exact r9 (L:=L.bO _ _) iU r3 r4
  | @ovl f x y Tx Ty fn b c sz o1 n1 o2 n2 ag tS tR e hf ry hb hn he ht hE hx hy vK h1 h2 dO =>
   have fw:=aEi (P:=P) (Tx:=Tx) (Ty:=Ty) (dst:=dst) (ty:=ty) (pos:=pos) (af:=after) (g:=g) hc hr hf ry hb hn he ht hE hx hy vK h1 h2 dO
   unfold Oper.wp
   rw [fw,Oper.upon_value]
   refine hK _ _ ⟨by rw [put_defers];exact ey,by rw [r7];exact bI,μ,Z,by rw [mb];exact hc,?_⟩
   exact r9 iU hr ⟨by simp [LV.isAgg],fun _=>by simp [aB,Value.oneCell']⟩
  | @ajg T U E x y z k kl sz dP n d hT hU hz hE dX hb hx hy gz h0 dO hm gU =>
   obtain⟨v,w',bm,Z',r1,r2,r3,r4⟩:=aB3 (P:=P) (ty:=ty) hc hr hT hU hz hE dX hb hx hy gz h0 dO hm gU
   have fw:(execOp a.eval ⟨dst,.call ⟨.builtin .append,#[x,y],#[T,U]⟩,ty,pos,after,g⟩).run P w=.ok (.value v) w':=by
    simp only [execOp,resolve,Sem.run_bind,Sem.run_pure,Result.andThen_ok,invoke,builtin]
    simp only [ab7,nZ,yT,r1,Result.andThen_ok]
   unfold Oper.wp
   rw [fw,Oper.upon_value]
   refine hK _ _ ⟨by rw [put_defers];exact ey,by rw [r7];exact bI,bm,Z',by rw [mb];exact r2,?_⟩
   exact r9 (L:=L.bO _ _) iU r3 r4
theorem atv {Q:Exit->Act->World->Prop} {K:St->Prop}:∀ (l:List Oper) (L:St) (a:Act) (w:World),gi n W X Z0 L a w->opsL P dr ops l L K->(∀ o∈l,∀ t,o.dst=some t->t<n) ->
  (∀ L' a' w',K L'->gi n W X Z0 L' a' w'->Q .normal a' w')->wpList P ops Q l a w
 | [],L,a,w,hs,hk,_,hq=>hq L a w hk hs
 | o :: r,L,a,w,hs,⟨L',h1,h2⟩,hd,hq=>by
   have:=acU (Q:=Q) (K:=wpList P ops Q r) hs h1 (hd o aM) (fun a' w' mJ=>atv r L' a' w' mJ h2 (fun o' mw=>hd o' (by simp [mw])) hq)
   unfold wpList
   split
   ·rename_i h;rw [if_pos h] at this;exact .inl this
   ·rename_i h;rw [if_neg h] at this;exact this
end
def az (L L':St):Prop:=∀ n W X Z0 a w,gi n W X Z0 L a w->gi n W X Z0 L' a w
theorem az.refl (L:St):az L L:=fun _ _ _ _ _ _ h=>h
theorem az.trans {L L' L'':St} (h:az L L') (h':az L' L''):az L L'':=fun n W X Z0 a w k=>h' n W X Z0 a w (h n W X Z0 a w k)
theorem az.kill (L:St) (b:Nat) (h0:b≠0:=by decide):az L (L.kill b):=fun _ _ _ _ _ _ ⟨h1,h2,_,Z,hc,hr⟩=>⟨h1,h2,_,Z,hc.kill b h0,aeA b hr⟩
def jZ (o:Oper):List Nat:=o.after.toList.filterMap fun e=>if Region.binds .any e then some e.on else none
inductive nX (ops:Array Oper):Nat->Nat->Prop
 | one {j i o} (ho:ops[i]?=some o) (h:j∈jZ o):nX ops j i
 | step {j k i o} (h:nX ops j k) (ho:ops[i]?=some o) (hk:k∈jZ o):nX ops j i
def mask (acc:List Nat) (o:Oper):Nat:=(jZ o).foldl (fun s j=>s ||| (2 ^ j ||| acc.getD j 0)) 0
def bef:List Oper->List Nat->List Nat
 | [],acc=>acc
 | o :: r,acc=>bef r (acc++[mask acc o])
def xc:Op->Bool
 | .store ..=>true
 | .call ⟨.builtin .append,_,_⟩=>true
 | .call ⟨.builtin .clear,_,_⟩=>true
 | .call ⟨.builtin .copy,_,_⟩=>true
 | _=>false
def aaU (ops:Array Oper) (b:List Nat) (i j:Nat):Bool :=
 match (ops.getD j default).dst with
 | none=>true
 | some d=>(ops.getD i default).dst != some d &&
   (!((ops.getD i default).looksAt ops).contains d || (if j<i then(b.getD i 0).testBit j else(b.getD j 0).testBit i))
def atD (ops:Array Oper) (m j:Nat):Bool :=
 (ops.getD j default).guard.isNone && (match (ops.getD j default).op with | .move _=>true | .binOp ..=>(ops.getD m default).dst.isNone | .extract ..=>(ops.getD m default).dst.isNone | _=>false) &&
 (match (ops.getD j default).dst with | some d=>!((ops.getD m default).looksAt ops).contains d && (ops.getD m default).dst != some d | none=>true) &&
 (match (ops.getD m default).dst with | some d=>!((ops.getD j default).looksAt ops).contains d | none=>true)
def aw7 (o:Oper):Bool:=o.guard.isNone && (match o.op with | .store ..=>o.dst.isNone | .call ⟨.builtin .append,_,_⟩=>o.dst.isSome | _=>false)
def zn (ops:Array Oper) (m:Nat) (fr:List Nat):Bool :=
 decide (m<=ops.size) &&
 (c9 ops.size).all (fun i=>(jZ (ops.getD i default)).all (·<i) &&
  (if m<=i then(c9 i).all (fun j=>((bef ops.toList []).getD i 0).testBit j || (i==m && fr.contains j)) else !xc (ops.getD i default).op)) &&
 ((c9 m).all fun i=>(c9 m).all fun j=>i==j || aaU ops (bef ops.toList []) i j) &&
 (fr.isEmpty || (decide (m<ops.size) && aw7 (ops.getD m default) && fr.all fun j=>decide (j<m) && atD ops m j))
theorem arO (acc:List Nat) (t:Nat):∀ (l:List Nat) (s:Nat),(l.foldl (fun s j=>s ||| (2 ^ j ||| acc.getD j 0)) s).testBit t=true ->
  s.testBit t=true\/∃ j∈l,t=j\/(acc.getD j 0).testBit t=true
 | [],s,h=>.inl h
 | j :: l,s,h=>by
   rcases arO acc t l _ h with h | ⟨k,hk,h⟩
   ·rw [ayY,ayY,oN,oN] at h
    rcases h with h | h | h
    ·exact rB
    ·rw [Nat.testBit_two_pow] at h
     exact .inr ⟨j,by simp,.inl (by simpa using h.symm:j=t).symm⟩
    ·exact .inr ⟨j,by simp,.inr h⟩
   ·exact .inr ⟨k,by simp [hk],h⟩
theorem aej (ops:Array Oper):∀ (l:List Oper) (acc:List Nat),(∀ i,l[i]?=ops[acc.length+i]?)->(∀ i t,(acc.getD i 0).testBit t=true->nX ops t i) ->
  ∀ i t,((bef l acc).getD i 0).testBit t=true->nX ops t i
 | [],acc,_,h=>h
 | o :: r,acc,hl,h=>by
   refine aej ops r (acc++[mask acc o]) (fun i=>?_) (fun i t ht=>?_)
   ·have:=hl (i+1)
    simp only [ahO] at this
    rw [this];congr 1;simp;omega
   ·by_cases hi:i<acc.length
    ·rw [bp,aaM hi,<-bp] at ht
     exact h i t ht
    ·by_cases he:i=acc.length
     ·subst he
      have ho:ops[acc.length]?=some o:=by have:=hl 0;simpa using this.symm
      rw [bp,ae8 ae] at ht
      simp only [qn,rj,aag] at ht
      rcases arO acc t (jZ o) 0 ht with h0 | ⟨j,hj,rfl | h2⟩
      ·simp at h0
      ·exact .one ho hj
      ·exact .step (h j t h2) ho hj
     ·have:(acc++[mask acc o]).getD i 0=0:=by
       rw [bp,List.getElem?_eq_none bz];rfl
      rw [this] at ht;simp at ht
theorem qD {ops:Array Oper} {gY:Array Bool} (_hsz:gY.size=ops.size) {i:Nat}:i∈Region.ready .any ops gY ↔
  ∃ o,ops[i]?=some o/\gY.getD i true=false/\∀ j∈jZ o,gY.getD j false=true:=by
 unfold Region.ready
 simp only [List.mem_filter,qy,kI,xC]
 constructor
 ·rintro⟨h1,h2,h3⟩
  refine⟨ops[i],pE h1,h2,fun j hj=>?_⟩
  rw [pE h1] at h3
  simp only [qS,aag,ayc] at h3
  simp only [jZ,yL] at hj
  obtain⟨e,he,hj⟩:=hj
  have:=h3 e (by simpa using he)
  split at hj
  ·rename_i hb
   simp only [fB] at hj
   subst hj
   simpa [hb] using this
  ·cases hj
 ·rintro⟨o,h1,h2,h3⟩
  have hi:=(nA.1 h1).1
  refine⟨hi,h2,?_⟩
  rw [h1]
  simp only [qS,aag,ayc]
  intro e he
  cases hb:Region.binds .any e with
  | false=>simp
  | true =>
   have:=h3 e.on (by simp only [jZ,yL];exact⟨e,by simpa using he,by simp [hb]⟩)
   simpa using this
theorem akE {α:Type} (p q:α->Bool):∀ (l:List α),(∀ x∈l,p x=true->q x=true)->(∃ x∈l,q x=true/\p x=false)->l.countP p<l.countP q
 | [],_,⟨x,hx,_⟩=>by simp at hx
 | y :: l,h,⟨x,hx,h1,h2⟩=>by
   have hle:∀ (l:List α),(∀ x∈l,p x=true->q x=true)->l.countP p<=l.countP q:=fun l h=>List.countP_mono_left h
   simp only [List.countP_cons]
   rcases List.mem_cons.1 hx with rfl | hx
   ·have:=hle l (fun z hz=>h z (by simp [hz]))
    simp [h1,h2];omega
   ·have ih:=akE p q l (fun z hz=>h z (by simp [hz])) ⟨x,hx,h1,h2⟩
    have hy:=h y aM
    cases hp:p y with
    | false=>simp;split<;>omega
    | true=>simp [hy hp];omega
theorem aGQ {P:Program} {ops:Array Oper} {Q:Exit->Act->World->Prop} (Inv:Array Bool->Act->World->Prop)
  (vE:∀ i o,ops[i]?=some o->∀ j∈jZ o,j<i)
  (tB:∀ gY a w i o,gY.size=ops.size->Inv gY a w->ops[i]?=some o->gY.getD i true=false->(∀ j∈jZ o,gY.getD j false=true) ->
   if Region.wanted o (yielded ops a.tmps) then o.wp P a w (fun a' w'=>Inv (gY.setIfInBounds i true) a' w') Q else Inv (gY.setIfInBounds i true) (a.put o.dst undef) w)
  (ap8:∀ gY a w,gY.size=ops.size->Inv gY a w->(∀ i,i<ops.size->gY.getD i false=true)->Q .normal a w) :
  ∀ (fuel:Nat) (gY:Array Bool) (a:Act) (w:World),gY.size=ops.size->(c9 ops.size).countP (fun i=>!gY.getD i true)<=fuel->Inv gY a w->wpAny P .any ops Q fuel gY a w:=by
 have eO:∀ (gY:Array Bool),gY.size=ops.size->Region.ready .any ops gY=[]->∀ i,i<ops.size->gY.getD i false=true:=by
  intro gY bI hr i
  induction i using abZ with
  | _ i ih =>
   intro hi
   cases hl:gY.getD i false with
   | true=>rfl
   | false =>
    have h1:gY.getD i true=false:=by
     rw [dG,pE ae] at hl ⊢
     simpa using hl
    have:i∈Region.ready .any ops gY:=(qD bI).2 ⟨ops[i],pE hi,h1,fun j hj=>by
     have lP:=vE i _ (pE hi) j hj
     exact ih j lP ae⟩
    rw [hr] at this;cases this
 intro fuel
 induction fuel with
 | zero =>
  intro gY a w bI hc hI
  have hr:Region.ready .any ops gY=[]:=by
   apply List.eq_nil_iff_forall_not_mem.2
   intro i hi
   obtain⟨o,h1,h2,_⟩:=(qD bI).1 hi
   have ni:0<(c9 ops.size).countP (fun i=>!gY.getD i true) :=
    List.countP_pos_iff.2 ⟨i,by simpa using (nA.1 h1).1,by rw [h2];rfl⟩
   omega
  exact⟨hr,ap8 gY a w bI hI (eO gY bI hr)⟩
 | succ fuel ih =>
  intro gY a w bI hc hI
  refine⟨fun hr=>ap8 gY a w bI hI (eO gY bI hr),fun i hi=>?_⟩
  obtain⟨o,h1,h2,h3⟩:=(qD bI).1 hi
  have n5:=(nA.1 h1).1
  have hs:=tB gY a w i o bI hI h1 h2 h3
  have apJ:(c9 ops.size).countP (fun k=>!(gY.setIfInBounds i true).getD k true)<(c9 ops.size).countP (fun k=>!gY.getD k true):=by
   apply akE
   ·intro k _ hk
    by_cases e:i=k
    ·subst e
     rw [dG,oz ae] at hk
     simp at hk
    ·rw [dG,ka e] at hk
     rw [dG];exact hk
   ·refine⟨i,by simpa using n5,by rw [h2];rfl,?_⟩
    rw [dG,oz ae];rfl
  have asX:∀ a' w',Inv (gY.setIfInBounds i true) a' w'->wpAny P .any ops Q fuel (gY.setIfInBounds i true) a' w':=fun a' w' h =>
   ih _ a' w' (by simpa using bI) ae h
  unfold wpOp
  rw [h1]
  simp only
  split
  ·rename_i hw;rw [if_pos hw] at hs;exact .inl (Oper.wp_mono asX hs)
  ·rename_i hw;rw [if_neg hw] at hs;exact asX _ _ hs
end Go.Lg
namespace Go.Lg
theorem bW.le_refl (H:bW):H.le H:=fun _ blk h=>⟨blk.mt,h,fun h=>h,fun h1 h2=>by rw [h1] at h2;cases h2⟩
theorem bW.le_trans {H H' H'':bW} (h:H.le H') (h':H'.le H''):H.le H'':=fun b blk hb=>by
 obtain⟨m,g1,g2,g3⟩:=h b blk hb
 obtain⟨m',k1,k2,k3⟩:=h' b _ g1
 refine⟨m',k1,fun e=>k2 (g2 e),fun e1 e2=>?_⟩
 cases hm:m with
 | false=>exact g3 e1 hm
 | true=>exact k3 hm e2
section
variable {P:Program} {W w:World} {X:XS} {Z0 Z:Nat->Prop} {μ:Nat->Option Nat} {a:Act} {n:Nat} {ops:Array Oper}
theorem aa1 {K:St->Prop}:∀ (l:List Oper) (L:St),opsL P true ops l L K->∃ f:Nat->St,f 0=L/\(∀ i o,l[i]?=some o->Step P true ops o (f i) (f (i+1)))/\K (f l.length)
 | [],L,h=>⟨fun _=>L,rfl,fun i o h=>by simp at h,h⟩
 | o :: r,L,⟨L',h1,h2⟩=>by
   obtain⟨f,g1,g2,g3⟩:=aa1 r L' h2
   refine⟨fun i=>match i with | 0=>L | i+1=>f i,rfl,fun i o' h=>?_,g3⟩
   cases i with
   | zero=>simp only [rj,fB] at h;subst h;rw [<-g1] at h1;exact h1
   | succ i=>exact g2 i o' nH
theorem g7.tail {L L':St} {dst:Option Tmp} {op:Op} (h:g7 P L dst op L'):xc op=true:=by cases h<;>rfl
theorem aog {o:Oper} {L L':St} (ht:xc o.op=false) (h:Step P true ops o L L'):L.heap.le L'.heap/\∀ t,o.dst≠some t->L'.slot t=L.slot t:=by
 have nF:∀ (r:LV) t,o.dst≠some t->(L.put o.dst r).slot t=L.slot t:=fun r t aX=>by
  unfold St.put
  cases hd:o.dst with
  | none=>rfl
  | some d=>exact(iz L d r t).trans (if_neg (fun e=>aX (by rw [hd,e])))
 cases h with
 | skip hg h=>subst h;exact⟨by rw [mb];exact bW.le_refl _,nF _⟩
 | val hg hle dQ ho h=>subst h;exact⟨hle,nF _⟩
 | st hg ho =>
  obtain⟨dst,op,ty,pos,after,g⟩:=o
  cases ho<;>simp [xc] at ht
 | stM im _ _=>cases im
open Classical in
noncomputable def fO (ops:Array Oper) (f:Nat->St) (m:Nat) (D:Array Bool) (t:Nat):LV :=
 if ∃ i o,i<m/\D.getD i false=true/\ops[i]?=some o/\o.dst=some t then(f m).slot t else(f 0).slot t
def aau:Option Nat->LV->LV
 | none,x=>x
 | some b,x=>x.kill b
noncomputable def jU (ops:Array Oper) (f:Nat->St) (m:Nat) (dm:Option Tmp) (kb:Option Nat) (D:Array Bool) (t:Nat):LV :=
 if dm=some t then(f (m+1)).slot t else aau kb (fO ops f m D t)
def newAt (f:Nat->St) (i b:Nat):Prop:=(f i).heap b=none/\(f (i+1)).heap b≠none
theorem ams {m id:Nat} {fr:List Nat} {K:St->Prop} {Q:Exit->Act->World->Prop} {L:St} {f:Nat->St} (iY:P.follows .mixedOrders=true) (hs:gi n W X Z0 L a w)
  (f0:f 0=L) (vP:∀ i o,ops[i]?=some o->i<m\/fr≠[]->Step P true ops o (f i) (f (i+1)))
  (fsB:∀ i o,ops[i]?=some o->m<=i->∀ (a:Act) (w:World) (K:Act->World->Prop) (Q:Exit->Act->World->Prop),gi n W X Z0 (f i) a w->(∀ t,o.dst=some t->t<n)->(∀ a' w',gi n W X Z0 (f (i+1)) a' w'->K a' w')->if Region.wanted o (yielded ops a.tmps) then o.wp P a w K Q else K (a.put o.dst undef) w) (fK:K (f ops.size)) (w7:m<=ops.size) (vE:∀ i o,ops[i]?=some o->∀ j∈jZ o,j<i)
  (wa:∀ i o,ops[i]?=some o->m<=i->∀ j,j<i->nX ops j i\/(i=m/\j∈fr)) (tx:∀ i o,ops[i]?=some o->i<m->xc o.op=false)
  (vg:∀ i j oi oj d,ops[i]?=some oi->ops[j]?=some oj->i<m->j<m->i≠j->oj.dst=some d->oi.dst≠some d/\(d∈oi.looksAt ops->if j<i then nX ops j i else nX ops i j))
  (acR:∀ j o,ops[j]?=some o->j∈fr->j<m/\m<ops.size/\(∀ om,ops[m]?=some om->om.guard=none/\((om.dst=none/\∃ T p x,om.op=.store T p x)\/∃ d xs ts,om.dst=some d/\om.op=.call ⟨.builtin .append,xs,ts⟩) /\
    (∀ d,o.dst=some d->d∉om.looksAt ops/\om.dst≠some d)/\∀ d,om.dst=some d->d∉o.looksAt ops) /\
   o.guard=none/\((∃ x,o.op=.move x)\/(∃ q T x y U,o.op=.binOp q T x y U/\∀ om,ops[m]?=some om->om.dst=none)\/(∃ x i,o.op=.extract x i/\∀ om,ops[m]?=some om->om.dst=none) \/
    ((∀ om,ops[m]?=some om->om.dst=none)/\∃ r,nC P (f (m+1)).heap (f j).ev (o.dst.getD 0) o.op r []/\∀ t,o.dst=some t->(f (j+1)).slot t=r)))
  (hd:∀ o∈ops.toList,∀ t,o.dst=some t->t<n) (hq:∀ L' a' w',K L'->gi n W X Z0 L' a' w'->Q .normal a' w') :
  (Code.region id ops true).wp P Q a w:=by
 have ir:∀ i o,ops[i]?=some o->ops.getD i default=o:=fun i o h=>by rw [dG,h];rfl
 have ov:∀ i o,ops[i]?=some o->i<ops.size:=fun i o h=>(nA.1 h).1
 have xX:∀ i,i<ops.size->∃ o,ops[i]?=some o:=fun i h=>⟨_,pE h⟩
 have tB:∀ i o,ops[i]?=some o->i<m->(f i).heap.le (f (i+1)).heap/\∀ t,o.dst≠some t->(f (i+1)).slot t=(f i).slot t:=fun i o h jd=>aog (tx i o h jd) (vP i o h (.inl jd))
 have hle:∀ i j,i<=j->j<=m->(f i).heap.le (f j).heap:=by
  intro i j rF
  induction j with
  | zero =>
   intro _
   have:i=0:=by omega
   subst this;exact bW.le_refl _
  | succ j ih =>
   intro mE
   by_cases e:i=j+1
   ·subst e;exact bW.le_refl _
   ·obtain⟨o,ho⟩:=xX j ae
    exact bW.le_trans (ih ae ae) (tB j o ho ae).1
 have hconst:∀ i j t,i<=j->j<=m->(∀ k o,i<=k->k<j->ops[k]?=some o->o.dst≠some t)->(f j).slot t=(f i).slot t:=by
  intro i j t rF
  induction j with
  | zero =>
   intro _ _
   have:i=0:=by omega
   subst this;rfl
  | succ j ih =>
   intro mE hk
   by_cases e:i=j+1
   ·subst e;rfl
   ·obtain⟨o,ho⟩:=xX j ae
    rw [(tB j o ho ae).2 t (hk j o ae ae ho)]
    exact ih ae ae (fun k o h1 h2=>hk k o h1 ae)
 have aku:∀ i j b,i<=j->j<=m->(f i).heap b≠none->(f j).heap b≠none:=fun i j b rF mE hb=>by
  obtain⟨blk,aHf⟩:=ak9.1 hb
  obtain⟨mm,g,_⟩:=hle i j rF mE b blk aHf
  rw [g];simp
 have aeq:∀ i o t,ops[i]?=some o->i<m->o.dst=some t->(f m).slot t=(f (i+1)).slot t:=fun i o t ho jd lF =>
  hconst (i+1) m t ae (bq _) (fun k ok h1 h2 hk e=>(vg i k o ok t ho hk jd h2 ae e).1 lF)
 let closed:Array Bool->Prop:=fun D=>∀ i o,ops[i]?=some o->D.getD i false=true->∀ j∈jZ o,D.getD j false=true
 have yW:∀ D,closed D->∀ j i,nX ops j i->(∀ o,ops[i]?=some o->∀ k∈jZ o,D.getD k false=true)->D.getD j false=true:=by
  intro D hD j i hA
  induction hA with
  | @one i o ho h=>intro hr;exact hr o ho _ h
  | @step k i o hA ho hk ih=>intro hr;exact ih (fun o' mw k' nu=>hD k o' mw (hr o ho k hk) k' nu)
 let PhA:Array Bool->Act->World->Prop:=fun D a w=>(∀ i,D.getD i false=true->i<m)/\a.defers=[]/\a.tmps.size=n/\∃ μ Z,Core W X Z0 μ Z (f m).heap w /\
  (∀ b,μ b≠none->(f 0).heap b≠none\/∃ i,i<m/\D.getD i false=true/\newAt f i b)/\∀ t,bh Z μ w (fO ops f m D t) (a.tmps.getD t undef)
 let PhB:Array Bool->Act->World->Prop:=fun D a w=>∃ k,m<=k/\(∀ i,i<ops.size->(D.getD i false=true↔i<k))/\k<=ops.size/\gi n W X Z0 (f k) a w
 let PhC:Array Bool->Act->World->Prop:=fun D a w=>m<ops.size/\(∃ om kb,ops[m]?=some om/\(om.dst=none->kb=none)/\(∀ t,om.dst≠some t->(f (m+1)).slot t=aau kb ((f m).slot t)) /\
  gi n W X Z0 ⟨jU ops f m om.dst kb D,(f (m+1)).heap⟩ a w)/\(∀ i,D.getD i false=true->i<=m)/\D.getD m false=true/\(∀ i,i<m->i∉fr->D.getD i false=true)
 have hAB:∀ D a w,PhA D a w->(∀ i,i<m->D.getD i false=true)->gi n W X Z0 (f m) a w:=by
  rintro D a w ⟨_,ey,bI,μ,Z,hc,_,hr⟩ eO
  refine⟨ey,bI,μ,Z,hc,fun t=>?_⟩
  have:=hr t
  unfold fO at this
  split at this
  ·exact this
  ·rename_i nI
   rw [hconst 0 m t (b8 _) (bq _) (fun k o _ lU hk e=>nI ⟨k,o,lU,eO k lU,hk,e⟩)]
   exact this
 refine wp_region_any iY (aGQ (fun D a w=>closed D/\(PhA D a w\/PhB D a w\/PhC D a w)) vE ?_ ?_ ops.size _ _ _ aM ?_ ?_)
 ·
  intro D a w i o hDs ⟨jH,hI⟩ ho tq xq
  have s8:=ov i o ho
  have abl:D.getD i false=false:=by
   rw [dG,pE ae] at tq ⊢
   simpa using tq
  have jl:∀ k,(D.setIfInBounds i true).getD k false=true↔k=i\/D.getD k false=true:=fun k=>by
   by_cases e:i=k
   ·subst e
    rw [dG,oz ae];simp
   ·rw [dG,ka e,<-dG]
    constructor
    ·exact fun h=>.inr h
    ·rintro(h | h)
     ·exact absurd h.symm e
     ·exact h
  have acz:closed (D.setIfInBounds i true):=fun k ok hk fo j hj=>by
   rcases(jl k).1 fo with rfl | h
   ·rw [ho] at hk;cases hk
    exact(jl j).2 (.inr (xq j hj))
   ·exact(jl j).2 (.inr (jH k ok hk h j hj))
  have ab4:∀ o',ops[i]?=some o'->∀ k∈jZ o',D.getD k false=true:=fun o' mw k hk=>(by rw [ho] at mw;cases mw;exact xq k hk)
  have yH:∀ t,o.dst=some t->t<n:=hd o (by rw [af0];exact axV ho)
  have tail:∀ k,m<=k->(∀ j,j<ops.size->(D.getD j false=true↔j<k))->k=i->gi n W X Z0 (f k) a w ->
    if Region.wanted o (yielded ops a.tmps) then o.wp P a w (fun a' w'=>closed (D.setIfInBounds i true)/\(PhA (D.setIfInBounds i true) a' w'\/PhB (D.setIfInBounds i true) a' w'\/PhC (D.setIfInBounds i true) a' w')) Q
    else closed (D.setIfInBounds i true)/\(PhA (D.setIfInBounds i true) (a.put o.dst undef) w\/PhB (D.setIfInBounds i true) (a.put o.dst undef) w\/PhC (D.setIfInBounds i true) (a.put o.dst undef) w):=by
   intro k hmk fo e pV
   subst e
   refine fsB k o ho hmk a w (fun a' w'=>closed (D.setIfInBounds k true)/\(PhA (D.setIfInBounds k true) a' w'\/PhB (D.setIfInBounds k true) a' w'\/PhC (D.setIfInBounds k true) a' w')) _ pV yH (fun a' w' mJ=>⟨acz,.inr (.inl ⟨k+1,ae,fun j hj=>?_,ae,mJ⟩)⟩)
   rw [jl j,fo j hj];omega
  have adK:i<m->∀ t,t∈o.looksAt ops->(f i).slot t=fO ops f m D t:=by
   intro jd t ht
   by_cases hex:∃ j oj,j<m/\ops[j]?=some oj/\oj.dst=some t
   ·obtain⟨j,oj,mE,hj,py⟩:=hex
    have za:∀ k ok,k<m->ops[k]?=some ok->ok.dst=some t->k=j:=fun k ok lU hk lW =>
     pY fun aX=>(vg k j ok oj t hk hj lU mE aX py).1 lW
    by_cases lP:j=i
    ·subst lP
     have e1:(f j).slot t=(f 0).slot t:=hconst 0 j t (b8 _) ae (fun k ok _ hkj hk e=>by have:=za k ok ae hk e;omega)
     have e2:fO ops f m D t=(f 0).slot t:=by
      unfold fO
      rw [if_neg]
      rintro⟨k,ok,lU,fo,hk,lW⟩
      have:=za k ok lU hk lW
      subst this
      rw [abl] at fo;cases fo
     rw [e1,e2]
    ·have hp:=(vg i j o oj t ho hj jd mE (Ne.symm lP) py).2 ht
     by_cases bH:j<i
     ·rw [if_pos bH] at hp
      have xH:=yW D jH j i hp ab4
      have e2:fO ops f m D t=(f m).slot t:=by
       unfold fO
       rw [if_pos ⟨j,oj,mE,xH,hj,py⟩]
      rw [e2,aeq j oj t hj mE py]
      exact hconst (j+1) i t ae ae (fun k ok vJ qG hk e=>by have:=za k ok ae hk e;omega)
     ·rw [if_neg bH] at hp
      have e1:(f i).slot t=(f 0).slot t:=hconst 0 i t (b8 _) ae (fun k ok _ qG hk e=>by have:=za k ok ae hk e;omega)
      have e2:fO ops f m D t=(f 0).slot t:=by
       unfold fO
       rw [if_neg]
       rintro⟨k,ok,lU,fo,hk,lW⟩
       have:=za k ok lU hk lW
       subst this
       have:=yW D jH i k hp (fun o' mw k' nu=>jH k o' mw fo k' nu)
       rw [abl] at this;cases this
      rw [e1,e2]
   ·have e1:(f i).slot t=(f 0).slot t:=hconst 0 i t (b8 _) ae (fun k ok _ qG hk e=>hex ⟨k,ok,ae,hk,e⟩)
    have e2:fO ops f m D t=(f 0).slot t:=by
     unfold fO
     rw [if_neg]
     rintro⟨k,ok,lU,fo,hk,lW⟩
     exact hex ⟨k,ok,lU,hk,lW⟩
    rw [e1,e2]
  have af4:i<m->∀ t,fO ops f m (D.setIfInBounds i true) t=if o.dst=some t then(f (i+1)).slot t else fO ops f m D t:=by
   intro jd t
   by_cases lF:o.dst=some t
   ·rw [if_pos lF]
    unfold fO
    rw [if_pos ⟨i,o,jd,(jl i).2 (.inl rfl),ho,lF⟩]
    exact aeq i o t ho jd lF
   ·rw [if_neg lF]
    unfold fO
    congr 1
    apply propext
    constructor
    ·rintro⟨k,ok,lU,fo,hk,lW⟩
     rcases(jl k).1 fo with rfl | h
     ·rw [ho] at hk;cases hk;exact absurd lW lF
     ·exact⟨k,ok,lU,h,hk,lW⟩
    ·rintro⟨k,ok,lU,fo,hk,lW⟩
     exact⟨k,ok,lU,(jl k).2 (.inr fo),hk,lW⟩
  have aD4:(∀ j,j<m->D.getD j false=true)->∀ t,fO ops f m D t=(f m).slot t:=by
   intro eO t
   unfold fO
   split
   ·rfl
   ·rename_i nI
    rw [hconst 0 m t (b8 _) (bq _) (fun k o _ lU hk e=>nI ⟨k,o,lU,eO k lU,hk,e⟩)]
  rcases hI with hA | ⟨k,hmk,fo,hkn,pV⟩ | ⟨hms,⟨om,kb,lH,uH,aeE,pV⟩,hDm,agz,hDf⟩
  ·by_cases jd:i<m
   ·obtain⟨hDm,ey,bI,μ,Z,hc,mP,hr⟩:=hA
    have aAs:∀ k,(D.setIfInBounds i true).getD k false=true->k<m:=fun k hk=>by
     rcases(jl k).1 hk with rfl | h
     ·exact jd
     ·exact hDm k h
    have iU:∀ t,o.dst=some t->t<a.tmps.size:=fun t h=>by rw [bI];exact yH t h
    have agL:∀ res,ef ops (f i) o res->Region.wanted o (yielded ops a.tmps)=res:=by
     intro res hg
     refine acw (L:=⟨fO ops f m D,(f m).heap⟩) hr ?_
     unfold ef at hg ⊢
     cases h:o.guard with
     | none=>rw [h] at hg;exact hg
     | some p =>
      obtain⟨j,want⟩:=p
      rw [h] at hg
      obtain⟨d,q1,q⟩:=hg
      have e:(f i).slot d=fO ops f m D d:=adK jd d (by unfold Oper.looksAt;rw [h];simp [q1])
      refine⟨d,q1,?_⟩
      show (∃ b,fO ops f m D d=_/\_)\/(fO ops f m D d=_/\_)
      rw [<-e]
      exact q
    have aci:∀ (r:LV) (v:Value) (w':World) (bm:Nat->Option Nat) (Z':Nat->Prop),(∀ t,o.dst=some t->(f (i+1)).slot t=r)->Core W X Z0 bm Z' (f m).heap w' ->
      (∀ b,bm b≠none->μ b≠none\/newAt f i b)->(∀ t,bh Z' bm w' (fO ops f m D t) (a.tmps.getD t undef))->bh Z' bm w' r v ->
      closed (D.setIfInBounds i true)/\(PhA (D.setIfInBounds i true) (a.put o.dst v) w'\/PhB (D.setIfInBounds i true) (a.put o.dst v) w'\/PhC (D.setIfInBounds i true) (a.put o.dst v) w'):=by
     intro r v w' bm Z' qT hc' hnw tk hv
     refine⟨acz,.inl ⟨aAs,by rw [put_defers];exact ey,by rw [r7];exact bI,bm,Z',hc',fun b hb=>?_,fun t=>?_⟩⟩
     ·rcases hnw b hb with h | h
      ·rcases mP b h with h | ⟨k,lU,fo,hk⟩
       ·exact rB
       ·exact .inr ⟨k,lU,(jl k).2 (.inr fo),hk⟩
      ·exact .inr ⟨i,jd,(jl i).2 (.inl rfl),h⟩
     ·rw [af4 jd t]
      have:=r9 (L:=⟨fO ops f m D,(f m).heap⟩) (d:=o.dst) iU tk hv t
      split
      ·rename_i lF
       rw [qT t lF]
       rw [lF,iz,if_pos rfl] at this
       rw [lF];exact this
      ·rename_i lF
       cases rp:o.dst with
       | none=>rw [rp] at this;exact this
       | some d =>
        rw [rp] at this lF
        rwa [iz,if_neg (fun e=>lF (by rw [e]))] at this
    have aH3:=vP i o ho (by first | exact .inl ae | (refine .inr ?_;rintro rfl;simp_all))
    cases aKB:aH3 with
    | skip hg h =>
     rw [agL false hg]
     simp only [adL,if_false]
     exact aci (.bf []) undef w μ Z (fun t ht=>by rw [h,ht,iz,if_pos rfl]) hc (fun b hb=>.inl hb) hr ⟨#[],rfl,rfl⟩
    | @val r fr H1 hg hH dQ nD h =>
     rw [agL true hg]
     simp only [if_true]
     have vj:H1=(f (i+1)).heap:=by rw [h]
     have adF:H1.le (f m).heap:=by rw [vj];exact hle (i+1) m ae (bq _)
     have aHD:=nD.le adF
     obtain⟨dst,op,ty,pos,after,g⟩:=o
     have an8:∀ x∈op.operands,bh Z μ w ((f i).ev x) (a.eval x):=by
      intro x hx
      cases x with
      | tmp t =>
       have ht:t∈Oper.looksAt ops ⟨dst,op,ty,pos,after,g⟩:=by
        unfold Oper.looksAt
        simp only [o8,yL]
        exact .inl ⟨.tmp t,by simpa using hx,rfl⟩
       show bh Z μ w ((f i).slot t) (a.tmps.getD t undef)
       rw [adK jd t ht];exact hr t
      | const v=>exact l9 (L:=⟨fO ops f m D,(f m).heap⟩) hr (.const v)
      | func g=>exact l9 (L:=⟨fO ops f m D,(f m).heap⟩) hr (.func g)
      | global g=>exact l9 (L:=⟨fO ops f m D,(f m).heap⟩) hr (.global g)
     refine nC.sound hc aHD an8 (fun b blk hb=>?_) dst ty pos after g (fun v w' bm Z' qW=>?_)
     ·obtain⟨q1,mm,q2,q3⟩:=dQ b blk hb
      obtain⟨m2,q4,q5,_⟩:=adF b _ q2
      refine⟨m2,q4,fun e=>q5 (q3 e),?_⟩
      cases uh:μ b with
      | none=>rfl
      | some id =>
       rcases mP b (by rw [uh];simp) with h0 | ⟨k,lU,fo,vn,nv⟩
       ·exact absurd q1 (aku 0 i b (b8 _) ae h0)
       ·have qG:k≠i:=by rintro rfl;rw [abl] at fo;cases fo
        by_cases bH:k<i
        ·exact absurd q1 (aku (k+1) i b ae ae nv)
        ·have:(f (i+1)).heap b≠none:=by rw [<-vj,q2];simp
         exact absurd vn (aku (i+1) k b ae ae this)
     ·refine aci r v w' bm Z' (fun t ht=>by rw [h];simp only at ht;subst ht;exact(iz _ _ _ _).trans (if_pos rfl)) qW.core (fun b hb=>?_) (fun t=>(hr t).mono qW.hz qW.hm qW.hf) qW.rep
      rcases qW.new b hb with h' | h'
      ·exact .inl h'
      ·simp only [cQ] at h'
       obtain⟨⟨b',blk⟩,qm,rfl⟩:=h'
       obtain⟨q1,mm,q2,_⟩:=dQ b' blk qm
       exact .inr ⟨q1,by rw [<-vj,q2];simp⟩
    | st hg mw =>
     have:=tx i o ho jd
     rw [mw.tail] at this;cases this
    | stM im _ _=>cases im
   ·have ajF:i=m:=by
     by_cases e:i=m
     ·exact e
     ·rcases wa i o ho ae (i-1) ae with h | ⟨h,_⟩
      ·have:=hA.1 (i-1) (yW D jH _ i h ab4);omega
      ·exact absurd h e
    by_cases eO:∀ j,j<i->D.getD j false=true
    ·subst ajF
     exact tail i (bq _) (fun j hj=>⟨fun h=>hA.1 j h,fun h=>eO j h⟩) rfl (hAB D a w hA eO)
    ·
     obtain⟨j0,hj0,aFe⟩:∃ j,j<i/\D.getD j false=false:=by
      obtain⟨j,h⟩:=aDK.1 eO
      obtain⟨h,h'⟩:=aEm.1 h
      exact⟨j,h,by simpa using h'⟩
     have hnf:∀ j,j<m->j∉fr->D.getD j false=true:=fun j hj hjf=>by
      rcases wa i o ho ae j ae with h | ⟨_,h⟩
      ·exact yW D jH j i h ab4
      ·exact absurd h hjf
     have aCn:j0∈fr:=pY fun h=>by have:=hnf j0 ae h;rw [aFe] at this;cases this
     obtain⟨oj0,aIC⟩:=xX j0 ae
     subst ajF
     obtain⟨_,hms,dj,_⟩:=acR j0 oj0 aIC aCn
     obtain⟨sL,wu,_⟩:=dj o ho
     have k6:∀ t,t∈o.looksAt ops->fO ops f i D t=(f i).slot t:=by
      intro t ht
      unfold fO
      split
      ·rfl
      ·rename_i nI
       refine(hconst 0 i t (b8 _) (bq _) (fun k ok _ qG hk e=>nI ⟨k,ok,qG,?_,hk,e⟩)).symm
       by_cases hkf:k∈fr
       ·exact absurd ht (((acR k ok hk hkf).2.2.1 o ho).2.2.1 t e).1
       ·exact hnf k qG hkf
     have gW:∀ y,y∈o.op.operands->St.ev ⟨fO ops f i D,(f i).heap⟩ y=(f i).ev y:=by
      intro y hy
      cases y with
      | tmp t =>
       show fO ops f i D t=(f i).slot t
       refine k6 t ?_
       unfold Oper.looksAt
       simp only [o8,yL]
       exact .inl ⟨.tmp t,by simpa using hy,rfl⟩
      | const v=>rfl
      | func g=>rfl
      | global g=>rfl
     have hA2:gi n W X Z0 ⟨fO ops f i D,(f i).heap⟩ a w:=by
      obtain⟨_,ey,bI,μ,Z,hc,_,hr⟩:=hA
      exact⟨ey,bI,μ,Z,hc,hr⟩
     have aew:∃ kb,(o.dst=none->kb=none)/\(∀ t,o.dst≠some t->(f (i+1)).slot t=aau kb ((f i).slot t)) /\
       Step P true ops o ⟨fO ops f i D,(f i).heap⟩ ⟨jU ops f i o.dst kb D,(f (i+1)).heap⟩:=by
      have kT:=vP i o ho (by first | exact .inl ae | (refine .inr ?_;rintro rfl;simp_all))
      obtain⟨dst,op,ty,pos,after,g⟩:=o
      simp only at sL wu
      rcases wu with⟨jM,T,p,x,wu⟩ | ⟨d,xs,ts,jM,wu⟩
      ·subst sL jM wu
       have e1:=gW p bU
       have e2:=gW x bU
       cases kT with
       | skip hg h=>cases hg
       | val hg hle dQ nD h =>
        cases nD with
        | pure h=>cases h
        | alloc h=>cases h
        | call h=>cases h
       | st hg r8 =>
        generalize hfe:f (i+1)=F at r8
        cases r8 with
        | store hp hb hs hm hi hy nF hT aX =>
         refine⟨none,fun _=>rfl,fun t _=>rfl,.st rfl ?_⟩
         have:=g7.store (P:=P) (L:=⟨fO ops f i D,(f i).heap⟩) (dst:=none) (x:=x) (e1.trans hp) hb hs hm hi hy (by rw [e2];exact nF) (by rw [e2];exact hT) (by rw [e2];exact aX)
         exact this
       | stM im _ _=>cases im
      ·subst sL jM wu
       cases kT with
       | skip hg h=>cases hg
       | val hg hle dQ nD h =>
        cases nD with
        | pure h=>cases h
        | alloc h=>cases h
        | call h=>cases h
       | st hg r8 =>
        generalize hfe:f (i+1)=F at r8
        cases r8 with
        | @iJ T U E E' d1 b sz len blk x y news z dP hx hb hs hm hlen gz gE hT hU hz hE dX l6 hy bI gU dO =>
         have e1:=gW x lZ
         have e2:=gW y lZ
         refine⟨some b,(fun h=>by cases h),fun t ht=>?_,.st rfl ?_⟩
         ·exact(iz _ _ _ _).trans (if_neg (fun e=>ht (by rw [e])))
         ·have:=g7.iJ (P:=P) (L:=⟨fO ops f i D,(f i).heap⟩) (dst:=some d) (x:=x) (y:=y) (e1.trans hx) hb hs hm hlen gz gE hT hU hz hE dX l6 (by rw [e2];exact hy) bI gU dO
          have hq:(⟨jU ops f i (some d) (some b) D,((((f i).kill b).bO d1 (some ⟨sz,bX b (blk.vals.take len++news),true⟩)).put (some d) (.ref d1 sz 0 (len+news.length))).heap⟩:St) =
            (((St.kill ⟨fO ops f i D,(f i).heap⟩ b).bO d1 (some ⟨sz,bX b (blk.vals.take len++news),true⟩)).put (some d) (.ref d1 sz 0 (len+news.length))):=by
           show (⟨_,_⟩:St)=⟨_,_⟩
           congr 1
           funext t
           unfold jU
           rw [hfe,iz]
           refine Eq.trans ?_ (iz _ _ _ _).symm
           by_cases e:t=d
           ·subst e;rw [if_pos rfl,if_pos rfl,if_pos rfl]
           ·rw [if_neg (by simpa using fun h=>e h.symm),if_neg e];rfl
          rw [hq]
          exact this
        | @afl T U E E' d1 sz x y news z dP hx gz hT hU hz hE dX l6 hy hn bI gU dO =>
         have e1:=gW x lZ
         have e2:=gW y lZ
         refine⟨none,(fun h=>by cases h),fun t ht=>?_,.st rfl ?_⟩
         ·exact(iz _ _ _ _).trans (if_neg (fun e=>ht (by rw [e])))
         ·have:=g7.afl (P:=P) (L:=⟨fO ops f i D,(f i).heap⟩) (dst:=some d) (x:=x) (y:=y) (e1.trans hx) gz hT hU hz hE dX l6 (by rw [e2];exact hy) hn bI gU dO
          have hq:(⟨jU ops f i (some d) none D,((((f i).bO d1 (some ⟨sz,news,true⟩)).put (some d) (.ref d1 sz 0 news.length))).heap⟩:St) =
            (((St.bO ⟨fO ops f i D,(f i).heap⟩ d1 (some ⟨sz,news,true⟩)).put (some d) (.ref d1 sz 0 news.length))):=by
           show (⟨_,_⟩:St)=⟨_,_⟩
           congr 1
           funext t
           unfold jU
           rw [hfe,iz]
           refine Eq.trans ?_ (iz _ _ _ _).symm
           by_cases e:t=d
           ·subst e;rw [if_pos rfl,if_pos rfl,if_pos rfl]
           ·rw [if_neg (by simpa using fun h=>e h.symm),if_neg e];rfl
          rw [hq]
          exact this
       | stM im _ _=>cases im
     obtain⟨kb,uH,aIr,aew⟩:=aew
     refine acU hA2 aew yH (K:=fun a' w'=>closed (D.setIfInBounds i true)/\(PhA (D.setIfInBounds i true) a' w'\/PhB (D.setIfInBounds i true) a' w'\/PhC (D.setIfInBounds i true) a' w')) (fun a' w' mJ=>⟨acz,.inr (.inr ⟨hms,⟨o,kb,ho,uH,aIr,?_⟩,fun k hk=>?_,(jl i).2 (.inl rfl),fun k hk hkf=>(jl k).2 (.inr (hnf k hk hkf))⟩)⟩)
     ·have:fO ops f i (D.setIfInBounds i true)=fO ops f i D:=by
       funext t
       unfold fO
       congr 1
       apply propext
       constructor
       ·rintro⟨k,ok,lU,fo,hk,lW⟩
        rcases(jl k).1 fo with rfl | h
        ·omega
        ·exact⟨k,ok,lU,h,hk,lW⟩
       ·rintro⟨k,ok,lU,fo,hk,lW⟩
        exact⟨k,ok,lU,(jl k).2 (.inr fo),hk,lW⟩
      have e:jU ops f i o.dst kb (D.setIfInBounds i true)=jU ops f i o.dst kb D:=by
       funext t;unfold jU;rw [this]
      rw [e];exact mJ
     ·rcases(jl k).1 hk with rfl | h
      ·exact bq _
      ·have:=hA.1 k h;omega
  ·have hik:k<=i:=by
    by_cases e:i<k
    ·have:=(fo i s8).2 e;rw [abl] at this;cases this
    ·omega
   have:k=i:=by
    by_cases e:k=i
    ·exact e
    ·rcases wa i o ho ae k ae with h | ⟨h,_⟩
     ·have:=yW D jH k i h ab4
      have:=(fo k ae).1 this;omega
     ·omega
   exact tail k hmk fo this pV
  ·
   have aAx:i≠m:=by rintro rfl;rw [abl] at agz;cases agz
   by_cases jd:i<m
   ·have hif:i∈fr:=pY fun h=>by have:=hDf i jd h;rw [abl] at this;cases this
    obtain⟨_,_,dj,sL,wu⟩:=acR i o ho hif
    obtain⟨_,_,ki,xZ⟩:=dj om lH
    have ar6:∀ t,t∈o.looksAt ops->jU ops f m om.dst kb D t=aau kb ((f i).slot t):=fun t ht=>by
     unfold jU
     rw [if_neg (fun e=>xZ t e ht),<-adK jd t ht]
    have asm:∀ t,Operand.tmp t∈o.op.operands->t∈o.looksAt ops:=fun t hy=>by
     unfold Oper.looksAt
     simp only [o8,yL]
     exact .inl ⟨.tmp t,by simpa using hy,rfl⟩
    have gW:kb=none->∀ y,y∈o.op.operands->(f i).ev y=St.ev ⟨jU ops f m om.dst kb D,(f (m+1)).heap⟩ y:=by
     intro hk y hy
     cases y with
     | tmp t =>
      show (f i).slot t=jU ops f m om.dst kb D t
      rw [ar6 t (asm t hy),hk];rfl
     | const v=>rfl
     | func g=>rfl
     | global g=>rfl
    have az9:∀ y,y∈o.op.operands->St.ev ⟨jU ops f m om.dst kb D,(f (m+1)).heap⟩ y=aau kb ((f i).ev y):=by
     intro y hy
     cases y with
     | tmp t=>exact ar6 t (asm t hy)
     | const v =>
      show (if _ then _ else _:LV)=aau kb (if _ then _ else _)
      cases kb<;>split<;>rfl
     | func g=>cases kb<;>rfl
     | global g=>cases kb<;>rfl
    by_cases aq5:∃ r,nC P (f (m+1)).heap (f i).ev (o.dst.getD 0) o.op r []/\(∀ t,o.dst=some t->(f (i+1)).slot t=r)/\om.dst=none
    ·obtain⟨r,nD,qT,hnd⟩:=aq5
     have lS:=uH hnd
     obtain⟨ey,bI,μ,Z,hc,hr⟩:=pV
     have iU:∀ t,o.dst=some t->t<a.tmps.size:=fun t h=>by rw [bI];exact yH t h
     have aGj:Region.wanted o (yielded ops a.tmps)=true:=acw (L:=⟨jU ops f m om.dst kb D,(f (m+1)).heap⟩) hr (by unfold ef;rw [sL])
     rw [aGj]
     simp only [if_true]
     have qW:=af4 jd
     obtain⟨dst,op,ty,pos,after,g⟩:=o
     have an8:∀ x∈op.operands,bh Z μ w ((f i).ev x) (a.eval x):=by
      intro x hx
      have h1:=l9 (L:=⟨jU ops f m om.dst kb D,(f (m+1)).heap⟩) hr x
      rwa [<-gW lS x hx] at h1
     refine nC.sound hc nD an8 (fun b blk hb=>by cases hb) dst ty pos after g (fun v w' bm Z' afC=>?_)
     refine⟨acz,.inr (.inr ⟨hms,⟨om,kb,lH,uH,aeE,by rw [put_defers];exact ey,by rw [r7];exact bI,bm,Z',afC.core,fun t=>?_⟩,fun k hk=>?_,(jl m).2 (.inr agz),fun k hk hkf=>(jl k).2 (.inr (hDf k hk hkf))⟩)⟩
     ·have h1:=r9 (L:=⟨jU ops f m om.dst kb D,(f (m+1)).heap⟩) (d:=dst) iU (fun t=>(hr t).mono afC.hz afC.hm afC.hf) afC.rep t
      have e:jU ops f m om.dst kb (D.setIfInBounds i true) t=(St.put ⟨jU ops f m om.dst kb D,(f (m+1)).heap⟩ dst r).slot t:=by
       unfold jU
       rw [qW t,hnd,lS]
       cases dst with
       | none=>rw [if_neg (c:=(none:Option Tmp)=some t) aM,if_neg (c:=(none:Option Tmp)=some t) aM];rfl
       | some d =>
        rw [if_neg (c:=(none:Option Tmp)=some t) aM,iz]
        by_cases e:t=d
        ·subst e;rw [if_pos rfl,if_pos rfl];exact qT t rfl
        ·rw [if_neg (c:=(some d:Option Tmp)=some t) (by simpa using fun h=>e h.symm),if_neg e]
         show aau none (fO ops f m D t)=if (none:Option Tmp)=some t then(f (m+1)).slot t else aau none (fO ops f m D t)
         rw [if_neg aM]
      show bh Z' bm w' (jU ops f m om.dst kb (D.setIfInBounds i true) t) _
      rw [e];exact h1
     ·rcases(jl k).1 hk with rfl | h
      ·omega
      ·exact hDm k h
    replace wu:(∃ x,o.op=.move x)\/(∃ q T x y U,o.op=.binOp q T x y U/\∀ om,ops[m]?=some om->om.dst=none)\/(∃ x i,o.op=.extract x i/\∀ om,ops[m]?=some om->om.dst=none):=by
     rcases wu with h | h | h | ⟨h1,r,h2,h3⟩
     ·exact rB
     ·exact .inr (.inl h)
     ·exact .inr (.inr h)
     ·exact absurd ⟨r,h2,h3,h1 om lH⟩ aq5
    have aew:Step P true ops o ⟨jU ops f m om.dst kb D,(f (m+1)).heap⟩ ⟨jU ops f m om.dst kb (D.setIfInBounds i true),(f (m+1)).heap⟩:=by
     have kT:=vP i o ho (by first | exact .inl ae | (refine .inr ?_;rintro rfl;simp_all))
     have qW:=af4 jd
     obtain⟨dst,op,ty,pos,after,g⟩:=o
     simp only at sL wu qW ki
     subst sL
     have aj2:∀ r,aF P (f (m+1)).heap (St.ev ⟨jU ops f m om.dst kb D,(f (m+1)).heap⟩) op (aau kb r)->(∀ t,dst=some t->(f (i+1)).slot t=r)->Step P true ops ⟨dst,op,ty,pos,after,none⟩ ⟨jU ops f m om.dst kb D,(f (m+1)).heap⟩ ⟨jU ops f m om.dst kb (D.setIfInBounds i true),(f (m+1)).heap⟩:=by
      intro r hr qT
      refine .val rfl (bW.le_refl _) (fr:=[]) (fun _ _ h=>by cases h) (.pure hr) ?_
      show (_:St)=⟨_,_⟩
      congr 1
      funext t
      unfold jU
      rw [qW t]
      cases dst with
      | none=>rw [if_neg (c:=(none:Option Tmp)=some t) aM];rfl
      | some d =>
       show _=(St.put _ (some d) _).slot t
       rw [iz]
       by_cases e:t=d
       ·subst e;rw [if_neg (ki t rfl).2,if_pos rfl,if_pos rfl,qT t rfl]
       ·rw [if_neg (c:=(some d:Option Tmp)=some t) (by simpa using fun h=>e h.symm),if_neg e]
     cases kT with
     | skip hg h=>cases hg
     | @val r fr' H1 hg hle dQ nD h =>
      have qT:∀ t,dst=some t->(f (i+1)).slot t=r:=fun t ht=>by rw [h];simp only;subst ht;exact(iz _ _ _ _).trans (if_pos rfl)
      rcases wu with⟨x,rfl⟩ | ⟨q,T,x,y,U,rfl,hnd⟩ | ⟨x,i,rfl,hnd⟩
      ·cases nD with
       | pure hp =>
        cases hp with
        | move =>
         refine aj2 _ ?_ qT
         rw [<-az9 x bU];exact .move x
       | alloc hp=>cases hp
       | call hp=>cases hp
      ·have lS:=uH (hnd om lH)
       have e1:=gW lS x bU
       have e2:=gW lS y bU
       cases nD with
       | pure hp =>
        refine aj2 _ ?_ qT
        rw [lS] at e1 e2 ⊢
        cases hp with
        | bin hx hy hb=>exact .bin (e1.symm.trans hx) (e2.symm.trans hy) hb
        | sh hx hy hb=>exact .sh (e1.symm.trans hx) (e2.symm.trans hy) hb
        | beq hx hy hb=>exact .beq (e1.symm.trans hx) (e2.symm.trans hy) hb
        | bne hx hy hb=>exact .bne (e1.symm.trans hx) (e2.symm.trans hy) hb
        | zR hx hy hb=>exact .zR (e1.symm.trans hx) (e2.symm.trans hy) hb
        | eqS hx hy=>exact .eqS (e1.symm.trans hx) (e2.symm.trans hy)
        | eqN hx hy hT=>exact .eqN (e1.symm.trans hx) (e2.symm.trans hy) hT
        | aao hx hy hT=>exact .aao (e1.symm.trans hx) (e2.symm.trans hy) hT
        | zJ hx hy hT hE hs hd=>exact .zJ (e1.symm.trans hx) (e2.symm.trans hy) hT hE hs hd
       | alloc hp=>cases hp
       | call hp=>cases hp
      ·have lS:=uH (hnd om lH)
       have e1:=gW lS x bU
       cases nD with
       | pure hp =>
        refine aj2 _ ?_ qT
        rw [lS] at e1 ⊢
        cases hp with
        | extract ht hr aX=>exact .extract (e1.symm.trans ht) hr aX
       | alloc hp=>cases hp
       | call hp=>cases hp
     | st hg r8=>rcases wu with⟨x,rfl⟩ | ⟨q,T,x,y,U,rfl,_⟩ | ⟨x,i,rfl,_⟩<;>cases r8
     | stM im _ _=>cases im
    refine acU pV aew yH (K:=fun a' w'=>closed (D.setIfInBounds i true)/\(PhA (D.setIfInBounds i true) a' w'\/PhB (D.setIfInBounds i true) a' w'\/PhC (D.setIfInBounds i true) a' w')) (fun a' w' mJ=>⟨acz,.inr (.inr ⟨hms,⟨om,kb,lH,uH,aeE,mJ⟩,fun k hk=>?_,(jl m).2 (.inr agz),fun k hk hkf=>(jl k).2 (.inr (hDf k hk hkf))⟩)⟩)
    rcases(jl k).1 hk with rfl | h
    ·omega
    ·exact hDm k h
   ·have eO:∀ j,j<i->D.getD j false=true:=fun j hj=>by
     rcases wa i o ho ae j hj with h | ⟨h,_⟩
     ·exact yW D jH j i h ab4
     ·exact absurd h aAx
    have ajF:i=m+1:=by
     by_cases e:i=m+1
     ·exact e
     ·have:=hDm (m+1) (eO (m+1) ae);omega
    refine tail (m+1) ae (fun j hj=>⟨fun h=>by have:=hDm j h;omega,fun h=>eO j ae⟩) ajF.symm ?_
    have k6:=aD4 (fun j hj=>eO j ae)
    have:(⟨jU ops f m om.dst kb D,(f (m+1)).heap⟩:St)=f (m+1):=by
     show (⟨_,_⟩:St)=⟨_,_⟩
     congr 1
     funext t
     unfold jU
     split
     ·rfl
     ·rename_i e;rw [k6 t,aeE t e]
    rw [<-this];exact pV
 ·
  rintro D a w hDs ⟨jH,hI⟩ eO
  rcases hI with hA | ⟨k,hmk,fo,hkn,pV⟩ | ⟨hms,⟨om,kb,lH,uH,aeE,pV⟩,hDm,agz,hDf⟩
  ·have aAr:m=ops.size:=by
    by_cases e:m=ops.size
    ·exact e
    ·have:=hA.1 m (eO m ae);omega
   exact hq _ a w (aAr ▸ fK) (hAB D a w hA (fun i hi=>eO i ae))
  ·have:k=ops.size:=by
    by_cases e:k=ops.size
    ·exact e
    ·have:=(fo k ae).1 (eO k ae);omega
   subst this
   exact hq _ a w fK pV
  ·have jY:m+1=ops.size:=by
    by_cases e:m+1=ops.size
    ·exact e
    ·have:=hDm (m+1) (eO (m+1) ae);omega
   have k6:fO ops f m D=(f m).slot:=by
    funext t
    unfold fO
    split
    ·rfl
    ·rename_i nI
     rw [hconst 0 m t (b8 _) (bq _) (fun k o _ lU hk e=>nI ⟨k,o,lU,eO k ae,hk,e⟩)]
   have:(⟨jU ops f m om.dst kb D,(f (m+1)).heap⟩:St)=f (m+1):=by
    show (⟨_,_⟩:St)=⟨_,_⟩
    congr 1
    funext t
    unfold jU
    split
    ·rfl
    ·rename_i e;rw [k6,aeE t e]
   exact hq _ a w (jY ▸ fK) (this ▸ pV)
 ·
  refine ba List.countP_le_length ?_
  simp
 ·
  have hD0:∀ i,(rL ops.size false).getD i false=false:=fun i=>by
   rw [dG,Array.getElem?_replicate];split<;>rfl
  refine⟨fun i o _ h=>(by rw [hD0] at h;cases h),.inl ⟨fun i h=>(by rw [hD0] at h;cases h),?_⟩⟩
  rw [<-f0] at hs
  obtain⟨ey,bI,μ,Z,hc,hr⟩:=hs
  obtain⟨Z1,k1,k2⟩:=hc.xW (hle 0 m (b8 _) (bq _))
  have aAk:∀ (w':World),w'.heap=w.heap->Frame Z μ w w':=fun w' h=>⟨fun _ _=>by rw [h],fun _ id _ c _ _ hh=>⟨c,by rw [h];exact hh,rfl⟩⟩
  have aH0:∀ (w':World),w'.heap=w.heap->Frame Z1 μ w w':=fun w' h=>⟨fun _ _=>by rw [h],fun _ id _ c _ _ hh=>⟨c,by rw [h];exact hh,rfl⟩⟩
  refine⟨ey,bI,μ,Z1,⟨⟨k1.cE.os,k1.cE.tape,k1.cE.output,k1.cE.size,k1.cE.block,k1.cE.vT⟩,k1.mc,k1.jS,k1.me,k1.inj,k1.own,k1.x0,k1.oZ,k1.x1,k1.jD,k1.cd,fun b id hb=>?_⟩,fun b hb=>?_,fun t=>?_⟩
  ·obtain⟨blk,g1,g2⟩:=k1.heap b id hb
   exact⟨blk,g1,g2.mono (fun _ h=>h) (fun _ _ h=>h) (aH0 _ rfl) rfl⟩
  ·left
   obtain⟨id,hid⟩:=ak9.1 hb
   obtain⟨blk,g1,_⟩:=hc.heap b id hid
   rw [g1];simp
  ·have:fO ops f m (rL ops.size false) t=(f 0).slot t:=by
    unfold fO
    rw [if_neg]
    rintro⟨i,o,_,h,_⟩
    rw [hD0] at h;cases h
   rw [this]
   exact(hr t).mono k2 (fun _ _ h=>h) (aAk { w with drawn:=w.drawn+1 } rfl)
theorem aqy {m id:Nat} {fr:List Nat} {K:St->Prop} {Q:Exit->Act->World->Prop} {L:St} {f:Nat->St} (iY:P.follows .mixedOrders=true) (hs:gi n W X Z0 L a w)
  (f0:f 0=L) (vP:∀ i o,ops[i]?=some o->Step P true ops o (f i) (f (i+1))) (fK:K (f ops.size)) (w7:m<=ops.size) (vE:∀ i o,ops[i]?=some o->∀ j∈jZ o,j<i)
  (wa:∀ i o,ops[i]?=some o->m<=i->∀ j,j<i->nX ops j i\/(i=m/\j∈fr)) (tx:∀ i o,ops[i]?=some o->i<m->xc o.op=false)
  (vg:∀ i j oi oj d,ops[i]?=some oi->ops[j]?=some oj->i<m->j<m->i≠j->oj.dst=some d->oi.dst≠some d/\(d∈oi.looksAt ops->if j<i then nX ops j i else nX ops i j))
  (acR:∀ j o,ops[j]?=some o->j∈fr->j<m/\m<ops.size/\(∀ om,ops[m]?=some om->om.guard=none/\((om.dst=none/\∃ T p x,om.op=.store T p x)\/∃ d xs ts,om.dst=some d/\om.op=.call ⟨.builtin .append,xs,ts⟩) /\
    (∀ d,o.dst=some d->d∉om.looksAt ops/\om.dst≠some d)/\∀ d,om.dst=some d->d∉o.looksAt ops) /\
   o.guard=none/\((∃ x,o.op=.move x)\/(∃ q T x y U,o.op=.binOp q T x y U/\∀ om,ops[m]?=some om->om.dst=none)\/(∃ x i,o.op=.extract x i/\∀ om,ops[m]?=some om->om.dst=none) \/
    ((∀ om,ops[m]?=some om->om.dst=none)/\∃ r,nC P (f (m+1)).heap (f j).ev (o.dst.getD 0) o.op r []/\∀ t,o.dst=some t->(f (j+1)).slot t=r)))
  (hd:∀ o∈ops.toList,∀ t,o.dst=some t->t<n) (hq:∀ L' a' w',K L'->gi n W X Z0 L' a' w'->Q .normal a' w') :
  (Code.region id ops true).wp P Q a w :=
 ams iY hs f0 (fun i o ho _=>vP i o ho) (fun i o ho _ a w K Q pV yH hK=>acU pV (vP i o ho) yH hK) fK w7 vE wa tx vg acR hd hq
theorem aDE {m id:Nat} {fr:List Nat} {K:St->Prop} {Q:Exit->Act->World->Prop} {L:St} (iY:P.follows .mixedOrders=true) (fT:zn ops m fr=true) (hs:gi n W X Z0 L a w)
  (hL:opsL P true ops ops.toList L K) (hd:∀ o∈ops.toList,∀ t,o.dst=some t->t<n) (hq:∀ L' a' w',K L'->gi n W X Z0 L' a' w'->Q .normal a' w') :
  (Code.region id ops true).wp P Q a w:=by
 obtain⟨f,f0,fs,fK⟩:=aa1 _ _ hL
 have vP:∀ i o,ops[i]?=some o->Step P true ops o (f i) (f (i+1)):=fun i o h=>fs i o nH
 rw [n9] at fK
 unfold zn at fT
 simp only [kI,decide_eq_true_eq,pO,qy] at fT
 obtain⟨⟨⟨w7,h1⟩,h2⟩,h3⟩:=fT
 have ir:∀ i o,ops[i]?=some o->ops.getD i default=o:=fun i o h=>by rw [dG,h];rfl
 have ov:∀ i o,ops[i]?=some o->i<ops.size:=fun i o h=>(nA.1 h).1
 have xX:∀ i,i<ops.size->∃ o,ops[i]?=some o:=fun i h=>⟨_,pE h⟩
 have vE:∀ i o,ops[i]?=some o->∀ j∈jZ o,j<i:=fun i o h j hj=>by
  have:=(h1 i (ov i o h)).1 j (by rw [ir i o h];exact hj)
  simpa using this
 have pX:=aej ops ops.toList [] (fun i=>by simp) (fun i t h=>by simp at h)
 have wa:∀ i o,ops[i]?=some o->m<=i->∀ j,j<i->nX ops j i\/(i=m/\j∈fr):=fun i o h yp j hj=>by
  have:=(h1 i (ov i o h)).2
  rw [if_pos yp] at this
  have:=(pO.1 this) j (by simpa using hj)
  simp only [oN,kI,beq_iff_eq,pS] at this
  rcases this with g | g
  ·exact .inl (pX i j (by simpa using g))
  ·exact .inr g
 have tx:∀ i o,ops[i]?=some o->i<m->xc o.op=false:=fun i o h yp=>by
  have:=(h1 i (ov i o h)).2
  rw [if_neg ae,ir i o h] at this
  simpa using this
 have vg:∀ i j oi oj d,ops[i]?=some oi->ops[j]?=some oj->i<m->j<m->i≠j->oj.dst=some d->oi.dst≠some d/\(d∈oi.looksAt ops->if j<i then nX ops j i else nX ops i j):=by
  intro i j oi oj d hi hj jd mE aX py
  have:=h2 i jd j mE
  simp only [oN,beq_iff_eq] at this
  rcases this with h | h
  ·exact absurd h aX
  ·unfold aaU at h
   rw [ir j oj hj,ir i oi hi,py] at h
   simp only [kI,bne_iff_ne,ne_eq,oN,xC] at h
   refine⟨h.1,fun sV=>?_⟩
   rcases h.2 with h' | h'
   ·rw [pS.2 sV] at h';cases h'
   ·split
    ·rename_i bH;rw [if_pos bH] at h';exact pX i j h'
    ·rename_i bH;rw [if_neg bH] at h';exact pX j i h'
 have acR:∀ j o,ops[j]?=some o->j∈fr->j<m/\m<ops.size/\(∀ om,ops[m]?=some om->om.guard=none/\((om.dst=none/\∃ T p x,om.op=.store T p x)\/∃ d xs ts,om.dst=some d/\om.op=.call ⟨.builtin .append,xs,ts⟩) /\
    (∀ d,o.dst=some d->d∉om.looksAt ops/\om.dst≠some d)/\∀ d,om.dst=some d->d∉o.looksAt ops) /\
   o.guard=none/\((∃ x,o.op=.move x)\/(∃ q T x y U,o.op=.binOp q T x y U/\∀ om,ops[m]?=some om->om.dst=none)\/(∃ x i,o.op=.extract x i/\∀ om,ops[m]?=some om->om.dst=none) \/
    ((∀ om,ops[m]?=some om->om.dst=none)/\∃ r,nC P (f (m+1)).heap (f j).ev (o.dst.getD 0) o.op r []/\∀ t,o.dst=some t->(f (j+1)).slot t=r)):=by
  intro j o ho hj
  simp only [oN,List.isEmpty_iff,kI,decide_eq_true_eq,pO] at h3
  rcases h3 with h3 | ⟨⟨hm,dj⟩,eO⟩
  ·rw [h3] at hj;cases hj
  ·obtain⟨mE,hf⟩:=eO j hj
   unfold atD at hf
   rw [ir j o ho] at hf
   simp only [kI,xy] at hf
   obtain⟨⟨⟨hf1,rO⟩,vv⟩,hf4⟩:=hf
   refine⟨mE,hm,fun om lH=>?_,hf1,?_⟩
   ·unfold aw7 at dj
    rw [ir m om lH] at dj vv hf4
    simp only [kI,xy] at dj
    refine⟨dj.1,?_,fun d hd=>⟨fun sV=>?_,fun e=>?_⟩,fun d hd sV=>?_⟩
    ·have:=dj.2
     split at this
     ·rename_i T p x e;exact .inl ⟨xy.1 this,T,p,x,e⟩
     ·rename_i xs ts e
      obtain⟨d,hd⟩:=Option.isSome_iff_exists.1 this
      exact .inr ⟨d,xs,ts,hd,e⟩
     ·cases this
    ·rw [hd] at vv
     simp only [pS.2 sV] at vv
     cases vv
    ·rw [hd,e] at vv
     simp at vv
    ·rw [hd] at hf4
     simp only [pS.2 sV] at hf4
     cases hf4
   ·split at rO
    ·rename_i x e;exact .inl ⟨x,e⟩
    ·rename_i q T x y U e;exact .inr (.inl ⟨q,T,x,y,U,e,fun om lH=>by rw [ir m om lH] at rO;exact xy.1 rO⟩)
    ·rename_i x i e;exact .inr (.inr (.inl ⟨x,i,e,fun om lH=>by rw [ir m om lH] at rO;exact xy.1 rO⟩))
    ·cases rO
 exact aqy iY hs f0 vP fK w7 vE wa tx vg acR hd hq
def axt (ops:Array Oper) (m j:Nat):Bool :=
 (ops.getD j default).guard.isNone && (match (ops.getD j default).op with | .makeSlice ..=>false | .buildSlice ..=>false | .box ..=>false | .alloc ..=>false | _=>true) &&
 (match (ops.getD j default).dst with | some d=>!((ops.getD m default).looksAt ops).contains d | none=>false)
def alo (ops:Array Oper) (m:Nat) (fr:List Nat):Bool :=
 decide (m<ops.size) &&
 (c9 ops.size).all (fun i=>(jZ (ops.getD i default)).all (·<i) &&
  (if m<=i then(c9 i).all (fun j=>((bef ops.toList []).getD i 0).testBit j || (i==m && fr.contains j)) else !xc (ops.getD i default).op)) &&
 ((c9 m).all fun i=>(c9 m).all fun j=>i==j || aaU ops (bef ops.toList []) i j) &&
 ((ops.getD m default).guard.isNone && (ops.getD m default).dst.isNone && (match (ops.getD m default).op with | .store ..=>true | _=>false)) &&
 (fr.all fun j=>decide (j<m) && axt ops m j)
theorem aBO {o:Oper} {L L':St} {b:Nat} {x:bg} (ht:xc o.op=false) (hL:L.heap b=none) (hL':L'.heap b=none) (h:Step P true ops o L L'):Step P true ops o (L.bO b (some x)) (L'.bO b (some x)):=by
 have nF:∀ (d:Option Tmp) (r:LV),(L.put d r).bO b (some x)=(L.bO b (some x)).put d r:=fun d r=>by cases d<;>rfl
 have hG:∀ res,ef ops L o res->ef ops (L.bO b (some x)) o res:=fun res h=>h
 cases h with
 | skip hg h=>exact .skip (hG _ hg) (by rw [h,nF])
 | @val r fr H1 hg hle dQ ho h =>
  have vj:H1 b=none:=by rw [h] at hL';exact hL'
  have aJa:∀ {A B:bW},A.le B->A b=none->bW.le (fun c=>if c=b then some x else A c) (fun c=>if c=b then some x else B c):=fun {A B} cL hA c blk hc=>by
   change (if c=b then some x else A c)=some blk at hc
   show ∃ m,(if c=b then some x else B c)=_/\_
   by_cases e:c=b
   ·rw [if_pos e] at hc ⊢
    cases hc
    exact⟨x.mt,rfl,fun h=>h,fun h1 h2=>by rw [h1] at h2;cases h2⟩
   ·rw [if_neg e] at hc ⊢
    exact cL c blk hc
  have alv:H1.le (fun c=>if c=b then some x else H1 c):=fun c blk hc=>by
   have e:c≠b:=fun e=>by subst e;rw [vj] at hc;cases hc
   exact⟨blk.mt,by show (if c=b then _ else _)=_;rw [if_neg e];exact hc,fun h=>h,fun h1 h2=>by rw [h1] at h2;cases h2⟩
  refine .val (r:=r) (fr:=fr) (H1:=fun c=>if c=b then some x else H1 c) (hG _ hg) (aJa hle hL) (fun c blk hc=>?_) (ho.le alv) (by rw [h];cases o.dst<;>rfl)
  obtain⟨q1,mm,q2,q3⟩:=dQ c blk hc
  have e:c≠b:=fun e=>by subst e;rw [vj] at q2;cases q2
  exact⟨by show (if c=b then _ else _)=_;rw [if_neg e];exact q1,mm,by show (if c=b then _ else _)=_;rw [if_neg e];exact q2,q3⟩
 | st hg ho =>
  obtain⟨dst,op,ty,pos,after,g⟩:=o
  rw [ho.tail] at ht;cases ht
 | stM im _ _=>cases im
theorem aIe {m id b:Nat} {fr:List Nat} {x0:bg} {K:St->Prop} {Q:Exit->Act->World->Prop} {L:St} (iY:P.follows .mixedOrders=true) (fT:alo ops m fr=true) (hs:gi n W X Z0 L a w) (hb:L.heap b=some x0)
  (hL:opsL P true ops (ops.toList.take m) (L.bO b none) (fun Lm=>Lm.heap b=none/\(fr.all fun j=>match (ops.getD j default).dst with | some d=>(Lm.heap (eE d 1)).isNone | none=>true)=true /\
   (∀ om,ops[m]?=some om->∃ T p v i o,om.op=.store T p v/\Lm.ev p=.aD b x0.sz i o)/\opsL P true ops (ops.toList.drop m) (Lm.bO b (some x0)) K))
  (hd:∀ o∈ops.toList,∀ t,o.dst=some t->t<n) (hq:∀ L' a' w',K L'->gi n W X Z0 L' a' w'->Q .normal a' w') :
  (Code.region id ops true).wp P Q a w:=by
 obtain⟨g,g0,gs,gK,gN,gP,gT⟩:=aa1 _ _ hL
 unfold alo at fT
 simp only [kI,decide_eq_true_eq,pO,qy] at fT
 obtain⟨⟨⟨⟨w7,h1⟩,h2⟩,dj⟩,h3⟩:=fT
 have ir:∀ i o,ops[i]?=some o->ops.getD i default=o:=fun i o h=>by rw [dG,h];rfl
 have ov:∀ i o,ops[i]?=some o->i<ops.size:=fun i o h=>(nA.1 h).1
 have hlen:(ops.toList.take m).length=m:=by rw [eP,n9];omega
 rw [hlen] at gK gN gP gT
 obtain⟨e,e0,es,eK⟩:=aa1 _ _ gT
 have gs':∀ i o,ops[i]?=some o->i<m->Step P true ops o (g i) (g (i+1)):=fun i o h hi=>gs i o (by rw [List.getElem?_take,if_pos hi];simpa using h)
 have tx:∀ i o,ops[i]?=some o->i<m->xc o.op=false:=fun i o h yp=>by
  have:=(h1 i (ov i o h)).2
  rw [if_neg ae,ir i o h] at this
  simpa using this
 have xX:∀ i,i<ops.size->∃ o,ops[i]?=some o:=fun i h=>⟨_,pE h⟩
 have gle:∀ i j,i<=j->j<=m->(g i).heap.le (g j).heap:=by
  intro i j rF
  induction j with
  | zero =>
   intro _
   have:i=0:=by omega
   subst this;exact bW.le_refl _
  | succ j ih =>
   intro mE
   by_cases q:i=j+1
   ·subst q;exact bW.le_refl _
   ·obtain⟨o,ho⟩:=xX j ae
    exact bW.le_trans (ih ae ae) (aog (tx j o ho ae) (gs' j o ho ae)).1
 have gb:∀ i,i<=m->(g i).heap b=none:=fun i hi=>by
  cases hq:(g i).heap b with
  | none=>rfl
  | some blk =>
   obtain⟨mm,q,_⟩:=gle i m hi (bq _) b blk hq
   rw [gK] at q;cases q
 let f:Nat->St:=fun i=>if i<=m then(g i).bO b (some x0) else e (i-m)
 have fm:∀ i,i<=m->f i=(g i).bO b (some x0):=fun i hi=>if_pos hi
 have ft:∀ i,m<=i->f i=e (i-m):=fun i hi=>by
  show (if i<=m then _ else _)=_
  by_cases q:i<=m
  ·have:i=m:=by omega
   subst this
   rw [if_pos q,qn,e0]
  ·rw [if_neg q]
 have f0:f 0=L:=by
  rw [fm 0 (b8 _),g0]
  obtain⟨sl,hp⟩:=L
  show (⟨sl,fun c=>if c=b then some x0 else(if c=b then none else hp c)⟩:St)=⟨sl,hp⟩
  congr 1
  funext c
  split
  ·rename_i q;subst q;exact hb.symm
  ·rfl
 have vP:∀ i o,ops[i]?=some o->Step P true ops o (f i) (f (i+1)):=fun i o ho=>by
  by_cases jd:i<m
  ·rw [fm i ae,fm (i+1) ae]
   exact aBO (tx i o ho jd) (gb i ae) (gb (i+1) ae) (gs' i o ho jd)
  ·rw [ft i ae,ft (i+1) ae,show i+1-m=i-m+1 by omega]
   refine es (i-m) o ?_
   rw [List.getElem?_drop,show m+(i-m)=i by omega]
   simpa using ho
 have fK:K (f ops.size):=by
  rw [ft _ ae]
  rw [lg,n9] at eK
  exact eK
 have vE:∀ i o,ops[i]?=some o->∀ j∈jZ o,j<i:=fun i o h j hj=>by
  have:=(h1 i (ov i o h)).1 j (by rw [ir i o h];exact hj)
  simpa using this
 have pX:=aej ops ops.toList [] (fun i=>by simp) (fun i t h=>by simp at h)
 have wa:∀ i o,ops[i]?=some o->m<=i->∀ j,j<i->nX ops j i\/(i=m/\j∈fr):=fun i o h yp j hj=>by
  have:=(h1 i (ov i o h)).2
  rw [if_pos yp] at this
  have:=(pO.1 this) j (by simpa using hj)
  simp only [oN,kI,beq_iff_eq,pS] at this
  rcases this with g | g
  ·exact .inl (pX i j (by simpa using g))
  ·exact .inr g
 have vg:∀ i j oi oj d,ops[i]?=some oi->ops[j]?=some oj->i<m->j<m->i≠j->oj.dst=some d->oi.dst≠some d/\(d∈oi.looksAt ops->if j<i then nX ops j i else nX ops i j):=by
  intro i j oi oj d hi hj jd mE aX py
  have:=h2 i jd j mE
  simp only [oN,beq_iff_eq] at this
  rcases this with h | h
  ·exact absurd h aX
  ·unfold aaU at h
   rw [ir j oj hj,ir i oi hi,py] at h
   simp only [kI,bne_iff_ne,ne_eq,oN,xC] at h
   refine⟨h.1,fun sV=>?_⟩
   rcases h.2 with h' | h'
   ·rw [pS.2 sV] at h';cases h'
   ·split
    ·rename_i bH;rw [if_pos bH] at h';exact pX i j h'
    ·rename_i bH;rw [if_neg bH] at h';exact pX j i h'
 have amZ:∀ om,ops[m]?=some om->om.guard=none/\om.dst=none/\∃ T p x,om.op=.store T p x:=fun om lH=>by
  rw [ir m om lH] at dj
  refine⟨xy.1 dj.1.1,xy.1 dj.1.2,?_⟩
  have:=dj.2
  split at this
  ·rename_i T p x q;exact⟨T,p,x,q⟩
  ·cases this
 have hHm:(g m).heap.le (f (m+1)).heap:=by
  obtain⟨om,lH⟩:=xX m w7
  obtain⟨q1,q2,_⟩:=amZ om lH
  obtain⟨T,p,v,ii,oo,q3,q4⟩:=gP om lH
  have kT:=vP m om lH
  rw [fm m (bq _)] at kT
  obtain⟨dst,op,ty,pos,after,gd⟩:=om
  simp only at q1 q2 q3
  subst q1 q2 q3
  intro c blk hc
  have oa:c≠b:=fun q=>by subst q;rw [gK] at hc;cases hc
  cases kT with
  | skip hg h=>cases hg
  | val hg hle dQ nD h =>
   cases nD with
   | pure h=>cases h
   | alloc h=>cases h
   | call h=>cases h
  | st hg r8 =>
   generalize hfe:f (m+1)=F at r8 ⊢
   cases r8 with
   | store hp hb1 oM hm hi hy nF hT aX =>
    have e1:(LV.aD _ _ _ _)=LV.aD b x0.sz ii oo:=hp.symm.trans q4
    cases e1
    exact⟨blk.mt,by
     show (if c=b then _ else if c=b then _ else(g m).heap c)=_
     rw [if_neg oa,if_neg oa];exact hc,fun h=>h,fun h1 h2=>by rw [h1] at h2;cases h2⟩
  | stM im _ _=>cases im
 refine aqy iY hs f0 vP fK ae vE wa tx vg ?_ hd hq
 intro j o ho hj
 have hj3:=h3 j hj
 obtain⟨mE,hf⟩:=hj3
 unfold axt at hf
 rw [ir j o ho] at hf
 simp only [kI,xy] at hf
 obtain⟨⟨hf1,rO⟩,vv⟩:=hf
 refine⟨mE,w7,fun om lH=>?_,hf1,.inr (.inr (.inr ⟨fun om lH=>(amZ om lH).2.1,?_⟩))⟩
 ·obtain⟨q1,q2,q3⟩:=amZ om lH
  refine⟨q1,.inl ⟨q2,q3⟩,fun d rp=>⟨fun sV=>?_,fun q=>by rw [q2] at q;cases q⟩,fun d rp=>by rw [q2] at rp;cases rp⟩
  rw [rp,ir m om lH] at vv
  simp only [pS.2 sV] at vv
  cases vv
 ·have hsj:=gs' j o ho mE
  have gW:∀ y,(f j).ev y=(g j).ev y:=fun y=>by rw [fm j ae];rfl
  have k6:∀ t,(f (j+1)).slot t=(g (j+1)).slot t:=fun t=>by rw [fm (j+1) ae];rfl
  cases hsj with
  | skip hg h=>unfold ef at hg;rw [hf1] at hg;cases hg
  | @val r fr' H1 hg hle dQ nD h =>
   have vj:H1=(g (j+1)).heap:=by rw [h]
   have adF:H1.le (f (m+1)).heap:=by rw [vj];exact bW.le_trans (gle (j+1) m ae (bq _)) hHm
   have qT:∀ t,o.dst=some t->(f (j+1)).slot t=r:=fun t ht=>by rw [k6,h];simp only [ht];exact(iz _ _ _ _).trans (if_pos rfl)
   refine⟨r,?_,qT⟩
   have aJk:(f j).ev=(g j).ev:=funext gW
   rw [aJk]
   have adf:=nD.le adF
   obtain⟨dst,op,ty,pos,after,gd⟩:=o
   simp only at rO adf nD dQ
   cases adf with
   | pure h=>exact .pure h
   | alloc h=>cases h<;>cases rO
   | @call bs h =>
    cases bs with
    | nil=>exact .call h
    | cons x bs =>
     exfalso
     obtain⟨_,mm,q2,_⟩:=dQ (eE (dst.getD 0) 1) x aM
     have kS:=pO.1 gN j hj
     rw [ir j _ ho] at kS
     simp only at kS
     rw [vj] at q2
     obtain⟨_,q4,_⟩:=gle (j+1) m ae (bq _) _ _ q2
     cases dst with
     | none=>simp at vv
     | some d =>
      simp only [aag] at q4
      change ((g m).heap (eE d 1)).isNone=true at kS
      rw [q4] at kS;cases kS
  | st hg ho2 =>
   have:=tx j o ho mE
   obtain⟨dst,op,ty,pos,after,gd⟩:=o
   rw [ho2.tail] at this;cases this
  | stM im _ _=>cases im
def jx (P:Program) (ops:Array Oper):Nat->Array Bool->St->(St->Prop)->Prop
 | 0,D,L,K=>Region.ready .any ops D=[]/\K L
 | fuel+1,D,L,K=>(Region.ready .any ops D=[]->K L)/\∀ i∈Region.ready .any ops D,∃ o L',ops[i]?=some o/\Step P false ops o L L'/\jx P ops fuel (D.setIfInBounds i true) L' K
theorem aoM {K K':St->Prop} (hk:∀ L,K L->K' L):∀ (fuel:Nat) (D:Array Bool) (L:St),jx P ops fuel D L K->jx P ops fuel D L K'
 | 0,D,L,h=>⟨h.1,hk L h.2⟩
 | fuel+1,D,L,h=>⟨fun e=>hk L (h.1 e),fun i hi=>by obtain⟨o,L',h1,h2,h3⟩:=h.2 i hi;exact⟨o,L',h1,h2,aoM hk fuel _ L' h3⟩⟩
theorem gi.drew {L:St} {w':World} (hs:gi n W X Z0 L a w) (hh:w'.heap=w.heap) (h1:w'.os=w.os) (h2:w'.tape=w.tape) (h3:w'.output=w.output):gi n W X Z0 L a w':=by
 obtain⟨ey,bI,μ,Z,hc,hr⟩:=hs
 have dQ:Frame Z μ w w':=⟨fun _ _=>by rw [hh],fun _ id _ c _ _ h=>⟨c,by rw [hh];exact h,rfl⟩⟩
 refine⟨ey,bI,μ,Z,⟨⟨h1.trans hc.cE.os,h2.trans hc.cE.tape,h3.trans hc.cE.output,by rw [hh];exact hc.cE.size,by rw [hh];exact hc.cE.block,by rw [hh];exact hc.cE.vT⟩,by rw [hh];exact hc.mc,hc.jS,hc.me,
  hc.inj,hc.own,hc.x0,hc.oZ,hc.x1,hc.jD,hc.cd,fun b id hb=>?_⟩,fun t=>(hr t).mono (fun _ h=>h) (fun _ _ h=>h) dQ⟩
 obtain⟨blk,g1,g2⟩:=hc.heap b id hb
 exact⟨blk,g1,g2.mono (fun _ h=>h) (fun _ _ h=>h) dQ (by rw [hh])⟩
theorem apg {K:St->Prop} {Q:Exit->Act->World->Prop} (hd:∀ o∈ops.toList,∀ t,o.dst=some t->t<n) (hq:∀ L' a' w',K L'->gi n W X Z0 L' a' w'->Q .normal a' w') :
  ∀ (fuel:Nat) (D:Array Bool) (L:St) (a:Act) (w:World),gi n W X Z0 L a w->jx P ops fuel D L K->wpAny P .any ops Q fuel D a w
 | 0,D,L,a,w,hs,h=>⟨h.1,hq L a w h.2 hs⟩
 | fuel+1,D,L,a,w,hs,h=>by
   refine⟨fun e=>hq L a w (h.1 e) hs,fun i hi=>?_⟩
   obtain⟨o,L',h1,h2,h3⟩:=h.2 i hi
   unfold wpOp
   rw [h1]
   simp only
   have:=acU (Q:=Q) (K:=wpAny P .any ops Q fuel (D.setIfInBounds i true)) hs h2 (hd o (by rw [af0];exact axV h1)) (fun a' w' mJ=>apg hd hq fuel _ L' a' w' mJ h3)
   split
   ·rename_i hw;rw [if_pos hw] at this;exact .inl this
   ·rename_i hw;rw [if_neg hw] at this;exact this
theorem aDF {id:Nat} {K:St->Prop} {Q:Exit->Act->World->Prop} {L:St} (iY:P.follows .mixedOrders=true) (hs:gi n W X Z0 L a w)
  (hL:jx P ops ops.size (rL ops.size false) L K) (hd:∀ o∈ops.toList,∀ t,o.dst=some t->t<n) (hq:∀ L' a' w',K L'->gi n W X Z0 L' a' w'->Q .normal a' w') :
  (Code.region id ops true).wp P Q a w :=
 wp_region_any iY (apg hd hq _ _ L a _ (hs.drew rfl rfl rfl rfl) hL)
end
section
variable {P:Program} {ops:Array Oper}
theorem vr {D:Array Bool} {i:Nat} (h:i<D.size) (a b:Bool):D.getD i a=D.getD i b:=by
 rw [dG,dG,pE h];rfl
end
end Go.Lg
namespace Go.Lg
inductive ku where
 | normal
 | exit (id:Nat)
 | ret
def qi (K:St->Prop) (Q:ku->St->Prop):ku->St->Prop
 | .normal,L=>K L
 | e,L=>Q e L
def s7 (id:Nat) (Q:ku->St->Prop):ku->St->Prop
 | .exit i,L=>if i=id then Q .normal L else Q (.exit i) L
 | e,L=>Q e L
def lV (n:Nat):Code->Bool
 | .region _ ops _=>ops.toList.all fun o=>match o.dst with | some t=>decide (t<n) | none=>true
 | .seq x y=>lV n x && lV n y
 | .cond _ x y=>lV n x && lV n y
 | .block _ c=>lV n c
 | .loop c=>lV n c
 | _=>true
def acV (n:Nat) (W:World) (X:XS) (Z0:Nat->Prop) (Q:ku->St->Prop):Exit->Act->World->Prop
 | .normal,a,w=>∃ L,Q .normal L/\gi n W X Z0 L a w
 | .exit id,a,w=>∃ L,Q (.exit id) L/\gi n W X Z0 L a w
 | .ret,a,w=>∃ L,Q .ret L/\gi n W X Z0 L a w
 | _,_,_=>False
def cP (P:Program):Code->(ku->St->Prop)->St->Prop
 | .skip,Q,L=>Q .normal L
 | .region _ ops d,Q,L=>∃ L0,az L L0/\(((d=true->∃ m fr,zn ops m fr=true)/\opsL P d ops ops.toList L0 (Q .normal))\/(d=true/\jx P ops ops.size (rL ops.size false) L0 (Q .normal)) \/
   ∀ n W X Z0 a w,gi n W X Z0 L0 a w->lV n (.region 0 ops d)=true->∀ id,(Code.region id ops d).wp P (acV n W X Z0 Q) a w)
 | .seq x y,Q,L=>cP P x (qi (cP P y Q) Q) L
 | .cond c x y,Q,L=>∃ t,L.ev c=.v (.bool t)/\(t=true->cP P x Q L)/\(t=false->cP P y Q L)
 | .block id c,Q,L=>cP P c (s7 id Q) L
 | .loop c,Q,L=>∀ I:St->Prop,(∀ L,cP P c (qi (fun L'=>∃ L'',az L' L''/\I L'') Q) L->I L)->∃ L0,az L L0/\I L0
 | .exit id,Q,L=>Q (.exit id) L
 | .ret,Q,L=>Q .ret L
 | _,_,_=>False
section
variable {P:Program} {W w w':World} {X:XS} {Z0 Z:Nat->Prop} {μ:Nat->Option Nat} {H:bW} {a:Act} {L L':St} {n:Nat}
def ahE (P:Program) (c:Code) (Q:Exit->Act->World->Prop) (a:Act) (w:World):Prop :=
 ∀ b k cs,∃ e a' w',Q e a' w'/\Arrives P (lone (b.at a (.code c :: .inLoop c :: k)) cs w) b k cs e a' w'
theorem aB0 {c:Code} {Q:Exit->Act->World->Prop} {a:Act} {w:World} (h:c.wp P (Exit.then (ahE P c Q) Q) a w):ahE P c Q a w:=by
 intro b k cs
 obtain⟨e,aeN,aeK,hq,abE⟩:=h b (.inLoop c :: k) cs
 cases e with
 | normal =>
  obtain⟨aJL,aKd,aHX,aEx,aJK⟩:=hq b k cs
  exact⟨aJL,aKd,aHX,aEx,.of_steps (Steps.trans abE (.one step_inLoop)) aJK⟩
 | exit id=>exact⟨_,aeN,aeK,hq,.pass (x:=.inLoop c) rfl (fun _ _=>.inl aM) abE⟩
 | goto l=>exact⟨_,aeN,aeK,hq,.pass (x:=.inLoop c) rfl (fun _ _=>.inl aM) abE⟩
 | ret=>exact⟨_,aeN,aeK,hq,.pass (x:=.inLoop c) rfl (fun _ _=>.inl aM) abE⟩
 | panic ch=>exact⟨_,aeN,aeK,hq,.pass (x:=.inLoop c) rfl (fun _ _=>.inl aM) abE⟩
 | outgrown=>exact⟨_,aeN,aeK,hq,.pass (x:=.inLoop c) rfl (fun _ _=>.inl aM) abE⟩
theorem aH1 {c:Code} {Q:Exit->Act->World->Prop} {a:Act} {w:World} (h:ahE P c Q a w):(Code.loop c).wp P Q a w:=by
 intro b k cs
 obtain⟨e,a',w',hq,abE⟩:=h b k cs
 exact⟨e,a',w',hq,.of_steps (.one step_loop) abE⟩
theorem aaq (iY:P.follows .mixedOrders=true):∀ (c:Code) (Q:ku->St->Prop) (L:St) (a:Act) (w:World),gi n W X Z0 L a w->cP P c Q L->lV n c=true ->
  c.wp P (acV n W X Z0 Q) a w
 | .skip,Q,L,a,w,hs,h,_=>wp_skip ⟨L,h,hs⟩
 | .region id ops d,Q,L,a,w,hs,h,hd=>by
   obtain⟨L0,hw,hdL⟩:=h
   have iU:∀ o∈ops.toList,∀ t,o.dst=some t->t<n:=fun o ho t ht=>by
    simp only [lV,pO] at hd
    have:=hd o ho
    rw [ht] at this
    simpa using this
   rcases hdL with⟨im,hL⟩ | ⟨rfl,hL⟩ | hL
   case inr.inr=>exact hL _ _ _ _ _ _ (hw _ _ _ _ _ _ hs) hd id
   case inr.inl=>exact aDF iY (hw _ _ _ _ _ _ hs) hL iU (fun L' a' w' hk mJ=>⟨L',hk,mJ⟩)
   cases d with
   | true =>
    obtain⟨m,_,hm⟩:=im rfl
    exact aDE iY hm (hw _ _ _ _ _ _ hs) hL iU (fun L' a' w' hk mJ=>⟨L',hk,mJ⟩)
   | false=>exact wp_region_list (atv _ _ _ _ (hw _ _ _ _ _ _ hs) hL iU (fun L' a' w' hk mJ=>⟨L',hk,mJ⟩))
 | .seq x y,Q,L,a,w,hs,h,hd=>by
   simp only [lV,kI] at hd
   refine wp_seq (wp_mono (aaq iY x _ L a w hs h hd.1) fun e a' w' q=>?_)
   cases e with
   | normal=>obtain⟨L',q1,q2⟩:=q;exact aaq iY y Q L' a' w' q2 q1 hd.2
   | exit id=>exact q
   | ret=>exact q
   | _=>exact q.elim
 | .cond c x y,Q,L,a,w,hs,h,hd=>by
   simp only [lV,kI] at hd
   obtain⟨t,h1,h2,h3⟩:=h
   have hc:a.eval c=.bool t:=by
    obtain⟨_,_,μ,Z,hc,hr⟩:=hs
    have:=l9 (L:=L) hr c
    rw [h1] at this
    exact this.eI
   exact wp_cond_split hc (fun e=>aaq iY x Q L a w hs (h2 e) hd.1) (fun e=>aaq iY y Q L a w hs (h3 e) hd.2)
 | .block id c,Q,L,a,w,hs,h,hd=>by
   refine wp_block (wp_mono (aaq iY c _ L a w hs h hd) fun e a' w' q=>?_)
   cases e with
   | normal=>exact q
   | exit i =>
    obtain⟨L',q1,q2⟩:=q
    simp only [s7] at q1
    simp only [Exit.inBlock]
    split
    ·rename_i e;rw [if_pos e] at q1;exact⟨L',q1,q2⟩
    ·rename_i e;rw [if_neg e] at q1;exact⟨L',q1,q2⟩
   | ret=>exact q
   | _=>exact q.elim
 | .loop c,Q,L,a,w,hs,h,hd=>by
   obtain⟨L0,hw,h0⟩:=h (fun L=>∀ a w,gi n W X Z0 L a w->ahE P c (acV n W X Z0 Q) a w) (fun L hL a w hs=>by
    refine aB0 (wp_mono (aaq iY c _ L a w hs hL hd) fun e a' w' q=>?_)
    cases e with
    | normal =>
     obtain⟨L',⟨L'',k1,k2⟩,k4⟩:=q
     exact k2 _ _ (k1 _ _ _ _ _ _ k4)
    | exit id=>exact q
    | ret=>exact q
    | _=>exact q.elim)
   exact aH1 (h0 a w (hw _ _ _ _ _ _ hs))
 | .exit id,Q,L,a,w,hs,h,_=>wp_exit ⟨L,h,hs⟩
 | .ret,Q,L,a,w,hs,h,_=>wp_ret ⟨L,h,hs⟩
 | .rangeFunc ..,_,_,_,_,_,h,_=>h.elim
 | .scope _,_,_,_,_,_,h,_=>h.elim
 | .label _,_,_,_,_,_,h,_=>h.elim
 | .goto _,_,_,_,_,_,h,_=>h.elim
 | .refuse _,_,_,_,_,_,h,_=>h.elim
end
def aom (P:Program) (L:St):ResultVar->LV->Prop
 | .tmp t,x=>L.slot t=x
 | .cell a T,x=>∃ b sz i o blk y n ag,L.slot a=.aD b sz i o/\L.heap b=some blk/\blk.sz=sz/\blk.vals[i]?=some y/\y.aw=sz/\y.at o n ag=some x/\bE P T n ag
inductive zH (P:Program) (L:St):List ResultVar->List LV->Prop
 | nil:zH P L [] []
 | cons {v x vs xs} (h:aom P L v x) (t:zH P L vs xs):zH P L (v :: vs) (x :: xs)
inductive aai (H:bW) (own:List Nat):LV->LV->Prop
 | cF {x y} (h:cY H x y):aai H own x y
 | ref {b sz off len k} (hk:own[k]?=some b):aai H own (.ref b sz off len) (.ref (k+1) sz off len)
 | ptr {b sz i o k} (hk:own[k]?=some b):aai H own (.aD b sz i o) (.aD (k+1) sz i o)
 | net {x y x' y' b sz off len k} (h1:cY H x x') (h2:cY H y y') (hk:own[k]?=some b):aai H own (.agg [x,y,.ref b sz off len]) (.agg [x',y',.ref (k+1) sz off len])
inductive afg (H:bW) (own:List Nat):List LV->List LV->Prop
 | nil:afg H own [] []
 | cons {x y xs ys} (h:aai H own x y) (t:afg H own xs ys):afg H own (x :: xs) (y :: ys)
def ahr:List LV->LV
 | [y]=>y
 | ys=>.bf ys
def qc (P:Program) (rs:List ResultVar) (L:St) (r:LV) (bs:List bg):Prop :=
 ∃ (xs ys:List LV) (H1:bW) (own:List Nat),zH P L rs xs/\L.heap.le H1/\afg H1 own xs ys/\own.Nodup/\own.length=bs.length /\
  (∀ (k b:Nat),own[k]?=some b->∃ blk:bg,H1 b=some blk/\bs[k]?=some blk/\aN blk.vals=true)/\r=ahr ys
def zY (args:List LV):St:=⟨fun t=>args.getD t .any,fun _=>none⟩
section
variable {P:Program} {W w w':World} {X:XS} {Z0 Z:Nat->Prop} {μ:Nat->Option Nat} {H:bW} {a:Act} {L L':St} {n:Nat}
def aaf (tmps:Array Value) (v:ResultVar):Sem Value :=
 match v with
 | .tmp t=>pure (tmps.getD t undef)
 | .cell p T=>do loadVar T (<-asAddr (tmps.getD p undef))
theorem akL (fn:Func) (tmps:Array Value):results fn tmps=(do let vs <-fn.results.mapM (aaf tmps);pure (if h:vs.size=1 then vs[0] else .tuple vs)):=by
 rfl
theorem al1 {v:ResultVar} {x:LV} (hc:Core W X Z0 μ Z L.heap w) (hr:∀ t,bh Z μ w (L.slot t) (a.tmps.getD t undef)) (h:aom P L v x) (hx:x≠.any/\∀ l,x≠.bf l) :
  ∃ u,(aaf a.tmps v).run P w=.ok u w/\fS Z μ w x u:=by
 cases v with
 | tmp t =>
  simp only [aom] at h
  have:=hr t
  rw [h] at this
  exact⟨_,rfl,bh.zo hx.2 hx.1 this⟩
 | cell p T =>
  obtain⟨b,sz,i,o,blk,y,m,ag,h1,h2,h3,h4,h5,h6,h7⟩:=h
  have e1:=hr p
  rw [h1] at e1
  have hl:aF P L.heap L.ev (.load T (.tmp p)) x:=.gj (b:=b) (sz:=sz) h1 h2 h3 h4 h5 h6 h7
  obtain⟨u,r1,r2⟩:=hl.sound (a:=a) (fun y hy=>l9 (L:=L) hr y) hc.heap none 0 "" #[] none
  have e2:=e1.2 rfl
  simp only [aB] at e2
  obtain⟨id,q1,q2⟩:=e2
  simp only [fP,and_true] at q1
  have gW:a.eval (.tmp p)=a.tmps.getD p undef:=rfl
  refine⟨u,?_,bh.zo hx.2 hx.1 r2⟩
  simp only [execOp,gW,q1,Instr.loadAt,Instr.sureAddr,Sem.run_bind,Sem.run_pure,Result.andThen_ok] at r1
  simp only [aaf,q1,asAddr,Sem.run_bind,Sem.run_pure,Result.andThen_ok]
  cases hq:(loadVar T ⟨id,i*sz+o,none⟩).run P w with
  | ok v' w'' =>
   rw [hq] at r1
   simp only [Result.andThen_ok,Result.ok.injEq,Next.value.injEq] at r1
   rw [r1.1,r1.2]
  | halt x' w''=>rw [hq] at r1;simp at r1
theorem aai.ne {own:List Nat} {x y:LV} (h:aai H own x y):x≠.any/\∀ l,x≠.bf l:=by
 cases h with
 | cF h=>exact h.ne
 | ref _=>exact⟨by simp,by simp⟩
 | ptr _=>exact⟨by simp,by simp⟩
 | net _ _ _=>exact⟨by simp,by simp⟩
def aae (μ:Nat->Option Nat) (own:List Nat):Nat->Option Nat:=fun k=>if k=0 then none else(own[k-1]?).bind μ
theorem aai.sound {own:List Nat} {x y:LV} {u:Value} (hc:Core W X Z0 μ Z H w) (h:aai H own x y) (hu:fS Z μ w x u):fS Z (aae μ own) w y u:=by
 cases h with
 | cF h=>exact cY.abT hc h (bh.tw h.ne.2 hu)
 | @ref b sz off len k hk =>
  have:=hu.2 rfl
  refine⟨by simp [LV.isAgg],fun _=>?_⟩
  simp only [aB] at this ⊢
  rcases this with h | ⟨id,cap,c,T,fz,h1,h2,h3⟩
  ·exact rB
  exact .inr ⟨id,cap,c,T,fz,h1,by simp [aae,hk,h2],h3⟩
 | @ptr b sz i o k hk =>
  have:=hu.2 rfl
  refine⟨by simp [LV.isAgg],fun _=>?_⟩
  simp only [aB] at this ⊢
  obtain⟨id,h1,h2⟩:=this
  exact⟨id,h1,by simp [aae,hk,h2]⟩
 | @net x y x' y' b sz off len k hx hy hk =>
  obtain⟨cs,rfl,hr⟩:=hu.1 rfl
  refine⟨fun _=>⟨cs,rfl,?_⟩,by simp [LV.isAgg]⟩
  simp only [aB,cC] at hr ⊢
  obtain⟨c1,d1,e1,l1,r1,c2,d2,e2,l2,r2,c3,d3,e3,l3,r3,r4⟩:=hr
  refine⟨c1,d1,e1,by rw [l1,hx.lay.2.1],cY.sound hc hx r1,c2,d2,e2,by rw [l2,hy.lay.2.1],cY.sound hc hy r2,c3,d3,e3,l3,?_,r4⟩
  rcases r3 with h | ⟨id,cap,c,T,fz,h1,h2,h3⟩
  ·exact rB
  exact .inr ⟨id,cap,c,T,fz,h1,by simp [aae,hk,h2],h3⟩
theorem aqK {own:List Nat} (hc:Core W X Z0 μ Z L.heap w) (hr:∀ t,bh Z μ w (L.slot t) (a.tmps.getD t undef)) {Z1:Nat->Prop} {H1:bW} (wT:Core W X Z0 μ Z1 H1 w) (hz:∀ id,Z id->Z1 id) :
  ∀ (rs:List ResultVar) (xs ys:List LV),zH P L rs xs->afg H1 own xs ys ->
  ∃ us,(rs.mapM (aaf a.tmps)).run P w=.ok us w/\gu Z1 (aae μ own) w ys us
 | _,_,_,.nil,.nil=>⟨[],rfl,rfl⟩
 | _,_,_,.cons (vs:=vs) (xs:=xs) h t,.cons (ys:=ys) h' t'=>by
   obtain⟨u,q1,q2⟩:=al1 hc hr h h'.ne
   obtain⟨us,q3,q4⟩:=aqK hc hr wT hz _ _ _ t t'
   refine⟨u :: us,?_,u,us,rfl,h'.sound wT (q2.mono hz (fun _ _ h=>h) ⟨fun _ _=>rfl,(Frame.refl Z μ w).m⟩),q4⟩
   rw [awv,Sem.run_bind,q1]
   simp only [Result.andThen_ok,Sem.run_bind,q3,Sem.run_pure]
theorem ajD:∀ (args:List LV) (vs us:List Value),gu Z μ w args vs->∀ t,bh Z μ w ((zY args).slot t) ((vs++us).toArray.getD t undef)
 | [],_,us,h,t=>by simp only [zY,List.getD_nil];trivial
 | x :: xs,_,us,⟨v,ks,e,h1,h2⟩,t=>by
   subst e
   cases t with
   | zero =>
    have:∀ l,x≠.bf l:=fun l e=>by subst e;have:=h1.2 rfl;simp [aB] at this
    simpa [zY] using bh.tw this h1
   | succ t =>
    have:=ajD xs ks us h2 t
    simpa [zY] using this
theorem ab8:∀ (args:List LV) (vs:List Value),gu Z μ w args vs->vs.length=args.length
 | [],_,h=>by cases h;rfl
 | _ :: xs,_,⟨v,ks,e,_,h2⟩=>by subst e;simp [ab8 xs ks h2]
theorem ay6 {f:FuncId} {fn:Func} {c:Code} {args:List LV} {r:LV} {bs:List bg} (iY:P.follows .mixedOrders=true) (hf:P.funcs[f]?=some fn) (hb:fn.body=some c)
  (hn:(fn.name== "runtime.NumGoroutine")=false) (hd:lV fn.ntmps c=true) (hlen:args.length<=fn.ntmps)
  (h:cP P c (fun e L=>match e with | .exit _=>False | _=>qc P fn.results.toList L r bs) (zY args)):pW P f args r bs:=by
 refine⟨⟨fn,hf,by rw [hb];rfl,hn⟩,fun W Z0 vs hz hargs=>?_⟩
 have sN:=ab8 _ _ hargs
 refine calls_of_wp hf hb ?_
 have pV:gi fn.ntmps W XS.no Z0 (zY args) ⟨vs.toArray++rL (fn.ntmps-vs.toArray.size) undef,[]⟩ W:=by
  have jn:∀ {p:Prop} (b id:Nat),(fun _:Nat=>(none:Option Nat)) b=some id->p:=fun b id h=>by cases h
  refine⟨rfl,by simp;omega,fun _=>none,Z0,⟨Kept.refl _ _,hz,fun _ h=>h,fun _ h=>.inl h,fun b _ id h _=>jn b id h,fun b id h=>jn b id h,fun b id h _=>jn b id h,fun _ h=>(XS.ae2 h).elim,fun _ h=>False.elim h,
   fun b id _ h _ _=>jn b id h,fun b id _ h _ _=>jn b id h,fun b id h=>jn b id h⟩,fun t=>?_⟩
  have e:vs.toArray++rL (fn.ntmps-vs.toArray.size) undef=(vs++ay (fn.ntmps-vs.toArray.size) undef).toArray:=by apply vC;simp
  show bh Z0 (fun _=>none) W ((zY args).slot t) ((vs.toArray++rL (fn.ntmps-vs.toArray.size) undef).getD t undef)
  rw [e]
  exact ajD (Z:=Z0) (μ:=fun _=>none) (w:=W) args vs _ hargs t
 refine wp_mono (aaq iY c _ _ _ _ pV h hd) fun e a w q=>?_
 have main:∀ L,qc P fn.results.toList L r bs->gi fn.ntmps W XS.no Z0 L a w ->
   a.defers=[]/\∃ v,(results fn a.tmps).run P w=.ok v w/\∃ v' μ Z,Ending.returned v=.returned v'/\Core W XS.no Z0 μ Z (p7 bs) w/\bh Z μ w r v':=by
  rintro L ⟨xs,ys,H1,own,h1,h2,h3,h4,h5,h6,h7⟩ ⟨ey,bI,μ,Z,hc,hr⟩
  obtain⟨Z1,k1,k2⟩:=hc.xW h2
  obtain⟨us,q1,q2⟩:=aqK hc hr k1 k2 _ _ _ h1 h3
  have hinv:∀ k id,aae μ own k=some id->∃ b,k≠0/\own[k-1]?=some b/\μ b=some id:=fun k id hk=>by
   unfold aae at hk
   split at hk
   ·cases hk
   ·rename_i h0
    rw [Option.bind_eq_some_iff] at hk
    obtain⟨b,g1,g2⟩:=hk
    exact⟨b,h0,g1,g2⟩
  have anh:∀ k b,k≠0->own[k-1]?=some b->∃ blk,H1 b=some blk/\p7 bs k=some blk/\aN blk.vals=true:=fun k b h0 hb=>by
   obtain⟨blk,g1,g2,g3⟩:=h6 _ b hb
   exact⟨blk,g1,by simp [p7,h0,g2],g3⟩
  have anL:Core W XS.no Z0 (aae μ own) Z1 (p7 bs) w:=by
   refine⟨k1.cE,k1.mc,k1.jS,k1.me,?_,?_,fun _ _ _ h=>h.elim,fun _ h=>(XS.ae2 h).elim,fun _ h=>h.elim,?_,?_,?_⟩
   ·intro k k' id hk nu
    obtain⟨b,g0,g1,g2⟩:=hinv k id hk
    obtain⟨b',g0',g1',g2'⟩:=hinv k' id nu
    have:=k1.inj b b' id g2 g2'
    subst this
    obtain⟨l1,e1⟩:=pj.1 g1
    obtain⟨l2,e2⟩:=pj.1 g1'
    have hp:=List.pairwise_iff_getElem.1 h4
    rcases Nat.lt_trichotomy (k-1) (k'-1) with h | h | h
    ·exact absurd (e1.trans e2.symm) (hp _ _ l1 l2 h)
    ·omega
    ·exact absurd (e2.trans e1.symm) (hp _ _ l2 l1 h)
   ·intro k id hk
    obtain⟨b,g0,g1,g2⟩:=hinv k id hk
    exact k1.own b id g2
   ·intro k id blk hk hb hm
    obtain⟨b,g0,g1,g2⟩:=hinv k id hk
    obtain⟨blk',j1,j2,_⟩:=anh k b g0 g1
    rw [hb] at j2;cases j2
    exact k1.jD b id blk g2 j1 hm
   ·intro k id blk hk hb hm
    obtain⟨b,g0,g1,g2⟩:=hinv k id hk
    obtain⟨blk',j1,j2,_⟩:=anh k b g0 g1
    rw [hb] at j2;cases j2
    exact k1.cd b id blk g2 j1 hm
   ·intro k id hk
    obtain⟨b,g0,g1,g2⟩:=hinv k id hk
    obtain⟨blk',j1,j2,j3⟩:=anh k b g0 g1
    obtain⟨bk,l1,cc,T,part,rest,l2,l3,l4⟩:=k1.heap b id g2
    rw [j1] at l1;cases l1
    exact⟨_,j2,cc,T,part,rest,l2,l3,aS.kW (fun _ h=>h) (fun _ _=>rfl) _ _ _ j3 l4⟩
  have qT:(fn.results.mapM (aaf a.tmps)).run P w=.ok us.toArray w:=by
   rw [axb,Sem.run_map,q1];rfl
  refine⟨ey,(if h:us.toArray.size=1 then us.toArray[0] else .tuple us.toArray),?_,_,aae μ own,Z1,rfl,anL,?_⟩
  ·rw [akL,Sem.run_bind,qT]
   rfl
  ·subst h7
   have zT:=ab8 _ _ q2
   match ys,us,q2,zT with
   | [y],[u],q2,_ =>
    obtain⟨v,ks,e,g1,g2⟩:=q2
    simp only [fP] at e
    obtain⟨rfl,_⟩:=e
    have hnt:∀ l,y≠.bf l:=fun l e=>by subst e;have:=g1.2 rfl;simp [aB] at this
    exact bh.tw hnt g1
   | [],[],q2,_=>exact⟨_,rfl,by simpa using q2⟩
   | y :: y' :: ys,u :: u' :: us,q2,_ =>
    refine⟨(u :: u' :: us).toArray,by simp,by simpa using q2⟩
 cases e with
 | normal=>obtain⟨L,q1,q2⟩:=q;exact main L q1 q2
 | ret=>obtain⟨L,q1,q2⟩:=q;exact main L q1 q2
 | exit id=>obtain⟨L,q1,q2⟩:=q;exact q1.elim
 | _=>exact q.elim
def StM (args:List LV) (blk:bg):St:=⟨fun t=>args.getD t .any,fun n=>if n=0 then some blk else none⟩
def zi (P:Program) (rs:List ResultVar) (L:St) (r:LV) (blk':bg):Prop :=
 ∃ (xs ys:List LV) (H1:bW),zH P L rs xs/\L.heap.le H1/\x7 H1 0 xs ys/\H1 0=some blk'/\blk'.mt=true/\aN blk'.vals=true/\r=ahr ys
theorem asE {i0:Nat} (hc:Core W X Z0 μ Z L.heap w) (hr:∀ t,bh Z μ w (L.slot t) (a.tmps.getD t undef)) {Z1:Nat->Prop} {H1:bW} (wT:Core W X Z0 μ Z1 H1 w) (hz:∀ id,Z id->Z1 id) (h0:μ 0=some i0) :
  ∀ (rs:List ResultVar) (xs ys:List LV),zH P L rs xs->x7 H1 0 xs ys ->
  ∃ us,(rs.mapM (aaf a.tmps)).run P w=.ok us w/\gu Z1 (wj i0) w ys us
 | _,_,_,.nil,.nil=>⟨[],rfl,rfl⟩
 | _,_,_,.cons (vs:=vs) (xs:=xs) h t,.cons (ys:=ys) h' t'=>by
   obtain⟨u,q1,q2⟩:=al1 hc hr h h'.ne
   obtain⟨us,q3,q4⟩:=asE hc hr wT hz h0 _ _ _ t t'
   refine⟨u :: us,?_,u,us,rfl,h'.sound wT h0 (bh.tw h'.ne.2 (q2.mono hz (fun _ _ h=>h) ⟨fun _ _=>rfl,(Frame.refl Z μ w).m⟩)),q4⟩
   rw [awv,Sem.run_bind,q1]
   simp only [Result.andThen_ok,Sem.run_bind,q3,Sem.run_pure]
theorem aGh {f:FuncId} {fn:Func} {c:Code} {args:List LV} {r:LV} {blk blk':bg} (iY:P.follows .mixedOrders=true) (hf:P.funcs[f]?=some fn) (hb:fn.body=some c)
  (hn:(fn.name== "runtime.NumGoroutine")=false) (hd:lV fn.ntmps c=true) (hlen:args.length<=fn.ntmps) (fQ:blk.mt=true)
  (h:cP P c (fun e L=>match e with | .exit _=>False | _=>zi P fn.results.toList L r blk') (StM args blk)):nO P f blk args r blk':=by
 refine⟨⟨fn,hf,by rw [hb];rfl,hn⟩,fun W Z0 vs i0 hz sY oC hargs=>?_⟩
 have sN:=ab8 _ _ hargs
 refine calls_of_wp hf hb ?_
 have iB:∀ b id,wj i0 b=some id->b=0/\id=i0:=fun b id h=>by
  unfold wj at h;split at h
  ·cases h;exact⟨by assumption,rfl⟩
  ·cases h
 have bH:i0<W.heap.size:=by
  obtain⟨c,T,part,rest,h1,_⟩:=oC
  exact(nA.1 h1).1
 have pV:gi fn.ntmps W (XS.one i0) Z0 (StM args blk) ⟨vs.toArray++rL (fn.ntmps-vs.toArray.size) undef,[]⟩ W:=by
  refine⟨rfl,by simp;omega,wj i0,Z0,⟨Kept.refl _ _,hz,fun _ h=>h,fun _ h=>.inl h,fun b b' id h h'=>(iB b id h).1.trans (iB b' id h').1.symm,fun b id h=>.inr (.inl (iB b id h).2),
   fun b id h _=>(iB b id h).1,fun id h=>by rw [XS.ayx h];exact bH,fun id h=>by rw [show id=i0 from h];rfl,fun b id bk h _ _=>by rw [(iB b id h).2];exact sY,
   fun b id bk h g hm=>?_,fun b id h=>?_⟩,fun t=>?_⟩
  ·obtain⟨rfl,rfl⟩:=iB b id h
   simp only [StM,if_true] at g;cases g
   rw [fQ] at hm;cases hm
  ·obtain⟨rfl,rfl⟩:=iB b id h
   exact⟨blk,rfl,oC⟩
  ·have e:vs.toArray++rL (fn.ntmps-vs.toArray.size) undef=(vs++ay (fn.ntmps-vs.toArray.size) undef).toArray:=by apply vC;simp
   show bh Z0 (wj i0) W ((zY args).slot t) ((vs.toArray++rL (fn.ntmps-vs.toArray.size) undef).getD t undef)
   rw [e]
   exact ajD args vs _ hargs t
 refine wp_mono (aaq iY c _ _ _ _ pV h hd) fun e a w q=>?_
 have main:∀ L,zi P fn.results.toList L r blk'->gi fn.ntmps W (XS.one i0) Z0 L a w ->
   a.defers=[]/\∃ v,(results fn a.tmps).run P w=.ok v w/\∃ v' μ Z,Ending.returned v=.returned v'/\Core W (XS.one i0) Z0 μ Z (acN blk') w/\bh Z μ w r v':=by
  rintro L ⟨xs,ys,H1,h1,h2,h3,h4,h5,h6,h7⟩ ⟨ey,bI,μ,Z,hc,hr⟩
  obtain⟨Z1,k1,k2⟩:=hc.xW h2
  have h0:=k1.x1 i0 rfl
  obtain⟨us,q1,q2⟩:=asE hc hr k1 k2 h0 _ _ _ h1 h3
  have anL:Core W (XS.one i0) Z0 (wj i0) Z1 (acN blk') w:=by
   refine⟨k1.cE,k1.mc,k1.jS,k1.me,fun b b' id h h'=>(iB b id h).1.trans (iB b' id h').1.symm,fun b id h=>.inr (.inl (iB b id h).2),fun b id h _=>(iB b id h).1,k1.oZ,fun id h=>by rw [show id=i0 from h];rfl,?_,?_,?_⟩
   ·intro b id bk h g hm
    obtain⟨rfl,rfl⟩:=iB b id h
    exact k1.jD 0 id blk' h0 h4 h5
   ·intro b id bk h g hm
    obtain⟨rfl,rfl⟩:=iB b id h
    simp only [acN,if_true] at g;cases g
    rw [h5] at hm;cases hm
   ·intro b id h
    obtain⟨rfl,rfl⟩:=iB b id h
    obtain⟨bk,l1,cc,T,part,rest,l2,l3,l4⟩:=k1.heap 0 id h0
    rw [h4] at l1;cases l1
    exact⟨_,rfl,cc,T,part,rest,l2,l3,aS.kW (fun _ h=>h) (fun _ _=>rfl) _ _ _ h6 l4⟩
  have qT:(fn.results.mapM (aaf a.tmps)).run P w=.ok us.toArray w:=by
   rw [axb,Sem.run_map,q1];rfl
  refine⟨ey,(if h:us.toArray.size=1 then us.toArray[0] else .tuple us.toArray),?_,_,wj i0,Z1,rfl,anL,?_⟩
  ·rw [akL,Sem.run_bind,qT]
   rfl
  ·subst h7
   have zT:=ab8 _ _ q2
   match ys,us,q2,zT with
   | [y],[u],q2,_ =>
    obtain⟨v,ks,e,g1,g2⟩:=q2
    simp only [fP] at e
    obtain⟨rfl,_⟩:=e
    have hnt:∀ l,y≠.bf l:=fun l e=>by subst e;have:=g1.2 rfl;simp [aB] at this
    exact bh.tw hnt g1
   | [],[],q2,_=>exact⟨_,rfl,by simpa using q2⟩
   | y :: y' :: ys,u :: u' :: us,q2,_ =>
    refine⟨(u :: u' :: us).toArray,by simp,by simpa using q2⟩
 cases e with
 | normal=>obtain⟨L,q1,q2⟩:=q;exact main L q1 q2
 | ret=>obtain⟨L,q1,q2⟩:=q;exact main L q1 q2
 | exit id=>obtain⟨L,q1,q2⟩:=q;exact q1.elim
 | _=>exact q.elim
end
end Go.Lg
namespace Go.Lg
def St.cd (L:St) (bs:List Nat):St:=⟨L.slot,fun c=>(L.heap c).map fun blk=>⟨blk.sz,blk.vals,blk.mt && !bs.contains c⟩⟩
section
variable {P:Program} {dr:Bool} {ops:Array Oper} {rest:List Oper} {L:St} {K:St->Prop} {dst:Option Tmp} {ty:TypeId} {pos:String} {af:Array Edge} {g:Option (Nat × Bool)}
theorem tb (bs:List Nat) (h0:bs.contains 0=false):L.heap.le (L.cd bs).heap:=fun b blk h=>by
 refine⟨blk.mt && !bs.contains b,by simp [St.cd,h],fun e=>by simp [e],fun e1 e2=>?_⟩
 rintro rfl
 rw [e1,h0] at e2;cases e2
theorem ak {op:Op} {r:LV} (hg:ef ops L ⟨dst,op,ty,pos,af,g⟩ true) (h:aF P L.heap L.ev op r) (k:opsL P dr ops rest (L.put dst r) K) :
  opsL P dr ops (⟨dst,op,ty,pos,af,g⟩ :: rest) L K:=by
 refine⟨L.put dst r,.val hg (bW.le_refl _) (fr:=[]) (fun _ _ h=>by cases h) (.pure h) ?_,k⟩
 cases dst<;>rfl
theorem ze {op:Op} (hg:ef ops L ⟨dst,op,ty,pos,af,g⟩ false) (k:opsL P dr ops rest (L.put dst (.bf [])) K):opsL P dr ops (⟨dst,op,ty,pos,af,g⟩ :: rest) L K :=
 ⟨_,.skip hg rfl,k⟩
theorem auz {op:Op} {L':St} (hg:ef ops L ⟨dst,op,ty,pos,af,g⟩ true) (hd:dr=false) (h:OpM P L dst op L') (k:opsL P dr ops rest L' K):opsL P dr ops (⟨dst,op,ty,pos,af,g⟩ :: rest) L K:=⟨L',.stM hd hg h,k⟩
theorem fL {op:Op} {d:Nat} {r:LV} {blk:bg} (hg:ef ops L ⟨some d,op,ty,pos,af,g⟩ true) (hd:L.heap d=none) (h:dE P L.ev d op r blk)
  (k:opsL P dr ops rest ((L.bO d (some blk)).put (some d) r) K):opsL P dr ops (⟨some d,op,ty,pos,af,g⟩ :: rest) L K:=by
 refine⟨_,.val hg (r:=r) (fr:=[(d,blk)]) (H1:=(L.bO d (some blk)).heap) ?_ ?_ (.alloc h) ?_,k⟩
 ·intro b bk hb
  have:b≠d:=by rintro rfl;rw [hd] at hb;cases hb
  exact⟨bk.mt,by simp only [St.bO,if_neg this];exact hb,fun h=>h,fun h1 h2=>by rw [h1] at h2;cases h2⟩
 ·intro b bk hb
  simp only [gS,af8] at hb
  obtain⟨rfl,rfl⟩:=hb
  exact⟨hd,bk.mt,by simp [St.bO],fun h=>h⟩
 ·rfl
theorem oD {op:Op} {r r':LV} (bs:List Nat) (hg:ef ops L ⟨dst,op,ty,pos,af,g⟩ true) (h0:bs.contains 0=false) (h:OpC P (L.cd bs).heap L.ev (dst.getD 0) op r []) (hr:r=r')
  (k:opsL P dr ops rest ((L.cd bs).put dst r') K):opsL P dr ops (⟨dst,op,ty,pos,af,g⟩ :: rest) L K:=by
 subst hr
 refine⟨(L.cd bs).put dst r,.val hg (r:=r) (fr:=[]) (H1:=(L.cd bs).heap) (tb bs h0) (fun _ _ h=>by cases h) (.call h) ?_,k⟩
 cases dst<;>rfl
theorem atY {f:FuncId} {xs:Array Operand} {as:Array TypeId} {args:List LV} {r:LV} (bs:List Nat) (hg:ef ops L ⟨dst,.call ⟨.value (.func f),xs,as⟩,ty,pos,af,g⟩ true) (h0:bs.contains 0=false)
  (ha:fY (L.cd bs).heap (xs.toList.map L.ev) args) (hk:pW P f args r []) (hr:r.bV (eE (dst.getD 0))=r)
  (k:opsL P dr ops rest ((L.cd bs).put dst r) K):opsL P dr ops (⟨dst,.call ⟨.value (.func f),xs,as⟩,ty,pos,af,g⟩ :: rest) L K :=
 oD bs hg h0 (.func ha hk aM aM) hr k
theorem adx:L.cd []=L:=by
 cases L
 simp only [St.cd,St.mk.injEq,true_and]
 funext c
 rename_i s h
 cases h c<;>simp
theorem aBB {f:FuncId} {xs:Array Operand} {as:Array TypeId} {args:List LV} {r:LV} (hg:ef ops L ⟨dst,.call ⟨.value (.func f),xs,as⟩,ty,pos,af,g⟩ true)
  (ha:fY L.heap (xs.toList.map L.ev) args) (hk:pW P f args r []) (hr:r.bV (eE (dst.getD 0))=r)
  (k:opsL P dr ops rest (L.put dst r) K):opsL P dr ops (⟨dst,.call ⟨.value (.func f),xs,as⟩,ty,pos,af,g⟩ :: rest) L K :=
 atY [] hg rfl (by rw [adx];exact ha) hk hr (by rw [adx];exact k)
theorem aba {f:FuncId} {xs:Array Operand} {as:Array TypeId} {args:List LV} {r:LV} {blk:bg} {d:Nat} (bs:List Nat) (hg:ef ops L ⟨some d,.call ⟨.value (.func f),xs,as⟩,ty,pos,af,g⟩ true) (h0:bs.contains 0=false)
  (ha:fY (L.cd bs).heap (xs.toList.map L.ev) args) (hk:pW P f args r [blk]) (hp:aN blk.vals=true) (hd:L.heap (eE d 1)=none)
  (k:opsL P dr ops rest (((L.cd bs).bO (eE d 1) (some blk)).put (some d) (r.bV (eE d))) K):opsL P dr ops (⟨some d,.call ⟨.value (.func f),xs,as⟩,ty,pos,af,g⟩ :: rest) L K:=by
 have iU:(L.cd bs).heap (eE d 1)=none:=by simp [St.cd,hd]
 refine⟨_,.val hg (r:=r.bV (eE d)) (fr:=[blk].mapIdx fun i blk=>(eE d (i+1),blk)) (H1:=((L.cd bs).bO (eE d 1) (some blk)).heap) (bW.le_trans (tb bs h0) ?_) ?_
  (.call (.func (fY.le ?_ ha) hk aM (by simpa using hp))) ?_,k⟩
 ·exact afo iU
 ·intro b bk hb
  simp only [List.mapIdx_cons,List.mapIdx_nil,gS,af8] at hb
  obtain⟨rfl,rfl⟩:=hb
  exact⟨hd,bk.mt,by simp [St.bO],fun h=>h⟩
 ·exact afo iU
 ·rfl
theorem bS {op:Op} {L':St} (hg:ef ops L ⟨dst,op,ty,pos,af,g⟩ true) (h:g7 P L dst op L') (k:opsL P dr ops rest L' K):opsL P dr ops (⟨dst,op,ty,pos,af,g⟩ :: rest) L K :=
 ⟨_,.st hg h,k⟩
theorem ye {f:FuncId} {xs:Array Operand} {as:Array TypeId} {args:List LV} {r:LV} {ops:Array Oper} (b:Nat) {blk blk':bg} (hg:ef ops L ⟨dst,.call ⟨.value (.func f),xs,as⟩,ty,pos,af,g⟩ true)
  (hb:L.heap b=some blk) (hm:blk.mt=true) (hp:aN blk.vals=true) (ha:x7 L.heap b (xs.toList.map L.ev) args) (hn:Names b (xs.toList.map L.ev)) (hk:nO P f blk args r blk')
  (qH:blk'.mt=true) (kG:aN blk'.vals=true) (k:opsL P false ops rest ((L.bO b (some blk')).put dst (r.bV fun _=>b)) K) :
  opsL P false ops (⟨dst,.call ⟨.value (.func f),xs,as⟩,ty,pos,af,g⟩ :: rest) L K :=
 ⟨_,.stM rfl hg (.call hb hm hp ha hn hk qH kG),k⟩
theorem aK (k:K L):opsL P dr ops [] L K:=k
end
structure iZ {α:Type} (e:α->LV) (sz:Nat) (ag:Bool):Prop where
 aw:∀ a,(e a).aw=sz
 isAgg:∀ a,(e a).isAgg=ag
 pure:∀ a,(e a).pure=true
theorem a7 {α:Type} {e:α->LV} {sz:Nat} {ag:Bool} (h:iZ e sz ag) (l:List α):aN (l.map e)=true:=by
 rw [zp];intro x hx
 obtain⟨a,_,rfl⟩:=cQ.1 hx
 exact h.pure a
theorem al7 (x:LV) (h:x.pure=true):x.at 0 x.aw x.isAgg=some x:=by
 cases x<;>simp_all [LV.at,LV.aw,LV.isAgg,LV.pure]
theorem ags (x y:LV) (h1:x.aw=y.aw) (h2:x.isAgg=y.isAgg):x.put 0 y=some y:=by
 cases x<;>simp_all [LV.put,LV.aw,LV.isAgg]
section
variable {P:Program} {H:bW} {ρ:Operand->LV} {α:Type} {e:α->LV}
theorem aF.amv [Inhabited α] {T E:TypeId} {x i:Operand} {sz:Nat} {l:List α} {k:IntKind} {n:Int} {ag:Bool} (he:iZ e sz ag) (hx:ρ x=.list sz (l.map e)) (hT:P.underlying T=some (.slice E)) (hE:bE P E sz ag)
  (hi:ρ i=.v (.int k n)) (h0:0<=n) (hn:n<l.length):aF P H ρ (.indexAddr T x i) (.cr (e (l.getD n.toNat default))):=by
 have bH:n.toNat<l.length:=by omega
 refine .kQ hx hT hE hi h0 ?_ (he.aw _)
 rw [g8,b7 bH,bp,b7 bH];rfl
theorem aF.ahY {T:TypeId} {p:Operand} {sz:Nat} {ag:Bool} {a:α} (he:iZ e sz ag) (hp:ρ p=.cr (e a)) (hT:bE P T sz ag):aF P H ρ (.load T p) (e a) :=
 .z5 hp (by rw [he.aw,he.isAgg];exact hT) (he.pure a)
theorem aF.atE [Inhabited α] {T:TypeId} {p:Operand} {b sz i:Nat} {l:List α} {m:Bool} {ag:Bool} (he:iZ e sz ag) (hp:ρ p=.aD b sz i 0) (hb:H b=some ⟨sz,l.map e,m⟩) (hT:bE P T sz ag)
  (hi:i<l.length):aF P H ρ (.load T p) (e (l.getD i default)):=by
 have hv:(l.map e)[i]?=some (e (l.getD i default)):=by
  rw [g8,b7 hi,bp,b7 hi];rfl
 refine .gj (blk:=⟨sz,l.map e,m⟩) (n:=sz) (ag:=ag) hp hb rfl hv (he.aw _) ?_ hT
 have:=al7 (e (l.getD i default)) (he.pure _)
 rwa [he.aw,he.isAgg] at this
theorem g7.az4 [Inhabited α] {L:St} {dst:Option Tmp} {T:TypeId} {p x:Operand} {b sz i:Nat} {l:List α} {ag:Bool} {a:α} (he:iZ e sz ag) (hp:L.ev p=.aD b sz i 0) (hb:L.heap b=some ⟨sz,l.map e,true⟩)
  (hx:L.ev x=e a) (hT:bE P T sz ag) (hi:i<l.length):g7 P L dst (.store T p x) ((L.bO b (some ⟨sz,(l.set i a).map e,true⟩)).put dst .any):=by
 have hv:(l.map e)[i]?=some (e l[i]):=by rw [g8,b7 hi];rfl
 have:=g7.store (P:=P) (L:=L) (dst:=dst) (T:=T) (p:=p) (x:=x) (y':=e a) hp hb rfl rfl hv (he.aw _) (by rw [hx];exact ags _ _ (by rw [he.aw,he.aw]) (by rw [he.isAgg,he.isAgg]))
  (by rw [hx,he.aw,he.isAgg];exact hT) (by rw [hx];exact⟨LV.fp (he.pure _),LV.eW (he.pure _)⟩)
 rwa [<-List.map_set] at this
theorem dE.aor {T E:TypeId} {x c:Operand} {kl kc:IntKind} {d sz dP n m:Nat} {ag:Bool} {z:α} (he:iZ e sz ag) (hT:P.underlying T=some (.slice E)) (hz:dp P E (e z)) (hE:bE P E sz ag) (hb:mT P E dP)
  (hl:ρ x=.v (.int kl (n:Nat))) (hc:ρ c=.v (.int kc (m:Nat))) (kK:n<=m) (hm:dP*m<=281474976710656) (fe:m<=9223372036854775807) :
  dE P ρ d (.makeSlice T x c) (.ref d sz 0 n) ⟨sz,(ay n z).map e,true⟩:=by
 rw [List.map_replicate]
 exact .make hT hz (by rw [he.isAgg];exact hE) (he.aw z) hb hl hc kK hm fe
theorem dE.anZ {T E:TypeId} {x:Operand} {d sz:Nat} {ag:Bool} {z a:α} (he:iZ e sz ag) (hT:P.underlying T=some (.slice E)) (hz:dp P E (e z)) (hE:bE P E sz ag) (hx:ρ x=e a) (dO:0<sz) (kT:sz<=1000) :
  dE P ρ d (.buildSlice T 1 #[(0,x)]) (.ref d sz 0 1) ⟨sz,[a].map e,true⟩:=by
 have:=dE.lit (P:=P) (ρ:=ρ) (d:=d) (T:=T) (n:=1) (ps:=#[(0,x)]) hT hz (by rw [he.isAgg];exact hE) (he.aw z) ae ae dO (by
  intro p hp
  simp only [gS] at hp
  subst hp
  refine⟨by simp,?_,by rw [hx];exact LV.fp (he.pure _),by rw [hx];exact LV.eW (he.pure _)⟩
  simp [lay,hx,he.aw,he.isAgg])
 simpa [kh,hx,ay] using this
end
section
variable {a b:Int}
theorem sW (h1:-9223372036854775808<=a+b) (h2:a+b<=9223372036854775807):dN .add .i64 a b=some (.int .i64 (a+b)):=by
 simp only [dN];rw [IntWalk.i64_in _ ⟨h1,h2⟩]
theorem aaH (h1:-9223372036854775808<=a-b) (h2:a-b<=9223372036854775807):dN .sub .i64 a b=some (.int .i64 (a-b)):=by
 simp only [dN];rw [IntWalk.i64_in _ ⟨h1,h2⟩]
theorem air (h1:-9223372036854775808<=a*b) (h2:a*b<=9223372036854775807):dN .mul .i64 a b=some (.int .i64 (a*b)):=by
 simp only [dN];rw [IntWalk.i64_in _ ⟨h1,h2⟩]
end
section
variable {P:Program} {L L0:St} {Q:ku->St->Prop} {K:St->Prop}
theorem aFS {l:List Oper} {id:Nat} (h:opsL P false l.toArray l L (Q .normal)):cP P (.region id l.toArray false) Q L:=⟨L,az.refl L,.inl ⟨fun e=>absurd e aj,h⟩⟩
theorem a9 {l:List Oper} {id:Nat} (m:Nat) (hm:zn l.toArray m []=true) (h:opsL P true l.toArray l L (Q .normal)):cP P (.region id l.toArray true) Q L:=⟨L,az.refl L,.inl ⟨fun _=>⟨m,[],hm⟩,h⟩⟩
theorem iC {l:List Oper} {id:Nat} (m:Nat) (fr:List Nat) (hm:zn l.toArray m fr=true) (h:opsL P true l.toArray l L (Q .normal)):cP P (.region id l.toArray true) Q L:=⟨L,az.refl L,.inl ⟨fun _=>⟨m,fr,hm⟩,h⟩⟩
theorem cM {l:List Oper} {id:Nat} (hw:az L L0) (h:opsL P false l.toArray l L0 (Q .normal)):cP P (.region id l.toArray false) Q L:=⟨L0,hw,.inl ⟨fun e=>absurd e aj,h⟩⟩
theorem aC0 {l:List Oper} {id:Nat} (m:Nat) (hm:zn l.toArray m []=true) (hw:az L L0) (h:opsL P true l.toArray l L0 (Q .normal)):cP P (.region id l.toArray true) Q L:=⟨L0,hw,.inl ⟨fun _=>⟨m,[],hm⟩,h⟩⟩
theorem ab3 {ops:Array Oper} {id:Nat} (h:jx P ops ops.size (rL ops.size false) L (Q .normal)):cP P (.region id ops true) Q L:=⟨L,az.refl L,.inr (.inl ⟨rfl,h⟩)⟩
theorem aiY {ops:Array Oper} {id:Nat} {d:Bool} (h:∀ n W X Z0 a w,gi n W X Z0 L a w->lV n (.region 0 ops d)=true->∀ id,(Code.region id ops d).wp P (acV n W X Z0 Q) a w):cP P (.region id ops d) Q L:=⟨L,az.refl L,.inr (.inr h)⟩
def asi (P:Program) (l:List Oper) (m b:Nat) (fr:List Nat) (x0:bg) (K:St->Prop) (Lm:St):Prop :=
 Lm.heap b=none/\(fr.all fun j=>match (l.toArray.getD j default).dst with | some d=>(Lm.heap (eE d 1)).isNone | none=>true)=true /\
  (∀ om,l.toArray[m]?=some om->∃ T p v i o,om.op=.store T p v/\Lm.ev p=.aD b x0.sz i o)/\opsL P true l.toArray (l.drop m) (Lm.bO b (some x0)) K
theorem aBT {l:List Oper} {id:Nat} (iY:P.follows .mixedOrders=true) (m b:Nat) (fr:List Nat) {x0:bg} (hm:alo l.toArray m fr=true) (hb:L.heap b=some x0)
  (h:opsL P true l.toArray (l.take m) (L.bO b none) (asi P l m b fr x0 (Q .normal))):cP P (.region id l.toArray true) Q L:=by
 refine aiY fun n W X Z0 a w hs hd id=>?_
 have iU:∀ o∈l.toArray.toList,∀ t,o.dst=some t->t<n:=fun o ho t ht=>by
  simp only [lV,pO] at hd
  have:=hd o ho
  rw [ht] at this
  simpa using this
 exact aIe iY hm hs hb h iU (fun L' a' w' hk mJ=>⟨L',hk,mJ⟩)
theorem aIM {l:List Oper} {m b:Nat} {fr:List Nat} {x0:bg} {K:St->Prop} {ops:Array Oper} (h1:L.heap b=none) (h2:(fr.all fun j=>match (l.toArray.getD j default).dst with | some d=>(L.heap (eE d 1)).isNone | none=>true)=true)
  (h3:∀ om,l.toArray[m]?=some om->∃ T p v i o,om.op=.store T p v/\L.ev p=.aD b x0.sz i o) (h4:opsL P true l.toArray (l.drop m) (L.bO b (some x0)) K):opsL P true ops [] L (asi P l m b fr x0 K):=⟨h1,h2,h3,h4⟩
theorem aI0 {x y:Code} (h:cP P x (qi (cP P y Q) Q) L):cP P (.seq x y) Q L:=h
theorem aly {c:Operand} {x y:Code} {t:Bool} (hc:L.ev c=.v (.bool t)) (h1:t=true->cP P x Q L) (h2:t=false->cP P y Q L):cP P (.cond c x y) Q L:=⟨t,hc,h1,h2⟩
theorem aA2 {c:Code} {id:Nat} (h:cP P c (s7 id Q) L):cP P (.block id c) Q L:=h
theorem aDl (h:Q .normal L):cP P .skip Q L:=h
theorem aFP (h:Q .ret L):cP P .ret Q L:=h
theorem aBa {id:Nat} (h:Q (.exit id) L):cP P (.exit id) Q L:=h
theorem aFU (h:K L):qi K Q .normal L:=h
theorem aGF {i:Nat} (h:Q (.exit i) L):qi K Q (.exit i) L:=h
theorem aKo (h:Q .ret L):qi K Q .ret L:=h
theorem aAq {id:Nat} (h:Q .normal L):s7 id Q .normal L:=h
theorem aBE {id:Nat} (h:Q .ret L):s7 id Q .ret L:=h
theorem aGL {id:Nat} (h:Q .normal L):s7 id Q (.exit id) L:=by simp only [s7,if_pos];exact h
theorem aEl {id i:Nat} (aX:i≠id) (h:Q (.exit i) L):s7 id Q (.exit i) L:=by simp only [s7,if_neg aX];exact h
theorem acf:∀ {c:Code} {Q Q':ku->St->Prop} {L:St},(∀ e L,Q e L->Q' e L)->cP P c Q L->cP P c Q' L:=by
 intro c
 induction c with
 | skip=>exact fun hq h=>hq _ _ h
 | region id ops d=>exact fun hq ⟨L0,a,h⟩=>⟨L0,a,h.imp (fun⟨b,h⟩=>⟨b,ato (hq _) _ _ h⟩) (fun h=>h.imp (fun⟨b,h⟩=>⟨b,aoM (hq _) _ _ _ h⟩) (fun h n W X Z0 a w hs hd id=>wp_mono (h n W X Z0 a w hs hd id) fun e a w p=>by
  cases e with
  | normal=>obtain⟨L,q1,q2⟩:=p;exact⟨L,hq _ _ q1,q2⟩
  | exit i=>obtain⟨L,q1,q2⟩:=p;exact⟨L,hq _ _ q1,q2⟩
  | ret=>obtain⟨L,q1,q2⟩:=p;exact⟨L,hq _ _ q1,q2⟩
  | _=>exact p.elim))⟩
 | seq x y ihx ihy =>
  intro Q Q' L hq h
  refine ihx (fun e L h=>?_) h
  cases e with
  | normal=>exact ihy hq h
  | exit i=>exact hq _ _ h
  | ret=>exact hq _ _ h
 | cond c x y ihx ihy=>exact fun hq ⟨t,a,b,c⟩=>⟨t,a,fun e=>ihx hq (b e),fun e=>ihy hq (c e)⟩
 | block id c ih =>
  intro Q Q' L hq h
  refine ih (fun e L h=>?_) h
  cases e with
  | normal=>exact hq _ _ h
  | exit i =>
   simp only [s7] at h ⊢
   split
   ·rename_i e;rw [if_pos e] at h;exact hq _ _ h
   ·rename_i e;rw [if_neg e] at h;exact hq _ _ h
  | ret=>exact hq _ _ h
 | loop c ih =>
  intro Q Q' L hq h I hI
  refine h I fun L hL=>hI L (ih (fun e L h=>?_) hL)
  cases e with
  | normal=>exact h
  | exit i=>exact hq _ _ h
  | ret=>exact hq _ _ h
 | exit id=>exact fun hq h=>hq _ _ h
 | ret=>exact fun hq h=>hq _ _ h
 | rangeFunc=>exact fun _ h=>h.elim
 | scope=>exact fun _ h=>h.elim
 | label=>exact fun _ h=>h.elim
 | goto=>exact fun _ h=>h.elim
 | refuse=>exact fun _ h=>h.elim
theorem agZ {c:Code} {α:Type} (S:α->St->St) (C:α->Prop) (μ:α->Nat) (a0:α) (hC:C a0) (h0:∃ L1,az L (S a0 L1))
  (hr:∀ a L1,C a->cP P c (qi (fun L'=>∃ a' L2,C a'/\μ a'<μ a/\az L' (S a' L2)) Q) (S a L1)):cP P (.loop c) Q L:=by
 obtain⟨L1,h1⟩:=h0
 intro I hI
 have key:∀ n a L1,μ a=n->C a->I (S a L1):=by
  intro n
  induction n using abZ with
  | _ n ih =>
   intro a L1 hn hCa
   refine hI _ (acf (fun e L h=>?_) (hr a L1 hCa))
   cases e with
   | normal =>
    obtain⟨a',L2,g1,g2,g3⟩:=h
    exact⟨_,g3,ih _ (hn ▸ g2) a' L2 rfl g1⟩
   | exit i=>exact h
   | ret=>exact h
 exact⟨_,h1,key _ a0 L1 rfl hC⟩
theorem bN {c:Code} (h:cP P c (qi (cP P (.loop c) Q) Q) L):cP P (.loop c) Q L:=by
 intro I hI
 refine⟨L,az.refl L,hI L (acf (fun e L' h=>?_) h)⟩
 cases e with
 | normal=>exact h I hI
 | exit i=>exact h
 | ret=>exact h
theorem iM {c:Code} (K:St->Prop) (h:cP P c (qi K Q) L) (hk:∀ L,K L->Q .normal L):cP P c Q L :=
 acf (fun e L h=>by cases e with | normal=>exact hk L h | exit i=>exact h | ret=>exact h) h
end
theorem aAf {L:St} {t:Nat} {r:LV} (h:L.slot t=r):L.put (some t) r=L:=by
 cases L with
 | mk s hp =>
  simp only [St.put,St.mk.injEq,and_true]
  funext k
  have:=iz ⟨s,hp⟩ t r k
  simp only [St.put] at this
  rw [this]
  split
  ·rename_i hk;subst hk;exact h.symm
  ·rfl
theorem al {L L':St} {t:Nat} {r:LV} (h0:L'=L) (h:L.slot t=r):L'.put (some t) r=L:=by rw [h0];exact aAf h
theorem az.of_eq {L L':St} (h:L'=L):az L L':=by subst h;exact az.refl _
theorem aAG (L:St) (t:Nat) (r:LV) (s:Nat) (h:(s==t)=false):(L.put (some t) r).slot s=L.slot s:=by
 rw [iz,if_neg nH]
theorem aCf (L:St) (t:Nat) (r:LV):(L.put (some t) r).slot t=r:=by rw [iz,if_pos rfl]
section
variable {P:Program} {dr:Bool} {ops:Array Oper} {rest:List Oper} {L:St} {K:St->Prop} {dst:Option Tmp} {op:Op} {ty:TypeId} {pos:String} {af:Array Edge}
theorem aP {j d:Nat} {b v want res:Bool} (h1:(ops[j]?).bind (·.dst)=some d) (h2:L.slot d=.v (.bool b)) (h3:b=v) (h4:(v==want)=res) :
  ef ops L ⟨dst,op,ty,pos,af,some (j,want)⟩ res:=⟨d,h1,.inl ⟨b,h2,by rw [h3,h4]⟩⟩
theorem aEn {j d:Nat} {want:Bool} (h1:(ops[j]?).bind (·.dst)=some d) (h2:L.slot d=.bf []):ef ops L ⟨dst,op,ty,pos,af,some (j,want)⟩ false:=⟨d,h1,.inr ⟨h2,rfl⟩⟩
theorem uf {L':St} (h:L=L') (k:K L'):opsL P dr ops [] L K:=by subst h;exact k
end
section
variable {P:Program} {L:St}
theorem dT {t:Nat} {x y:LV} (h:L.slot t=x) (hi:cY L.heap x y):qc P [.tmp t] L y [] :=
 ⟨[x],[y],L.heap,[],.cons h .nil,bW.le_refl _,.cons (.cF hi) .nil,zN,rfl,fun k b h=>by simp at h,rfl⟩
theorem o4 {t:Nat} {x y:LV} (bs:List Nat) (h0:bs.contains 0=false) (h:L.slot t=x) (hi:cY (L.cd bs).heap x y):qc P [.tmp t] L y [] :=
 ⟨[x],[y],(L.cd bs).heap,[],.cons h .nil,tb bs h0,.cons (.cF hi) .nil,zN,rfl,fun k b h=>by simp at h,rfl⟩
theorem xm {t u:Nat} {x y x' y':LV} (h:L.slot t=x) (hi:cY L.heap x y) (h':L.slot u=x') (n5:cY L.heap x' y'):qc P [.tmp t,.tmp u] L (.bf [y,y']) [] :=
 ⟨[x,x'],[y,y'],L.heap,[],.cons h (.cons h' .nil),bW.le_refl _,.cons (.cF hi) (.cons (.cF n5) .nil),zN,rfl,fun k b h=>by simp at h,rfl⟩
theorem ake {t u:Nat} {x y x' y':LV} (bs:List Nat) (h0:bs.contains 0=false) (h:L.slot t=x) (hi:cY (L.cd bs).heap x y) (h':L.slot u=x') (n5:cY (L.cd bs).heap x' y'):qc P [.tmp t,.tmp u] L (.bf [y,y']) [] :=
 ⟨[x,x'],[y,y'],(L.cd bs).heap,[],.cons h (.cons h' .nil),tb bs h0,.cons (.cF hi) (.cons (.cF n5) .nil),zN,rfl,fun k b h=>by simp at h,rfl⟩
theorem acp {t u s:Nat} {x y x' y' x'' y'':LV} (bs:List Nat) (h0:bs.contains 0=false) (h:L.slot t=x) (hi:cY (L.cd bs).heap x y) (h':L.slot u=x') (n5:cY (L.cd bs).heap x' y')
  (h'':L.slot s=x'') (aCd:cY (L.cd bs).heap x'' y''):qc P [.tmp t,.tmp u,.tmp s] L (.bf [y,y',y'']) [] :=
 ⟨[x,x',x''],[y,y',y''],(L.cd bs).heap,[],.cons h (.cons h' (.cons h'' .nil)),tb bs h0,.cons (.cF hi) (.cons (.cF n5) (.cons (.cF aCd) .nil)),zN,rfl,fun k b h=>by simp at h,rfl⟩
theorem agt {t b sz len:Nat} {blk:bg} (h:L.slot t=.ref b sz 0 len) (hb:L.heap b=some blk) (hp:aN blk.vals=true):qc P [.tmp t] L (.ref 1 sz 0 len) [blk] :=
 ⟨[.ref b sz 0 len],[.ref 1 sz 0 len],L.heap,[b],.cons h .nil,bW.le_refl _,.cons (.ref (k:=0) rfl) .nil,by simp,rfl,fun k c hk=>by
  cases k with
  | zero=>simp at hk;subst hk;exact⟨blk,hb,rfl,hp⟩
  | succ k=>simp at hk,rfl⟩
theorem iG {a:Nat} {T:TypeId} {b sz:Nat} {x y:LV} {m:Bool} {n:Nat} {ag:Bool} (bs:List Nat) (h0:bs.contains 0=false) (h:L.slot a=.aD b sz 0 0) (hb:L.heap b=some ⟨sz,[x],m⟩)
  (hx:x.aw=sz) (cm:x.at 0 n ag=some x) (hT:bE P T n ag) (hi:cY (L.cd bs).heap x y):qc P [.cell a T] L y [] :=
 ⟨[x],[y],(L.cd bs).heap,[],.cons ⟨b,sz,0,0,_,x,n,ag,h,hb,rfl,rfl,hx,cm,hT⟩ .nil,tb bs h0,.cons (.cF hi) .nil,zN,rfl,fun k b h=>by simp at h,rfl⟩
theorem afP {bs:List Nat} {b sz off len:Nat} {vals:List LV} {m:Bool} (hb:L.heap b=some ⟨sz,vals,m⟩) (sB:bs.contains b=true) (hp:aN vals=true) (hl:off+len<=vals.length) :
  cY (L.cd bs).heap (.ref b sz off len) (.list sz ((vals.drop off).take len)) :=
 cY.ref (blk:=⟨sz,vals,m && !bs.contains b⟩) (by simp [St.cd,hb]) rfl hp hl (by rw [sB];simp)
theorem fI {α:Type} {e:α->LV} {ag:Bool} {bs:List Nat} {b sz len:Nat} {l:List α} {m:Bool} (he:iZ e sz ag) (hb:L.heap b=some ⟨sz,l.map e,m⟩) (sB:bs.contains b=true) (hl:len=l.length) :
  cY (L.cd bs).heap (.ref b sz 0 len) (.list sz (l.map e)):=by
 have:=afP (L:=L) (bs:=bs) (off:=0) (len:=len) hb sB (a7 he l) (by simp [hl])
 rwa [mn,List.take_of_length_le (by simp [hl])] at this
end
section
variable {P:Program} {H:bW} {ρ:Operand->LV}
theorem aF.ou {c x y:Operand} {t:Bool} (h:ρ c=.v (.bool t)) (ht:t=true):aF P H ρ (.pick c x y) (ρ x):=by
 have:=aF.pick (P:=P) (H:=H) (x:=x) (y:=y) h
 rwa [if_pos ht] at this
theorem aF.ox {c x y:Operand} {t:Bool} (h:ρ c=.v (.bool t)) (ht:t=false):aF P H ρ (.pick c x y) (ρ y):=by
 have:=aF.pick (P:=P) (H:=H) (x:=x) (y:=y) h
 rwa [if_neg (by simp [ht])] at this
end
section
variable {P:Program} {dr:Bool} {ops:Array Oper} {rest:List Oper} {L:St} {K:St->Prop} {dst:Option Tmp} {ty:TypeId} {pos:String} {af:Array Edge} {x:Operand}
theorem mv (k:opsL P dr ops rest (L.put dst (L.ev x)) K):opsL P dr ops (⟨dst,.move x,ty,pos,af,none⟩ :: rest) L K:=ak rfl (.move _) k
theorem asg (k:opsL P dr ops rest (L.put dst (L.ev x)) K):opsL P dr ops (⟨dst,.assign x,ty,pos,af,none⟩ :: rest) L K:=ak rfl (.assign _) k
end
section
variable {P:Program} {H:bW} {ρ:Operand->LV} {α:Type} {e:α->LV} {sz:Nat} {ag:Bool} {T E:TypeId} {x y z:Operand} {l:List α} {a h:Nat} {k k':IntKind}
theorem aF.amw (_he:iZ e sz ag) (hx:ρ x=.list sz (l.map e)) (hT:P.underlying T=some (.slice E)) (hE:bE P E sz ag) (cg:ρ y=.v (.int k (a:Nat))) (iT:ρ z=.v (.int k' (h:Nat))) (h1:a<=h) (h2:h<=l.length) :
  aF P H ρ (.slice T x (some y) (some z) none) (.list sz (((l.take h).drop a).map e)):=by
 have:=aF.ad0 (P:=P) (H:=H) (ρ:=ρ) (la:=some y) (ha:=some z) (a:=a) (h:=h) hx hT hE (fun w hw=>by cases hw;exact⟨_,cg⟩) (fun h=>by cases h) (fun w hw=>by cases hw;exact⟨_,iT⟩) (fun h=>by cases h) h1 (by simpa using h2)
 rwa [<-xR,<-aeD] at this
theorem aF.acn (_he:iZ e sz ag) (hx:ρ x=.list sz (l.map e)) (hT:P.underlying T=some (.slice E)) (hE:bE P E sz ag) (cg:ρ y=.v (.int k (a:Nat))) (h1:a<=l.length) :
  aF P H ρ (.slice T x (some y) none none) (.list sz ((l.drop a).map e)):=by
 have:=aF.ad0 (P:=P) (H:=H) (ρ:=ρ) (la:=some y) (ha:=none) (a:=a) (h:=(l.map e).length) hx hT hE (fun w hw=>by cases hw;exact⟨_,cg⟩) (fun h=>by cases h) (fun w hw=>by cases hw) (fun _=>rfl) (by simpa using h1) (bq _)
 rwa [List.take_length,<-aeD] at this
theorem aF.arw (_he:iZ e sz ag) (hx:ρ x=.list sz (l.map e)) (hT:P.underlying T=some (.slice E)) (hE:bE P E sz ag) (iT:ρ z=.v (.int k' (h:Nat))) (h2:h<=l.length) :
  aF P H ρ (.slice T x none (some z) none) (.list sz ((l.take h).map e)):=by
 have:=aF.ad0 (P:=P) (H:=H) (ρ:=ρ) (la:=none) (ha:=some z) (a:=0) (h:=h) hx hT hE (fun w hw=>by cases hw) (fun _=>rfl) (fun w hw=>by cases hw;exact⟨_,iT⟩) (fun h=>by cases h) ae (by simpa using h2)
 rwa [mn,<-xR] at this
theorem fc (he:iZ e sz ag) (n:Nat) (l:List α):(LV.list n (l.map e)).pure=true:=by simp only [LV.pure];exact a7 he l
end
theorem e1 (L:St) (t:Nat):L.ev (.tmp t)=L.slot t:=rfl
theorem e2 (L:St) (k:IntKind) (n:Int):L.ev (.const (.int k n))=.v (.int k n):=rfl
theorem e3 (L:St) (b:Bool):L.ev (.const (.bool b))=.v (.bool b):=rfl
theorem e4 (L:St):L.ev (.const (.slice none 0 0))=.v (.slice none 0 0):=rfl
theorem p1 (L:St) (t:Nat) (r:LV):(L.put (some t) r).slot t=r:=aCf L t r
theorem p2 (L:St) (t:Nat) (r:LV) (s:Nat) (h:(s==t)=false):(L.put (some t) r).slot s=L.slot s:=aAG L t r s h
theorem p3 (L:St) (r:LV):L.put none r=L:=rfl
theorem q1 (L:St) (b:Nat) (x:Option bg) (s:Nat):(L.bO b x).slot s=L.slot s:=rfl
theorem q2 (L:St) (bs:List Nat) (s:Nat):(L.cd bs).slot s=L.slot s:=rfl
theorem q3 (L:St) (b:Nat) (s:Nat):(L.kill b).slot s=(L.slot s).kill b:=rfl
theorem l1 {α β:Type} (f:α->β) (l:List α):(l.map f).length=l.length:=List.length_map f
theorem l7 {P:Program} {dst:Option Tmp} {ty:TypeId} {pos:String} {af:Array Edge} {g:Option (Nat × Bool)} {rest:List Oper} {L:St} {K:St->Prop} {f:FuncId} {xs:Array Operand} {ve:Array TypeId} {args:List LV} {r:LV} {ops:Array Oper} (b:Nat) {blk blk':bg} (hg:ef ops L ⟨dst,.call ⟨.value (.func f),xs,ve⟩,ty,pos,af,g⟩ true)
  (hb:L.heap b=some blk) (hm:blk.mt=true) (hp:aN blk.vals=true) (ha:x7 L.heap b (xs.toList.map L.ev) args) (hn:Names b (xs.toList.map L.ev)) (hk:nO P f blk args r blk')
  (qH:blk'.mt=true) (kG:aN blk'.vals=true) (hr:r.pure=true) (k:opsL P false ops rest ((L.bO b (some blk')).put dst r) K) :
  opsL P false ops (⟨dst,.call ⟨.value (.func f),xs,ve⟩,ty,pos,af,g⟩ :: rest) L K :=
 ye b hg hb hm hp ha hn hk qH kG (by rw [LV.di _ _ hr];exact k)
end Go.Lg
end
