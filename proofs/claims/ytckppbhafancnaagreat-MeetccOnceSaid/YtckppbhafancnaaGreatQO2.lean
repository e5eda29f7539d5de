/- Texts LgK, LgO of this proof, joined. -/
import Derived.Test.YtckppbhafancnaaGreatQO1
import Derived.Deep.Upon
import Derived.Lib.Overlaps
set_option linter.unusedVariables false
set_option linter.unusedSimpArgs false
open Array renaming all_eq_true_iff_forall_mem->axu,ext'->u9,getD_eq_getD_getElem?->dB,getElem?_eq_getElem->oL,getElem?_eq_some_iff->mN,getElem?_modify->avZ,getElem?_setIfInBounds_ne->jP,getElem?_setIfInBounds_self_of_lt->nT,length_toList->nC,map->aff,mapM_eq_mapM_toList->awu,mem_of_getElem?->axc,mem_toList_iff->afH,range->avH,replicate->qT,size_append->ahn,toList_append->akW
open Bool renaming and_eq_true->jq,false_eq_true->adv,not_eq_true'->wY,or_eq_true->ob
open Classical renaming byContradiction->o8,not_forall->aCS,not_imp->aDu
open Int renaming natCast_mul->asu
open List renaming all_eq_true->oR,append_nil->mV,contains_iff_mem->oX,drop_drop->qy,drop_left->aaY,drop_of_length_le->jQ,drop_zero->lQ,eq_nil_of_length_eq_zero->m8,ext_getElem->uJ,flatten_append->arn,flatten_cons->akt,getD_eq_getElem?_getD->bz,getElem?_append_left->aaz,getElem?_append_right->aeM,getElem?_cons_succ->ahv,getElem?_cons_zero->qo,getElem?_eq_getElem->cq,getElem?_eq_some_iff->oC,getElem?_map->iV,getElem?_toArray->ag3,length_append->k5,length_drop->kE,length_take->eG,mapM_cons->avR,map_cons->nv,map_drop->ael,map_nil->yu,map_take->xg,map_toArray->abV,mem_append->oy,mem_filterMap->yi,mem_map->da,mem_mapIdx->awn,mem_of_getElem?->sb,mem_range->pI,mem_replicate->so,mem_singleton->iM,nil_append->afw,nodup_nil->zq,range->cW,replicate->ay,replicate_succ->amI,size_toArray->aba,take_append_drop->vv,take_left->aha
open List.cons renaming injEq->fJ
open Nat renaming add_mul->hY,add_zero->mf,beq->n8,le_refl->bp,le_trans->a9,lt_or_ge->gM,min->agx,min_eq_left->lL,min_self->asl,mod_eq_of_lt->iF,mul_assoc->fH,mul_eq_zero->ajC,mul_le_mul_right->fP,strongRecOn->abL,sub_self->pB,succ_mul->vH,testBit_or->ayd,zero_add->fw,zero_le->b8,zero_mul->adN
open Option renaming getD_some->zU,isNone_iff_eq_none->wW,map_eq_some_iff->zN,map_some->pY,ne_none_iff_exists'->akP
open Option.some renaming injEq->fp
open Prod.mk renaming injEq->afT
section
set_option linter.unusedVariables false
set_option linter.unusedSimpArgs false
namespace Go.Lg
mutual
def LV.bV (f:Nat->Nat):LV->LV
 | .any=>.any
 | .v x=>.v x
 | .list sz l=>.list sz (du f l)
 | .agg l=>.agg (du f l)
 | .ref b sz off len=>.ref (f b) sz off len
 | .ka b sz off len cap=>.ka (f b) sz off len cap
 | .aB b sz i o=>.aB (f b) sz i o
 | .cm c=>.cm (c.bV f)
 | .dk g l=>.dk g (du f l)
 | .bf l=>.bf (du f l)
def du (f:Nat->Nat):List LV->List LV
 | []=>[]
 | x :: xs=>x.bV f :: du f xs
end
mutual
theorem LV.df (f:Nat->Nat):∀ (x:LV),x.pure=true->x.bV f=x
 | .any,_=>rfl
 | .v _,_=>rfl
 | .list sz l,h=>by simp only [LV.bV,n7 f l (by simpa [LV.pure] using h)]
 | .agg l,h=>by simp only [LV.bV,n7 f l (by simpa [LV.pure] using h)]
 | .ref ..,h=>by simp [LV.pure] at h
 | .ka ..,h=>by simp [LV.pure] at h
 | .aB ..,h=>by simp [LV.pure] at h
 | .cm c,h=>by simp only [LV.bV,LV.df f c (by simpa [LV.pure] using h)]
 | .dk g l,h=>by simp only [LV.bV,n7 f l (by simpa [LV.pure] using h)]
 | .bf l,h=>by simp [LV.pure] at h
theorem n7 (f:Nat->Nat):∀ (l:List LV),aN l=true->du f l=l
 | [],_=>rfl
 | x :: xs,h=>by simp only [du,LV.df f x (pure_cons h).1,n7 f xs (pure_cons h).2]
end
mutual
theorem LV.ai6 (f:Nat->Nat):∀ (x:LV),(x.bV f).aw=x.aw
 | .any=>rfl | .v _=>rfl | .list ..=>rfl | .ref ..=>rfl | .ka ..=>rfl | .aB ..=>rfl | .cm _=>rfl | .dk ..=>rfl | .bf _=>rfl
 | .agg l=>by simp only [LV.bV,LV.aw,aoH f l]
theorem aoH (f:Nat->Nat):∀ (l:List LV),cU (du f l)=cU l
 | []=>rfl
 | x :: xs=>by simp only [du,cU,LV.ai6 f x,aoH f xs]
end
theorem LV.ag1 (f:Nat->Nat) (x:LV):(x.bV f).isAgg=x.isAgg:=by cases x<;>rfl
section
variable {Z:Nat->Prop} {μ bm:Nat->Option Nat} {w:World}
mutual
theorem aC.bV (f:Nat->Nat) (hm:∀ b id,μ b=some id->bm (f b)=some id):∀ (lv:LV) (cs:List Value),aC Z μ w lv cs->aC Z bm w (lv.bV f) cs
 | .any,_,h=>by simpa [aC,LV.bV] using h
 | .v x,cs,h=>by simpa [aC,LV.bV] using h
 | .list sz l,cs,h=>by
   simp only [aC,LV.bV] at h ⊢
   obtain⟨a,len,cap,h1,h2,h3,h4,h9⟩:=h
   have hl:(du f l).length=l.length:=by
    clear h2 h4 h9;induction l with
    | nil=>rfl
    | cons x xs ih=>simp [du,ih]
   refine⟨a,len,cap,h1,by rw [hl];exact h2,h3,?_,by rw [n7 f l h9];exact h9⟩
   rcases h4 with h4 | ⟨blk,off,c,T,fz,part,rest,e1,e2,e3,e4,e5⟩
   ·left;subst h4;rfl
   ·exact .inr ⟨blk,off,c,T,fz,part,rest,e1,e2,e3,e4,aR.bV f hm sz l part e5⟩
 | .agg l,cs,h=>by
   simp only [aC,LV.bV] at h ⊢
   exact cA.bV f hm l cs h
 | .ref b sz off len,cs,h=>by
   simp only [aC,LV.bV] at h ⊢
   rcases h with h | ⟨id,cap,c,T,fz,h1,h2,h3⟩
   ·exact qj
   exact .inr ⟨id,cap,c,T,fz,h1,hm _ _ h2,h3⟩
 | .ka b sz off len cap,cs,h=>by
   simp only [aC,LV.bV] at h ⊢
   obtain⟨id,c,T,fz,h1,h2,h3⟩:=h
   exact⟨id,c,T,fz,h1,hm _ _ h2,h3⟩
 | .aB b sz i o,cs,h=>by
   simp only [aC,LV.bV] at h ⊢
   obtain⟨id,h1,h2⟩:=h
   exact⟨id,h1,hm _ _ h2⟩
 | .cm c,cs,h=>by
   simp only [aC,LV.bV] at h ⊢
   obtain⟨blk,off,cc,T,fz,part,rest,h1,h2,h3,h4,h5,h6,h7⟩:=h
   exact⟨blk,off,cc,T,fz,part,rest,h1,h2,h3,h4,by rw [LV.ai6];exact h5,aC.bV f hm c part h6,by rw [LV.df f c h7];exact h7⟩
 | .dk g cap,cs,h=>by
   simp only [aC,LV.bV] at h ⊢
   obtain⟨vs,h1,h2,h3⟩:=h
   exact⟨vs,h1,aR.bV f hm 1 cap vs.toList h2,by rw [n7 f cap h3];exact h3⟩
 | .bf _,_,h=>by simp [aC] at h
theorem aR.bV (f:Nat->Nat) (hm:∀ b id,μ b=some id->bm (f b)=some id) (sz:Nat):∀ (l:List LV) (cs:List Value),aR Z μ w sz l cs->aR Z bm w sz (du f l) cs
 | [],cs,h=>by simpa [aR,du] using h
 | x :: xs,cs,h=>by
   simp only [aR,du] at h ⊢
   obtain⟨c1,c2,h1,h2,h3,h4⟩:=h
   exact⟨c1,c2,h1,h2,aC.bV f hm x c1 h3,aR.bV f hm sz xs c2 h4⟩
theorem cA.bV (f:Nat->Nat) (hm:∀ b id,μ b=some id->bm (f b)=some id):∀ (l:List LV) (cs:List Value),cA Z μ w l cs->cA Z bm w (du f l) cs
 | [],cs,h=>by simpa [cA,du] using h
 | x :: xs,cs,h=>by
   simp only [cA,du] at h ⊢
   obtain⟨c1,c2,h1,h2,h3,h4⟩:=h
   exact⟨c1,c2,h1,by rw [LV.ai6];exact h2,aC.bV f hm x c1 h3,cA.bV f hm xs c2 h4⟩
end
theorem fM.bV (f:Nat->Nat) (hm:∀ b id,μ b=some id->bm (f b)=some id) {lv:LV} {v:Value} (h:fM Z μ w lv v):fM Z bm w (lv.bV f) v :=
 ⟨fun e=>let ⟨cs,h1,h2⟩:=h.1 (by rwa [LV.ag1] at e);⟨cs,h1,aC.bV f hm _ _ h2⟩,fun e=>aC.bV f hm _ _ (h.2 (by rwa [LV.ag1] at e))⟩
theorem fY.bV (f:Nat->Nat) (hm:∀ b id,μ b=some id->bm (f b)=some id):∀ (l:List LV) (vs:List Value),fY Z μ w l vs->fY Z bm w (du f l) vs
 | [],_,h=>h
 | _ :: xs,_,⟨v,jT,h1,h2,h3⟩=>⟨v,jT,h1,h2.bV f hm,fY.bV f hm xs jT h3⟩
theorem bj.bV (f:Nat->Nat) (hm:∀ b id,μ b=some id->bm (f b)=some id) {lv:LV} {v:Value} (h:bj Z μ w lv v):bj Z bm w (lv.bV f) v:=by
 cases lv with
 | bf l=>obtain⟨vs,h1,h2⟩:=h;exact⟨vs,h1,fY.bV f hm _ _ h2⟩
 | any=>trivial
 | _=>exact fM.bV f hm h
end
def pg (bs:List bh):bW:=fun n=>if n=0 then none else bs[n-1]?
def aij (P:Program) (f:FuncId):Prop:=∃ fn,P.funcs[f]?=some fn/\fn.body.isNone=false/\(fn.name== "runtime.NumGoroutine")=false
def o6 (P:Program) (f:FuncId) (args:List LV) (r:LV) (bs:List bh):Prop :=
 aij P f/\∀ (W:World) (Z0:Nat->Prop) (vs:List Value),(∀ id,Z0 id->id<W.heap.size)->fY Z0 (fun _=>none) W args vs ->
  Calls P f vs.toArray W fun e w'=>∃ v μ Z,e=.returned v/\Core W XS.no Z0 μ Z (pg bs) w'/\bj Z μ w' r v
def ef (d k:Nat):Nat:=1000000+d*16+k
def wM (μ dV:Nat->Option Nat) (d:Nat):Nat->Option Nat:=fun b =>
 if 1000000+d*16<=b/\b<1000000+d*16+16 then(dV (b-(1000000+d*16))).or (μ b) else μ b
section
variable {W w w':World} {X:XS} {Z0 Z Zr:Nat->Prop} {μ dV:Nat->Option Nat} {H:bW} {bs:List bh} {d:Nat}
theorem Core.call (hc:Core W X Z0 μ Z H w) (hr:Core w XS.no Z dV Zr (pg bs) w') (hlen:bs.length<16) (n5:∀ blk∈bs,aN blk.vals=true)
  (hH:∀ i blk,bs[i]?=some blk->∃ m,H (ef d (i+1))=some ⟨blk.sz,blk.vals,m⟩/\(blk.mt=false->m=false)/\μ (ef d (i+1))=none) :
  ∃ Z',Core W X Z0 (wM μ dV d) Z' H w'/\(∀ id,Zr id->Z' id)/\(∀ id,Z id->Z' id)/\(∀ b id,μ b=some id->wM μ dV d b=some id)/\Frame Z μ w w' /\
   (∀ k id,dV k=some id->wM μ dV d (ef d k)=some id):=by
 have hk:∀ k id,dV k=some id->∃ blk,1<=k/\k<=bs.length/\bs[k-1]?=some blk/\pg bs k=some blk:=fun k id h=>by
  obtain⟨blk,h1,_⟩:=hr.heap k id h
  have h0:k≠0:=by rintro rfl;simp [pg] at h1
  have h2:bs[k-1]?=some blk:=by simpa [pg,h0] using h1
  have:=(oC.1 h2).1
  exact⟨blk,ae,ae,h2,h1⟩
 have hHk:∀ k id,dV k=some id->∃ blk m,bs[k-1]?=some blk/\H (ef d k)=some ⟨blk.sz,blk.vals,m⟩/\(blk.mt=false->m=false)/\μ (ef d k)=none/\pg bs k=some blk/\k<16:=fun k id h=>by
  obtain⟨blk,h1,h2,h3,h4⟩:=hk k id h
  obtain⟨m,g1,g2,g3⟩:=hH (k-1) blk h3
  have:k-1+1=k:=by omega
  rw [this] at g1 g3
  exact⟨blk,m,h3,g1,g2,g3,h4,ae⟩
 have mc:∀ k id,dV k=some id->wM μ dV d (ef d k)=some id:=fun k id h=>by
  obtain⟨blk,m,_,_,_,_,_,h6⟩:=hHk k id h
  unfold wM ef
  rw [if_pos ae]
  have:1000000+d*16+k-(1000000+d*16)=k:=by omega
  rw [this,h];rfl
 have hinv:∀ b id,wM μ dV d b=some id->(∃ k,b=ef d k/\dV k=some id)\/μ b=some id:=fun b id h=>by
  unfold wM at h
  split at h
  ·rename_i hb
   cases hq:dV (b-(1000000+d*16)) with
   | none=>rw [hq] at h;exact .inr mW
   | some id' =>
    rw [hq] at h
    simp only [Option.some_or,fp] at h
    subst h
    exact .inl ⟨b-(1000000+d*16),by unfold ef;omega,hq⟩
  ·exact .inr h
 have hold:∀ b id,μ b=some id->wM μ dV d b=some id:=fun b id h=>by
  unfold wM
  split
  ·rename_i hb
   cases hq:dV (b-(1000000+d*16)) with
   | none=>simpa using h
   | some id' =>
    obtain⟨blk,m,_,_,_,g,_⟩:=hHk _ _ hq
    have:ef d (b-(1000000+d*16))=b:=by unfold ef;omega
    rw [this,h] at g;cases g
  ·exact h
 have cd:∀ k id,dV k=some id->w.heap.size<=id:=fun k id h=>(hr.own k id h).resolve_right XS.aeF
 have rB:∀ k,k<w.heap.size->w'.heap[k]?=w.heap[k]?:=fun k hk=>hr.cC.block k hk XS.aeF
 have dO:=hc.avY rB
 refine⟨fun id=>Zr id\/∃ k blk,dV k=some id/\H (ef d k)=some blk/\blk.mt=false,⟨?_,?_,fun id h=>.inl (hr.jG id (hc.jG id h)),?_,?_,?_,?_,hc.ov,fun id h=>hold 0 id (hc.x1 id h),?_,?_,?_⟩,
  fun id h=>.inl h,fun id h=>.inl (hr.jG id h),hold,dO,mc⟩
 ·exact⟨hr.cC.os.trans hc.cC.os,hr.cC.tape.trans hc.cC.tape,hr.cC.output.trans hc.cC.output,a9 hc.cC.size hr.cC.size,
   fun k hk hx=>(rB k (by have:=hc.cC.size;omega)).trans (hc.cC.block k hk hx),
   fun k hx c T fz h=>let ⟨c',g1,g2⟩:=hc.cC.vx k hx c T fz h;⟨c',(rB k (mN.1 g1).1).trans g1,g2⟩⟩
 ·rintro id (h | ⟨k,blk,h,_⟩)
  ·exact hr.lI id h
  ·exact hr.lt h
 ·rintro id (h | ⟨k,blk,h,_⟩)
  ·rcases hr.lK id h with h | h | h
   ·exact hc.lK id h
   ·exact .inr (.inl (a9 hc.cC.size h))
   ·exact h.elim
  ·exact .inr (.inl (a9 hc.cC.size (cd k id h)))
 ·intro b b' id h h'
  rcases hinv b id h with⟨k,rfl,h1⟩ | h1<;>rcases hinv b' id h' with⟨k',rfl,h2⟩ | h2
  ·rw [hr.inj k k' id h1 h2]
  ·have:=cd k id h1;have:=hc.lt h2;omega
  ·have:=cd k' id h2;have:=hc.lt h1;omega
  ·exact hc.inj b b' id h1 h2
 ·intro b id h
  rcases hinv b id h with⟨k,rfl,h1⟩ | h1
  ·exact .inl (a9 hc.cC.size (cd k id h1))
  ·exact hc.own b id h1
 ·intro b id h hx
  rcases hinv b id h with⟨k,rfl,h1⟩ | h1
  ·have:=cd k id h1;have:=hc.ov id (.inl hx);have:=hc.cC.size;omega
  ·exact hc.x0 b id h1 hx
 ·intro b id blk h hb hm hz
  rcases hinv b id h with⟨k,rfl,h1⟩ | h1
  ·obtain⟨uA,m,_,g2,g3,_,g5,_⟩:=hHk k id h1
   rw [g2] at hb;cases hb
   simp only at hm;subst hm
   have ic:uA.mt=true:=by
    cases e:uA.mt with
    | true=>rfl
    | false=>exact absurd (g3 e) aT
   rcases hz with hz | ⟨k',blk',j1,j2,j3⟩
   ·exact hr.jx k id uA h1 g5 ic hz
   ·have:=hr.inj k k' id h1 j1
    subst this
    rw [g2] at j2;cases j2;simp at j3
  ·rcases hz with hz | ⟨k',blk',j1,j2,j3⟩
   ·rcases hr.lK id hz with h | h | h
    ·exact hc.jx b id blk h1 hb hm h
    ·have:=hc.lt h1;omega
    ·exact h.elim
   ·have:=cd k' id j1;have:=hc.lt h1;omega
 ·intro b id blk h hb hm
  rcases hinv b id h with⟨k,rfl,h1⟩ | h1
  ·exact .inr ⟨k,blk,h1,hb,hm⟩
  ·exact .inl (hr.jG id (hc.b9 b id blk h1 hb hm))
 ·intro b id h
  rcases hinv b id h with⟨k,rfl,h1⟩ | h1
  ·obtain⟨uA,m,g1,g2,g3,_,g5,_⟩:=hHk k id h1
   obtain⟨aiz,j1,c,T,part,rest,j2,j3,j4⟩:=hr.heap k id h1
   rw [g5] at j1;cases j1
   exact⟨_,g2,c,T,part,rest,j2,j3,aR.kv (fun id h=>.inl h) (fun _ _=>rfl) _ _ _ (n5 uA (sb g1)) j4⟩
  ·obtain⟨blk,g1,g2⟩:=hc.heap b id h1
   exact⟨blk,g1,g2.mono (fun id h=>.inl (hr.jG id h)) hold dO (rB id (hc.lt h1))⟩
def acA (blk:bh):bW:=fun n=>if n=0 then some blk else none
def vO (id:Nat):Nat->Option Nat:=fun n=>if n=0 then some id else none
def nc (P:Program) (f:FuncId) (blk:bh) (args:List LV) (r:LV) (blk':bh):Prop :=
 aij P f/\∀ (W:World) (Z0:Nat->Prop) (vs:List Value) (i0:Nat),(∀ id,Z0 id->id<W.heap.size)->¬ Z0 i0->uy Z0 (vO i0) W blk i0->fY Z0 (vO i0) W args vs ->
  Calls P f vs.toArray W fun e w'=>∃ v μ Z,e=.returned v/\Core W (XS.one i0) Z0 μ Z (acA blk') w'/\bj Z μ w' r v
theorem Core.aCv {b i0:Nat} {blk blk':bh} (hc:Core W X Z0 μ Z H w) (hb:μ b=some i0) (hH:H b=some blk) (hm:blk.mt=true) (pQ:blk'.mt=true) (kO:aN blk'.vals=true)
  (hr:Core w (XS.one i0) Z dV Zr (acA blk') w') :
  ∃ Z',Core W X Z0 μ Z' (fun k=>if k=b then some blk' else H k) w'/\(∀ id,Zr id->Z' id)/\(∀ id,Z id->Z' id)/\Frame Z μ w w'/\∀ k id,dV k=some id->k=0/\id=i0:=by
 have tK:=hr.x1 i0 rfl
 have kZ:∀ k id,dV k=some id->k=0/\id=i0:=fun k id h=>by
  obtain⟨aiz,h1,_⟩:=hr.heap k id h
  have:k=0:=by
   unfold acA at h1;split at h1
   ·assumption
   ·cases h1
  subst this
  rw [tK] at h;cases h
  exact⟨rfl,rfl⟩
 have aKp:=hc.lt hb
 have rB:∀ k,k<w.heap.size->k≠i0->w'.heap[k]?=w.heap[k]?:=fun k hk hx=>hr.cC.block k hk (fun e=>hx (XS.axM e))
 have sn:¬ Z i0:=hc.jx b i0 blk hb hH hm
 have dO:Frame Z μ w w':=by
  refine⟨fun id h=>rB id (hc.lI id h) (fun e=>sn (e ▸ h)),fun c id h cc T fz qO=>?_⟩
  by_cases e:id=i0
  ·subst e
   exact hr.cC.vx id (.inl rfl) cc T fz qO
  ·exact⟨cc,(rB id (hc.lt h) e).trans qO,rfl⟩
 refine⟨Zr,⟨?_,hr.lI,fun id h=>hr.jG id (hc.jG id h),?_,hc.inj,hc.own,hc.x0,hc.ov,hc.x1,?_,?_,?_⟩,fun _ h=>h,hr.jG,dO,kZ⟩
 ·refine⟨hr.cC.os.trans hc.cC.os,hr.cC.tape.trans hc.cC.tape,hr.cC.output.trans hc.cC.output,a9 hc.cC.size hr.cC.size,fun k hk hx=>?_,fun k hx c T fz h=>?_⟩
  ·have:k≠i0:=by
    rintro rfl
    rcases hc.own b k hb with h | h
    ·omega
    ·exact hx h
   exact(rB k (by have:=hc.cC.size;omega) this).trans (hc.cC.block k hk hx)
  ·obtain⟨c',g1,g2⟩:=hc.cC.vx k hx c T fz h
   by_cases e:k=i0
   ·subst e
    obtain⟨c2,g3,g4⟩:=hr.cC.vx k (.inl rfl) c' T fz g1
    exact⟨c2,g3,g4.trans g2⟩
   ·exact⟨c',(rB k (mN.1 g1).1 e).trans g1,g2⟩
 ·intro id h
  rcases hr.lK id h with h | h | h
  ·exact hc.lK id h
  ·exact .inr (.inl (a9 hc.cC.size h))
  ·exact h.elim
 ·intro c id bk h g fj hz
  rcases hr.lK id hz with hz' | hz' | hz'
  ·by_cases e:c=b
   ·subst e;rw [hb] at h;cases h;exact sn hz'
   ·rw [if_neg e] at g;exact hc.jx c id bk h g fj hz'
  ·have:=hc.lt h;omega
  ·exact hz'.elim
 ·intro c id bk h g fj
  by_cases e:c=b
  ·rw [if_pos e] at g;cases g;rw [pQ] at fj;cases fj
  ·rw [if_neg e] at g;exact hr.jG id (hc.b9 c id bk h g fj)
 ·intro c id h
  by_cases e:c=b
  ·subst e;rw [hb] at h;cases h
   obtain⟨bk,g1,cc,T,part,rest,g2,g3,g4⟩:=hr.heap 0 i0 tK
   simp only [acA,if_true] at g1
   cases g1
   exact⟨blk',if_pos rfl,cc,T,part,rest,g2,g3,aR.kv (fun _ h=>h) (fun _ _=>rfl) _ _ _ kO g4⟩
  ·obtain⟨bk,g1,g2⟩:=hc.heap c id h
   have aX:id≠i0:=fun e'=>e (hc.inj c b id h (e' ▸ hb))
   exact⟨bk,by rw [if_neg e];exact g1,g2.mono hr.jG (fun _ _ h=>h) dO (rB id (hc.lt h) aX)⟩
end
end Go.Lg
namespace Go.Lg
def mg (P:Program) (T:TypeId) (n:Nat):Prop:=∃ i,P.info? T=some i/\i.bytes=n
inductive dA (P:Program) (ρ:Operand->LV) (d:Nat):Op->LV->bh->Prop
 | make {T E l c kl kc z sz dN n m} (hT:P.underlying T=some (.slice E)) (hz:dj P E z) (hE:bC P E sz z.isAgg) (dQ:z.aw=sz) (hb:mg P E dN)
   (hl:ρ l=.v (.int kl (n:Nat))) (hc:ρ c=.v (.int kc (m:Nat))) (kh:n<=m) (hm:dN*m<=281474976710656) (eO:m<=9223372036854775807) :
   dA P ρ d (.makeSlice T l c) (.ref d sz 0 n) ⟨sz,ay n z,true⟩
 | lit {T E n ps z sz} (hT:P.underlying T=some (.slice E)) (hz:dj P E z) (hE:bC P E sz z.isAgg) (dQ:z.aw=sz) (hn:n*sz<=16777216) (h0:0<n) (dM:0<sz)
   (hp:∀ p∈ps.toList,p.1<n/\lay (ρ p.2)=lay z/\ρ p.2≠.any/\∀ m,ρ p.2≠.bf m) :
   dA P ρ d (.buildSlice T n ps) (.ref d sz 0 n) ⟨sz,jR (ay n z) (ps.toList.map fun p=>(p.1,ρ p.2)),true⟩
 | ain {T E sz ag} (hT:P.underlying T=some (.slice E)) (hE:bC P E sz ag):dA P ρ d (.buildSlice T 0 #[]) (.ref d sz 0 0) ⟨sz,[],true⟩
 | box {T x} (aX:ρ x≠.any/\∀ m,ρ x≠.bf m):dA P ρ d (.box T x) (.aB d (ρ x).aw 0 0) ⟨(ρ x).aw,[ρ x],true⟩
 | alloc {T z} (hz:dj P T z):dA P ρ d (.alloc T) (.aB d z.aw 0 0) ⟨z.aw,[z],true⟩
inductive OpC (P:Program) (H:bW) (ρ:Operand->LV) (d:Nat):Op->LV->List bh->Prop
 | func {f xs as args r bs} (ha:fT H (xs.toList.map ρ) args) (hk:o6 P f args r bs) (hlen:bs.length<16) (n5:∀ blk∈bs,aN blk.vals=true) :
   OpC P H ρ d (.call ⟨.value (.func f),xs,as⟩) (r.bV (ef d)) bs
 | dk {t f cap xs as args r bs} (ht:ρ (.tmp t)=.dk f cap) (ha:fT H (xs.toList.map ρ) args) (xi:aN cap=true/\∀ x∈cap,x.aw=1/\x.isAgg=false) (hk:o6 P f (args++cap) r bs)
   (hlen:bs.length<16) (n5:∀ blk∈bs,aN blk.vals=true) :
   OpC P H ρ d (.call ⟨.value (.tmp t),xs,as⟩) (r.bV (ef d)) bs
 | mk {f xs caps} (ha:fT H (xs.toList.map ρ) caps) (h1:∀ x∈caps,x.aw=1/\x.isAgg=false):OpC P H ρ d (.makeFunc (.func f) #[] xs) (.dk f caps) []
inductive mP (P:Program) (H:bW) (ρ:Operand->LV) (d:Nat):Op->LV->List (Nat × bh)->Prop
 | pure {op r} (h:aE P H ρ op r):mP P H ρ d op r []
 | alloc {op r blk} (h:dA P ρ d op r blk):mP P H ρ d op r [(d,blk)]
 | call {op r bs} (h:OpC P H ρ d op r bs):mP P H ρ d op r (bs.mapIdx fun i blk=>(ef d (i+1),blk))
section
variable {P:Program} {W w:World} {X:XS} {Z0 Z:Nat->Prop} {μ:Nat->Option Nat} {H H':bW} {ρ:Operand->LV} {a:Act}
theorem aE.le {op:Op} {r:LV} (hle:H.le H') (h:aE P H ρ op r):aE P H' ρ op r:=by
 cases h with
 | fU hp hb hs hi hx hr hT =>
  obtain⟨m,g1,_⟩:=hle _ _ hb
  exact .fU (blk:=⟨_,_,m⟩) hp g1 hs hi hx hr hT
 | move x=>exact .move x
 | assign x=>exact .assign x
 | pick h=>exact .pick h
 | bin hx hy h=>exact .bin hx hy h
 | sh hx hy h=>exact .sh hx hy h
 | beq hx hy hT=>exact .beq hx hy hT
 | bne hx hy hT=>exact .bne hx hy hT
 | not hx=>exact .not hx
 | neg hx=>exact .neg hx
 | conv hS hD hx=>exact .conv hS hD hx
 | extract ht hr aX=>exact .extract ht hr aX
 | field hx hT hr aX=>exact .field hx hT hr aX
 | zD hp hT hr=>exact .zD hp hT hr
 | aa9 hp hT hk=>exact .aa9 hp hT hk
 | zH hp hT hc=>exact .zH hp hT hc
 | afd hx=>exact .afd hx
 | aaK hx hT hE hf hi h0 hr hp=>exact .aaK hx hT hE hf hi h0 hr hp
 | abt hx hT hE hi h0 hm=>exact .abt hx hT hE hi h0 hm
 | abe hx hT hE hf hi h0 hr=>exact .abe hx hT hE hf hi h0 hr
 | aaJ hT hE hf hz hp=>exact .aaJ hT hE hf hz hp
 | aeJ hx=>exact .aeJ hx
 | nx hx hT hE hi h0 hr hc=>exact .nx hx hT hE hi h0 hr hc
 | wD hx hT hE hi h0 hn=>exact .wD hx hT hE hi h0 hn
 | adH hx hT hE a b c d e f=>exact .adH hx hT hE a b c d e f
 | wk hx hT hE a b c d e f g=>exact .wk hx hT hE a b c d e f g
 | afI hx hT hE a b c d e f g i=>exact .afI hx hT hE a b c d e f g i
 | z5 hx has hT=>exact .z5 hx has hT
 | aaT hx has hT=>exact .aaT hx has hT
 | aaB hx has hT=>exact .aaB hx has hT
 | alD hx has hT=>exact .alD hx has hT
 | aa0 hx has hT=>exact .aa0 hx has hT
 | aeb hx has hT=>exact .aeb hx has hT
 | adV hx hT hE a b c d e f g=>exact .adV hx hT hE a b c d e f g
 | ajD hx hT hE hh=>exact .ajD hx hT hE hh
 | min2 hx hy=>exact .min2 hx hy
 | max2 hx hy=>exact .max2 hx hy
 | ahE hx hT hi h0 hb=>exact .ahE hx hT hi h0 hb
 | aa3 hf qG hb hn he hx hr h1 h2=>exact .aa3 hf qG hb hn he hx hr h1 h2
 | zu hx hy h=>exact .zu hx hy h
 | eqS hx hy=>exact .eqS hx hy
 | eqN hx hy hT=>exact .eqN hx hy hT
 | aae hx hy hT=>exact .aae hx hy hT
 | zk hx hy hT hE hs hd=>exact .zk hx hy hT hE hs hd
 | amA hS hE hD hx hb hs hv hl =>
  obtain⟨m,h1,_⟩:=hle _ _ hb
  exact .amA hS hE hD hx h1 hs hv hl
 | build hT hz hp=>exact .build hT hz hp
theorem mP.le {op:Op} {r:LV} {d:Nat} {fr:List (Nat × bh)} (hle:H.le H') (h:mP P H ρ d op r fr):mP P H' ρ d op r fr:=by
 cases h with
 | pure h=>exact .pure (h.le hle)
 | alloc h=>exact .alloc h
 | call h =>
  refine .call ?_
  cases h with
  | func ha hk hlen n5=>exact .func (fT.le hle ha) hk hlen n5
  | dk ht ha xi hk hlen n5=>exact .dk ht (fT.le hle ha) xi hk hlen n5
  | mk ha h1=>exact .mk (fT.le hle ha) h1
theorem agX (hc:Core W X Z0 μ Z H w):∀ (xs:List Operand) (args:List LV),fT H (xs.map ρ) args->(∀ x∈xs,bj Z μ w (ρ x) (a.eval x)) ->
  fY Z (fun _=>none) w args (xs.map a.eval)
 | [],_,h,_=>by cases h;rfl
 | x :: xs,_,h,hr=>by
   cases h with
   | cons h t =>
    exact⟨_,_,rfl,cV.abE hc h (hr x aT),agX hc xs _ t (fun y hy=>hr y (by simp [hy]))⟩
theorem fY.append:∀ (l m:List LV) (vs us:List Value),fY Z μ w l vs->fY Z μ w m us->fY Z μ w (l++m) (vs++us)
 | [],m,vs,us,h,h'=>by cases h;exact h'
 | x :: xs,m,_,us,⟨v,jT,e,h1,h2⟩,h'=>by
   subst e
   exact⟨v,jT++us,by simp,h1,fY.append xs m jT us h2 h'⟩
theorem av4 {bm:Nat->Option Nat}:∀ (l:List LV) (cs:List Value),aN l=true->(∀ x∈l,x.aw=1/\x.isAgg=false)->aR Z μ w 1 l cs->fY Z bm w l cs
 | [],cs,_,_,h=>by simp only [aR] at h;exact h
 | x :: xs,cs,hp,h1,h=>by
   simp only [aR] at h
   obtain⟨c1,c2,rfl,h2,h3,h4⟩:=h
   match c1,h2 with
   | [y],_ =>
    refine⟨y,c2,rfl,⟨fun e=>?_,fun _=>aC.kv (fun _ h=>h) (fun _ _=>rfl) _ _ (pure_cons hp).1 h3⟩,av4 xs c2 (pure_cons hp).2 (fun z hz=>h1 z (by simp [hz])) h4⟩
    rw [(h1 x aT).2] at e;cases e
theorem avs {bm:Nat->Option Nat}:∀ (l:List LV) (vs:List Value),aN l=true->(∀ x∈l,x.aw=1/\x.isAgg=false)->fY Z μ w l vs->aR Z bm w 1 l vs
 | [],vs,_,_,h=>by simp only [aR];exact h
 | x :: xs,_,hp,h1,⟨v,jT,e,h2,h3⟩=>by
   subst e
   simp only [aR]
   exact⟨[v],jT,rfl,rfl,aC.kv (fun _ h=>h) (fun _ _=>rfl) _ _ (pure_cons hp).1 (h2.2 (h1 x aT).2),avs xs jT (pure_cons hp).2 (fun z hz=>h1 z (by simp [hz])) h3⟩
theorem aim {f:FuncId} {args:Array Value} (h:aij P f):(callFunc f args).run P w=.ok (.enter f args) w:=by
 obtain⟨fn,h1,h2,h3⟩:=h
 simp only [callFunc,Sem.run_bind,run_program,Result.andThen_ok,h1,h3,adv,if_false,h2,Sem.run_pure]
theorem akp (z:Array Value) (hz:0<z.size):∀ n,(madeCells z (n*z.size)).toList=(ay n z.toList).flatten
 | 0=>by simp [madeCells]
 | n+1=>by
   have ih:=akp z hz n
   simp only [madeCells,Array.toList_map,Array.toList_range] at ih ⊢
   rw [vH,List.range_add,List.map_append,ih,List.replicate_succ',arn,List.map_map]
   congr 1
   simp only [akt,List.flatten_nil,mV]
   apply uJ
   ·simp
   ·intro j h1 h2
    simp at h1
    simp [iF h1,h1]
theorem aFA {sz:Nat} {z:LV} {ch:List Value} (h:aC Z μ w z ch) (hl:ch.length=sz) (n m:Nat) (kh:n<=m) :
  ∃ part rest,(ay m ch).flatten=part++rest/\aR Z μ w sz (ay n z) part:=by
 refine⟨(ay n ch).flatten,(ay (m-n) ch).flatten,?_,aR.replicate h hl n⟩
 rw [<-arn,List.replicate_append_replicate,Nat.add_sub_cancel' kh]
theorem aCk {dV:Nat->Option Nat} {d:Nat} {b:Nat} (h:wM μ dV d b≠none):μ b≠none\/∃ k,b=ef d k/\dV k≠none:=by
 unfold wM at h
 split at h
 ·cases hq:dV (b-(1000000+d*16)) with
  | none=>rw [hq] at h;exact .inl mW
  | some id=>exact .inr ⟨b-(1000000+d*16),by unfold ef;omega,by rw [hq];simp⟩
 ·exact qj
structure ahb (W:World) (X:XS) (Z0:Nat->Prop) (μ:Nat->Option Nat) (Z:Nat->Prop) (H:bW) (w:World) (r:LV) (fr:List (Nat × bh)) (v:Value) (w':World) (bm:Nat->Option Nat) (Z':Nat->Prop):Prop where
 core:Core W X Z0 bm Z' H w'
 hz:∀ id,Z id->Z' id
 hm:∀ b id,μ b=some id->bm b=some id
 hf:Frame Z μ w w'
 rep:bj Z' bm w' r v
 new:∀ b,bm b≠none->μ b≠none\/b∈fr.map (·.1)
theorem avF {f:FuncId} {vs:Array Value} {d:Nat} {args:List LV} {r:LV} {bs:List bh} {o:Oper} {K:Act->World->Prop} {Q:Exit->Act->World->Prop}
  (hc:Core W X Z0 μ Z H w) (hk:o6 P f args r bs) (hlen:bs.length<16) (n5:∀ blk∈bs,aN blk.vals=true)
  (hargs:fY Z (fun _=>none) w args vs.toList)
  (dO:∀ i blk,bs[i]?=some blk->∃ m,H (ef d (i+1))=some ⟨blk.sz,blk.vals,m⟩/\(blk.mt=false->m=false)/\μ (ef d (i+1))=none)
  (fg:(execOp a.eval o).run P w=.ok (.enter f vs) w)
  (hK:∀ v w' bm Z',ahb W X Z0 μ Z H w (r.bV (ef d)) (bs.mapIdx fun i blk=>(ef d (i+1),blk)) v w' bm Z'->K (a.put o.dst v) w'):o.wp P a w K Q:=by
 unfold Oper.wp
 rw [fg,Oper.upon_enter]
 have:=hk.2 w Z vs.toList hc.lI hargs
 rw [Array.toArray_toList] at this
 refine this.mono ?_
 rintro e w' ⟨v,dV,Zr,rfl,hr,hv⟩
 obtain⟨Z',h1,h2,h3,h4,h5,h6⟩:=hc.call hr hlen n5 dO
 refine hK v w' _ Z' ⟨h1,h3,h4,h5,?_,?_⟩
 ·exact(hv.mono h2 (fun _ _ h=>h) ⟨fun _ _=>rfl,(Frame.refl Zr dV w').m⟩).bV (ef d) h6
 ·intro b hb
  rcases aCk hb with h | ⟨k,rfl,h⟩
  ·exact qj
  ·right
   obtain⟨id,hid⟩:=akP.1 h
   obtain⟨blk,g1,_⟩:=hr.heap k id hid
   have h0:k≠0:=by rintro rfl;simp [pg] at g1
   have g2:bs[k-1]?=some blk:=by simpa [pg,h0] using g1
   simp only [da,awn]
   refine⟨_,⟨k-1,(oC.1 g2).1,rfl⟩,?_⟩
   show ef d (k-1+1)=ef d k
   congr 1;omega
theorem arI {sz:Nat}:∀ (l:List LV) (cs:List Value),(∀ x∈l,x.aw=sz)->aR Z μ w sz l cs->cA Z μ w l cs
 | [],cs,_,h=>by simpa [aR,cA] using h
 | x :: xs,cs,hx,h=>by
   simp only [aR,cA] at h ⊢
   obtain⟨c1,c2,h1,h2,h3,h4⟩:=h
   exact⟨c1,c2,h1,by rw [h2,hx x aT],h3,arI xs c2 (fun y hy=>hx y (by simp [hy])) h4⟩
theorem awS {sz:Nat}:∀ (l:List LV) (cs:List Value),(∀ x∈l,x.aw=sz)->cA Z μ w l cs->aR Z μ w sz l cs
 | [],cs,_,h=>by simpa [aR,cA] using h
 | x :: xs,cs,hx,h=>by
   simp only [aR,cA] at h ⊢
   obtain⟨c1,c2,h1,h2,h3,h4⟩:=h
   exact⟨c1,c2,h1,by rw [h2,hx x aT],h3,awS xs c2 (fun y hy=>hx y (by simp [hy])) h4⟩
theorem atl (x:Nat × Bool):∀ n,nO (ay n x)=n*x.1
 | 0=>by simp [nO]
 | n+1=>by simp [amI,nO,atl x n,vH];omega
theorem apo:∀ (qs:List (Nat × LV)) (zs:List LV) (n:Nat × Bool),(∀ x∈zs,lay x=n)->(∀ q∈qs,lay q.2=n)->∀ x∈jR zs qs,lay x=n
 | [],zs,n,h,_=>h
 | q :: qs,zs,n,h,hq=>by
   refine apo qs (zs.set q.1 q.2) n (fun x hx=>?_) (fun q' h'=>hq q' (by simp [h']))
   rcases List.mem_or_eq_of_mem_set hx with hx | rfl
   ·exact h x hx
   ·exact hq q aT
theorem aEg {T E:TypeId} {n:Nat} {ps:Array (Nat × Operand)} {z:LV} {sz:Nat} (hT:P.underlying T=some (.slice E)) (hz:dj P E z) (hE:bC P E sz z.isAgg) (dQ:z.aw=sz)
  (hn:n*sz<=16777216) (h0:0<n) (dM:0<sz) (hp:∀ p∈ps.toList,p.1<n/\lay (ρ p.2)=lay z/\ρ p.2≠.any/\∀ m,ρ p.2≠.bf m)
  (cu:∀ p∈ps.toList,bj Z μ w (ρ p.2) (a.eval p.2)) :
  ∃ cs,(Instr.buildSlice T n (ps.map fun(i,x)=>(i,a.eval x))).run P w=.ok (.slice (some ⟨w.heap.size,0,none⟩) n n) (w.alloc (.cells cs E)) /\
   aR Z μ w sz (jR (ay n z) (ps.toList.map fun p=>(p.1,ρ p.2))) cs.toList:=by
 obtain⟨i,zv,z1,z2,z3,z4⟩:=hz
 have aX:=LV.fk z3
 have bJ:i.size=sz:=by have:=hE.1;rw [z1] at this;simpa using this
 have ox:=aC.len (z4 Z μ w) aX
 have ajx:zv.cells.size=sz:=by rw [<-nC,ox,dQ]
 have aA1:(madeCells zv.cells (n*sz)).toList=(ay n zv.cells.toList).flatten:=by
  have:=akp zv.cells ae n
  rwa [ajx] at this
 have eE:aR Z μ w sz (ay n z) (madeCells zv.cells (n*sz)).toList:=by
  rw [aA1];exact aR.replicate (z4 Z μ w) (by rw [ox,dQ]) n
 have hcz:∀ x∈ay n z,x.aw=sz:=fun x hx=>by rw [(so.1 hx).2,dQ]
 obtain⟨cs,f1,f2⟩:=ait (Z:=Z) (μ:=μ) (w:=w) (ls:=ay n (lay z)) (fun k=>some (k*sz,sz))
  (fun k m hk=>by
   obtain⟨h1,h2⟩:=oC.1 hk
   simp at h1 h2
   subst h2
   rw [List.take_replicate,atl,lL ae]
   simp [lay,dQ])
  (ps.toList.map fun p=>(p.1,a.eval p.2)) (ps.toList.map fun p=>(p.1,ρ p.2)) (ay n z) (madeCells zv.cells (n*sz)) aT (arI _ _ hcz eE) aT
  (fun j p q ke ri=>by
   simp only [iV,zN] at ke ri
   obtain⟨x,hx,rfl⟩:=ke
   obtain⟨y,hy,rfl⟩:=ri
   rw [hx] at hy;cases hy
   have hm:=sb hx
   obtain⟨_,_,h3,h4⟩:=hp x hm
   exact⟨bj.yU h4 h3 (cu x hm),h3⟩)
  (fun q hq=>by
   simp only [da] at hq
   obtain⟨x,hx,rfl⟩:=hq
   obtain⟨h1,h2,_⟩:=hp x hx
   exact⟨lay z,by simp [h1],h2⟩)
 refine⟨cs,?_,awS _ _ (fun x hx=>?_) f2⟩
 ·have zL:(zeroValue E).run P w=.ok zv w:=by simp [zeroValue,typeInfo,z1,z2]
  have hso:(sizeOf E).run P w=.ok sz w:=run_sizeOf hE
  have hns:¬ n*sz=0:=by
   intro h;rcases ajC.1 h with h | h<;>omega
  have hle:¬ 2 ^ 24<n*sz:=by
   have:(2:Nat) ^ 24=16777216:=by decide
   omega
  have hps:(aff (fun x=>match x with | (i,x)=>(i,a.eval x)) ps).toList=ps.toList.map fun p=>(p.1,a.eval p.2):=by simp
  simp only [Instr.buildSlice,Sem.run_bind,run_underlying hT,Result.andThen_ok,hso,gt_iff_lt,hle,if_false,Sem.run_ite,hns,zL,Sem.run_pure,hps]
  have hmk:(avH (n*sz)).map (fun x=>zv.cells[x % zv.cells.size]!)=madeCells zv.cells (n*sz):=rfl
  rw [hmk,f1]
  rfl
 ·have hb:=apo (ps.toList.map fun p=>(p.1,ρ p.2)) (ay n z) (lay z) (fun x hx=>by rw [(so.1 hx).2]) (fun q hq=>by
   simp only [da] at hq
   obtain⟨y,hy,rfl⟩:=hq
   exact(hp y hy).2.1) x hx
  have:=congrArg Prod.fst hb
  simpa [lay,dQ] using this
theorem amj (z:Array Value) (n:Nat):(Builtin.zeroCells z n).toList=(ay n z.toList).flatten:=by
 have hl:((ay n z.toList).flatten).length=n*z.size:=by
  induction n with
  | zero=>simp
  | succ n ih=>simp only [amI,akt,k5,ih,vH];simp;omega
 refine uJ (by rw [hl];simp [Builtin.zeroCells]) (fun i h1 h2=>?_)
 have hi:i<n*z.size:=by rw [hl] at h2;exact h2
 have hz:0<z.size:=Nat.pos_of_ne_zero fun e=>by rw [e] at hi;simp at hi
 have key:∀ (n i:Nat),i<n*z.size->(ay n z.toList).flatten[i]?=z.toList[i % z.size]?:=by
  intro n
  induction n with
  | zero=>intro i h;simp at h
  | succ n ih =>
   intro i h
   rw [amI,akt]
   rcases gM i z.size with h3 | h3
   ·rw [aaz (by simpa using h3),iF h3]
   ·rw [aeM (by simpa using h3)]
    have e:z.toList.length=z.size:=by simp
    rw [e,ih (i-z.size) (by rw [vH] at h;omega),<-Nat.mod_eq_sub_mod h3]
 have h3:=key n i hi
 rw [cq h2] at h3
 have hm:i % z.size<z.size:=Nat.mod_lt _ hz
 rw [cq (by simpa using hm)] at h3
 simp only [fp] at h3
 rw [h3]
 simp [Builtin.zeroCells,hm]
theorem azB {P:Program} {w:World} (T U E ty:TypeId) (k kl:IntKind) (i:TypeInfo) (z:Value) (ht:P.underlying T=some (.slice E)) (hu:P.underlying U=some (.int k)) (hi:P.info? E=some i) (hz:i.zero=some z) (n:Nat)
  (h0:0<n) (dM:0<i.size) (gC:(n:Int)<=4611686018427387904) (lD:n*i.bytes<=140737488355328) (pL:Builtin.nextslicecap n 0*i.bytes<=281474976710656) :
  (Builtin.append_ #[T,U] ty #[.slice none 0 0,.int kl (n:Int)]).run P w =
   .ok (.slice (some ⟨w.heap.size,0,none⟩) n (grownCap w n 0 E))
    (w.drew.alloc (.cells (Builtin.zeroCells z.cells n++Builtin.zeroCells z.cells (grownCap w n 0 E-n)) E)):=by
 have hn:¬ (n<=0):=by omega
 have jb:¬ n=0:=by omega
 have hw:IntKind.i64.wrap (n:Int)=(n:Int):=by simp [IntKind.wrap,show IntKind.i64.bits=64 from rfl];omega
 have h1:¬ ((n:Int)<0):=by omega
 have h2:¬ (281474976710656<(n:Int)*(i.bytes:Int)):=by
  have h5:((n*i.bytes:Nat):Int)<=140737488355328:=by omega
  rw [asu] at h5
  omega
 have ak1:¬ (9223372036854775807<(n:Int)):=by omega
 have alX:¬ (281474976710656<Builtin.nextslicecap n 0*i.bytes):=by omega
 have bJ:¬ (i.size=0):=by omega
 simp [Builtin.append_,run_underlying ht,run_underlying hu,sizeOf,typeInfo,zeroValue,hi,hz,hn,jb,hw,h1,h2,ak1,alX,asInt,asIntOf,Question.forced,Builtin.firstCells,newRow,grownCap]
 intro h
 rcases ajC.1 h with h | h<;>omega
theorem aCW {op:Op} {r:LV} {d:Nat} {blk:bh} (hc:Core W X Z0 μ Z H w) (ho:dA P ρ d op r blk) (cu:∀ x∈op.operands,bj Z μ w (ρ x) (a.eval x))
  {m:Bool} (hH:H d=some ⟨blk.sz,blk.vals,m⟩) (tC:μ d=none) (dst:Option Tmp) (ty:TypeId) (pos:String) (after:Array Edge) (g:Option (Nat × Bool)) :
  ∃ v w' bm Z',(execOp a.eval ⟨dst,op,ty,pos,after,g⟩).run P w=.ok (.value v) w'/\ahb W X Z0 μ Z H w r [(d,blk)] v w' bm Z':=by
 have mc:∀ id b,qg μ d id b≠none->μ b≠none\/b∈[(d,blk)].map (·.1):=fun id b h=>by
  unfold qg at h
  split at h
  ·subst_vars;right;simp
  ·exact qj
 cases ho with
 | @make T E l c kl kc z sz dN n cp hT hz hE dQ hb hl gJ kh jM eO =>
  obtain⟨i,zv,z1,z2,z3,z4⟩:=hz
  have e1:=cu l bS;rw [hl] at e1;have e1:=e1.eu
  have e2:=cu c bS;rw [gJ] at e2;have e2:=e2.eu
  have aX:=LV.fk z3
  have bJ:i.size=sz:=by have:=hE.1;rw [z1] at this;simpa using this
  have lD:i.bytes=dN:=by obtain⟨i',g1,g2⟩:=hb;rw [z1] at g1;cases g1;exact g2
  have ox:=aC.len (z4 Z μ w) aX
  have ajx:zv.cells.size=sz:=by rw [<-nC,ox,dQ]
  have hr:=run_make (P:=P) w T E i zv hT z1 z2 kl kc (n:Int) (cp:Int) ae ae (by rw [lD];omega) ae
  simp only [Int.toNat_natCast,bJ] at hr
  obtain⟨part,rest,p1,p2⟩:=aFA (sz:=sz) (z4 Z μ w) (by rw [ox,dQ]) n cp kh
  have akC:(madeCells zv.cells (cp*sz)).toList=part++rest:=by
   by_cases my:0<zv.cells.size
   ·rw [<-ajx,akp _ my,p1]
   ·have:sz=0:=by omega
    rw [<-p1,this]
    have h0:zv.cells.toList=[]:=by
     apply m8;rw [nC];omega
    simp [madeCells,h0]
  obtain⟨Z',h1,h2,h3,h4,h5,h6⟩:=hc.push hH tC (sD.alloc w (.cells (madeCells zv.cells (cp*sz)) E)) akC p2
  refine⟨_,_,_,Z',by simp only [execOp,e1,e2];rw [Sem.run_bind,hr];rfl,h1,h2,h3,h4,⟨by simp [LV.isAgg],fun _=>?_⟩,mc _⟩
  simp only [aC]
  exact .inr ⟨w.heap.size,cp,_,E,(0,0),by simp,h5,kh,h6,by rw [size_madeCells];simp⟩
 | @lit T E n ps z sz hT hz hE dQ hn h0 dM hp =>
  have hpm:∀ p∈ps.toList,bj Z μ w (ρ p.2) (a.eval p.2):=fun p hp=>cu p.2 (by simp [Op.operands];exact⟨p.1,by simpa using hp⟩)
  obtain⟨cs,r1,r2⟩:=aEg (P:=P) (Z:=Z) (μ:=μ) (w:=w) (a:=a) hT hz hE dQ hn h0 dM hp hpm
  obtain⟨Z',h1,h2,h3,h4,h5,h6⟩:=hc.push hH tC (sD.alloc w (.cells cs E)) (mV _).symm r2
  refine⟨_,_,_,Z',by simp only [execOp];rw [Sem.run_bind,r1];rfl,h1,h2,h3,h4,⟨by simp [LV.isAgg],fun _=>?_⟩,mc _⟩
  simp only [aC]
  have hl:=aR.length _ _ r2
  have sJ:(jR (ay n z) (ps.toList.map fun p=>(p.1,ρ p.2))).length=n:=by
   have:∀ (qs:List (Nat × LV)) (zs:List LV),(jR zs qs).length=zs.length:=fun qs=>by
    induction qs with
    | nil=>intro zs;rfl
    | cons q qs ih=>intro zs;exact(ih _).trans aT
   rw [this];simp
  exact .inr ⟨w.heap.size,n,cs,E,(0,0),by simp,h5,bp _,h6,by rw [<-nC,hl,sJ];simp⟩
 | @ain T E sz ag hT hE =>
  obtain⟨Z',h1,h2,h3,h4,h5,h6⟩:=hc.push hH tC (sD.alloc w (.cells #[] E)) (part:=[]) (rest:=[]) rfl (by simp [aR])
  refine⟨_,_,_,Z',by simp [execOp,Instr.buildSlice,run_underlying hT,run_sizeOf hE,Instr.fill,newRow,show (aff (fun _:Nat=>(default:Value)) (avH 0))=#[] from by apply u9;simp];exact rfl,h1,h2,h3,h4,⟨by simp [LV.isAgg],fun _=>?_⟩,mc _⟩
  simp only [aC]
  exact .inr ⟨w.heap.size,0,#[],E,(0,0),by rw [adN],h5,bp _,h6,by simp⟩
 | @box T x aX =>
  have e1:=cu x bS
  obtain⟨c1,c2,_,_⟩:=(bj.yU aX.2 aX.1 e1).cells aX.1
  have wE:aR Z μ w (ρ x).aw [ρ x] (a.eval x).cells.toList:=by
   simp only [aR]
   exact⟨_,[],by simp,by simp [c2],c1,rfl⟩
  obtain⟨Z',h1,h2,h3,h4,h5,h6⟩:=hc.push (T:=T) (c:=(a.eval x).cells) hH tC (sD.alloc w _) (mV _).symm wE
  refine⟨_,_,_,Z',by simp only [execOp,Instr.box,newVar,newRow,Sem.run_bind,run_newObj,Result.andThen_ok,Sem.run_pure];rfl,h1,h2,h3,h4,⟨by simp [LV.isAgg],fun _=>?_⟩,mc _⟩
  simp only [aC]
  exact⟨w.heap.size,by simp,h5⟩
 | @alloc T z hz =>
  obtain⟨i,zv,z1,z2,z3,z4⟩:=hz
  have aX:=LV.fk z3
  have ox:=aC.len (z4 Z μ w) aX
  have wE:aR Z μ w z.aw [z] zv.cells.toList:=by
   simp only [aR]
   exact⟨_,[],by simp,by simpa using ox,z4 Z μ w,rfl⟩
  obtain⟨Z',h1,h2,h3,h4,h5,h6⟩:=hc.push (T:=T) (c:=zv.cells) hH tC (sD.alloc w _) (mV _).symm wE
  have zL:(zeroValue T).run P w=.ok zv w:=by simp [zeroValue,typeInfo,z1,z2]
  refine⟨_,_,_,Z',by simp only [execOp,Instr.alloc,newVar,newRow,Sem.run_bind,zL,run_newObj,Result.andThen_ok,Sem.run_pure];rfl,h1,h2,h3,h4,⟨by simp [LV.isAgg],fun _=>?_⟩,mc _⟩
  simp only [aC]
  exact⟨w.heap.size,by simp,h5⟩
theorem aFL {op:Op} {r:LV} {d:Nat} {bs:List bh} (hc:Core W X Z0 μ Z H w) (ho:OpC P H ρ d op r bs) (cu:∀ x∈op.operands,bj Z μ w (ρ x) (a.eval x))
  (dO:∀ i blk,bs[i]?=some blk->∃ m,H (ef d (i+1))=some ⟨blk.sz,blk.vals,m⟩/\(blk.mt=false->m=false)/\μ (ef d (i+1))=none)
  (dst:Option Tmp) (ty:TypeId) (pos:String) (after:Array Edge) (g:Option (Nat × Bool)) {K:Act->World->Prop} {Q:Exit->Act->World->Prop}
  (hK:∀ v w' bm Z',ahb W X Z0 μ Z H w r (bs.mapIdx fun i blk=>(ef d (i+1),blk)) v w' bm Z'->K (a.put dst v) w') :
  (⟨dst,op,ty,pos,after,g⟩:Oper).wp P a w K Q:=by
 cases ho with
 | @func f xs as args r bs ha hk hlen n5 =>
  have hargs:=agX (a:=a) hc xs.toList args ha (fun x hx=>cu x (by simp [Op.operands,Call.operands];right;simpa using hx))
  refine avF (vs:=xs.map a.eval) hc hk hlen n5 (by simpa using hargs) dO ?_ hK
  simp only [execOp,resolve,Act.eval,Deferred.ofValue,Sem.run_bind,Sem.run_pure,Result.andThen_ok,invoke]
  have:=aim (P:=P) (w:=w) (args:=xs.map a.eval) hk.1
  simpa using this
 | @dk t f cap xs as args r bs ht ha xi hk hlen n5 =>
  have hargs:=agX (a:=a) hc xs.toList args ha (fun x hx=>cu x (by simp [Op.operands,Call.operands];right;simpa using hx))
  have e1:=cu (.tmp t) lC
  rw [ht] at e1
  have e2:=e1.2 rfl
  simp only [aC] at e2
  obtain⟨cv,q1,q2,_⟩:=e2
  simp only [fJ,and_true] at q1
  have vn:=av4 (bm:=fun _=>none) cap cv.toList xi.1 xi.2 q2
  refine avF (vs:=xs.map a.eval++cv) hc hk hlen n5 (by simpa using fY.append _ _ _ _ hargs vn) dO ?_ hK
  have:=aim (P:=P) (w:=w) (args:=xs.map a.eval++cv) hk.1
  simp only [execOp,resolve,q1,Deferred.ofValue,Sem.run_bind,Sem.run_pure,Result.andThen_ok,invoke]
  simpa using this
 | @mk f xs caps ha h1 =>
  have hargs:=agX (a:=a) hc xs.toList caps ha (fun x hx=>cu x (by simp [Op.operands];simpa using hx))
  have hp:=(fT.lay ha).2
  have fg:(execOp a.eval ⟨dst,.makeFunc (.func f) #[] xs,ty,pos,after,g⟩).run P w=.ok (.value (.func (.func f) #[] (xs.map a.eval))) w:=by
   simp [execOp,Instr.makeFunc]
  unfold Oper.wp
  rw [fg,Oper.upon_value]
  refine hK _ w μ Z ⟨hc,fun _ h=>h,fun _ _ h=>h,Frame.refl _ _ _,⟨by simp [LV.isAgg],fun _=>?_⟩,fun b h=>.inl h⟩
  simp only [aC]
  exact⟨_,rfl,avs caps _ hp h1 (by simpa using hargs),hp⟩
theorem mP.sound {op:Op} {r:LV} {d:Nat} {fr:List (Nat × bh)} (hc:Core W X Z0 μ Z H w) (ho:mP P H ρ d op r fr) (cu:∀ x∈op.operands,bj Z μ w (ρ x) (a.eval x))
  (dO:∀ b blk,(b,blk)∈fr->∃ m,H b=some ⟨blk.sz,blk.vals,m⟩/\(blk.mt=false->m=false)/\μ b=none)
  (dst:Option Tmp) (ty:TypeId) (pos:String) (after:Array Edge) (g:Option (Nat × Bool)) {K:Act->World->Prop} {Q:Exit->Act->World->Prop}
  (hK:∀ v w' bm Z',ahb W X Z0 μ Z H w r fr v w' bm Z'->K (a.put dst v) w') :
  (⟨dst,op,ty,pos,after,g⟩:Oper).wp P a w K Q:=by
 cases ho with
 | pure h =>
  obtain⟨v,h1,h2⟩:=h.sound cu hc.heap dst ty pos after g
  unfold Oper.wp
  rw [h1,Oper.upon_value]
  exact hK v w μ Z ⟨hc,fun _ h=>h,fun _ _ h=>h,Frame.refl _ _ _,h2,fun b h=>.inl h⟩
 | @alloc blk h =>
  obtain⟨m,g1,_,g3⟩:=dO d blk aT
  obtain⟨v,w',bm,Z',h1,h2⟩:=aCW hc h cu g1 g3 dst ty pos after g
  unfold Oper.wp
  rw [h1,Oper.upon_value]
  exact hK v w' bm Z' h2
 | @call bs h =>
  refine aFL hc h cu (fun i blk hb=>dO _ blk ?_) dst ty pos after g hK
  rw [awn]
  obtain⟨h1,h2⟩:=oC.1 hb
  exact⟨i,h1,by rw [h2]⟩
end
end Go.Lg
namespace Go.Lg
mutual
def LV.kill (b:Nat):LV->LV
 | .ref c sz off len=>if c=b then .any else .ref c sz off len
 | .ka c sz off len cap=>if c=b then .any else .ka c sz off len cap
 | .aB c sz i o=>if c=b then .any else .aB c sz i o
 | .agg l=>.agg (b7 b l)
 | .bf l=>.bf (b7 b l)
 | .any=>.any
 | .v x=>.v x
 | .list sz l=>.list sz l
 | .cm c=>.cm c
 | .dk f l=>.dk f l
def b7 (b:Nat):List LV->List LV
 | []=>[]
 | x :: xs=>x.kill b :: b7 b xs
end
mutual
theorem LV.atd (b:Nat):∀ (x:LV),(x.kill b).aw=x.aw
 | .any=>rfl | .v _=>rfl | .list ..=>rfl | .cm _=>rfl | .dk ..=>rfl
 | .bf _=>rfl
 | .ref c sz off len=>by simp only [LV.kill];split<;>rfl
 | .ka c sz off len cap=>by simp only [LV.kill];split<;>rfl
 | .aB c sz i o=>by simp only [LV.kill];split<;>rfl
 | .agg l=>by simp only [LV.kill,LV.aw,apF b l]
theorem apF (b:Nat):∀ (l:List LV),cU (b7 b l)=cU l
 | []=>rfl
 | x :: xs=>by simp only [b7,cU,LV.atd b x,apF b xs]
end
theorem LV.aqb (b:Nat) (x:LV):(x.kill b).isAgg=x.isAgg:=by
 cases x with
 | ref c sz off len=>simp only [LV.kill];split<;>rfl
 | ka c sz off len cap=>simp only [LV.kill];split<;>rfl
 | aB c sz i o=>simp only [LV.kill];split<;>rfl
 | _=>rfl
mutual
theorem LV.lV (b:Nat):∀ (x:LV),x.pure=true->x.kill b=x
 | .any,_=>rfl
 | .v _,_=>rfl
 | .list sz l,_=>rfl
 | .agg l,h=>by simp only [LV.kill,aey b l (by simpa [LV.pure] using h)]
 | .ref ..,h=>by simp [LV.pure] at h
 | .ka ..,h=>by simp [LV.pure] at h
 | .aB ..,h=>by simp [LV.pure] at h
 | .cm c,_=>rfl
 | .dk g l,_=>rfl
 | .bf l,h=>by simp [LV.pure] at h
theorem aey (b:Nat):∀ (l:List LV),aN l=true->b7 b l=l
 | [],_=>rfl
 | x :: xs,h=>by simp only [b7,LV.lV b x (pure_cons h).1,aey b xs (pure_cons h).2]
end
section
variable {Z Z':Nat->Prop} {μ bm:Nat->Option Nat} {w w':World} {b:Nat}
mutual
theorem aC.kill (hz:∀ id,Z id->Z' id) (hm:∀ c id,c≠b->μ c=some id->bm c=some id) (hf:Frame Z μ w w') :
  ∀ (lv:LV) (cs:List Value),aC Z μ w lv cs->aC Z' bm w' (lv.kill b) cs
 | .any,_,h=>by simpa [aC,LV.kill] using h
 | .v x,cs,h=>by simpa [aC,LV.kill] using h
 | .list sz l,cs,h=>by
   have hp:(LV.list sz l).pure=true:=by
    simp only [aC] at h
    obtain⟨a,len,cap,_,_,_,_,h9⟩:=h
    simpa [LV.pure] using h9
   exact aC.kv hz hf.z _ _ hp h
 | .agg l,cs,h=>by
   simp only [aC,LV.kill] at h ⊢
   exact cA.kill hz hm hf l cs h
 | .ref c sz off len,cs,h=>by
   simp only [LV.kill]
   split
   ·exact fun u hu=>aC.one _ _ h u hu
   ·rename_i aX
    simp only [aC] at h ⊢
    rcases h with h | ⟨id,cap,c',T,fz,h1,h2,h3,h4,h5⟩
    ·exact qj
    obtain⟨c2,h6,h7⟩:=hf.m c id h2 c' T fz h4
    exact .inr ⟨id,cap,c2,T,fz,h1,hm _ _ aX h2,h3,h6,ae⟩
 | .ka c sz off len cap,cs,h=>by
   simp only [LV.kill]
   split
   ·exact fun u hu=>aC.one _ _ h u hu
   ·rename_i aX
    simp only [aC] at h ⊢
    obtain⟨id,c',T,fz,h1,h2,h3,h4,h5⟩:=h
    obtain⟨c2,h6,h7⟩:=hf.m c id h2 c' T fz h4
    exact⟨id,c2,T,fz,h1,hm _ _ aX h2,h3,h6,ae⟩
 | .aB c sz i o,cs,h=>by
   simp only [LV.kill]
   split
   ·exact fun u hu=>aC.one _ _ h u hu
   ·rename_i aX
    simp only [aC] at h ⊢
    obtain⟨id,h1,h2⟩:=h
    exact⟨id,h1,hm _ _ aX h2⟩
 | .cm c,cs,h=>by
   have hp:(LV.cm c).pure=true:=by
    simp only [aC] at h
    obtain⟨blk,off,cc,T,fz,part,rest,_,_,_,_,_,_,h7⟩:=h
    simpa [LV.pure] using h7
   exact aC.kv hz hf.z _ _ hp h
 | .dk f cap,cs,h=>by
   have hp:(LV.dk f cap).pure=true:=by
    simp only [aC] at h
    obtain⟨vs,_,_,h3⟩:=h
    simpa [LV.pure] using h3
   exact aC.kv hz hf.z _ _ hp h
 | .bf _,_,h=>by simp [aC] at h
theorem cA.kill (hz:∀ id,Z id->Z' id) (hm:∀ c id,c≠b->μ c=some id->bm c=some id) (hf:Frame Z μ w w') :
  ∀ (l:List LV) (cs:List Value),cA Z μ w l cs->cA Z' bm w' (b7 b l) cs
 | [],cs,h=>by simpa [cA,b7] using h
 | x :: xs,cs,h=>by
   simp only [cA,b7] at h ⊢
   obtain⟨c1,c2,h1,h2,h3,h4⟩:=h
   exact⟨c1,c2,h1,by rw [LV.atd];exact h2,aC.kill hz hm hf x c1 h3,cA.kill hz hm hf xs c2 h4⟩
end
theorem aR.kill {sz:Nat} (hz:∀ id,Z id->Z' id) (hm:∀ c id,c≠b->μ c=some id->bm c=some id) (hf:Frame Z μ w w') :
  ∀ (l:List LV) (cs:List Value),aR Z μ w sz l cs->aR Z' bm w' sz (b7 b l) cs
 | [],cs,h=>by simpa [aR,b7] using h
 | x :: xs,cs,h=>by
   simp only [aR,b7] at h ⊢
   obtain⟨c1,c2,h1,h2,h3,h4⟩:=h
   exact⟨c1,c2,h1,h2,aC.kill hz hm hf x c1 h3,aR.kill hz hm hf xs c2 h4⟩
theorem fM.kill (hz:∀ id,Z id->Z' id) (hm:∀ c id,c≠b->μ c=some id->bm c=some id) (hf:Frame Z μ w w') {lv:LV} {v:Value}
  (h:fM Z μ w lv v):fM Z' bm w' (lv.kill b) v :=
 ⟨fun e=>let ⟨cs,h1,h2⟩:=h.1 (by rwa [LV.aqb] at e);⟨cs,h1,aC.kill hz hm hf _ _ h2⟩,fun e=>aC.kill hz hm hf _ _ (h.2 (by rwa [LV.aqb] at e))⟩
theorem fY.kill (hz:∀ id,Z id->Z' id) (hm:∀ c id,c≠b->μ c=some id->bm c=some id) (hf:Frame Z μ w w') :
  ∀ (l:List LV) (vs:List Value),fY Z μ w l vs->fY Z' bm w' (b7 b l) vs
 | [],_,h=>h
 | _ :: xs,_,⟨v,jT,h1,h2,h3⟩=>⟨v,jT,h1,h2.kill hz hm hf,fY.kill hz hm hf xs jT h3⟩
theorem bj.kill (hz:∀ id,Z id->Z' id) (hm:∀ c id,c≠b->μ c=some id->bm c=some id) (hf:Frame Z μ w w') {lv:LV} {v:Value}
  (h:bj Z μ w lv v):bj Z' bm w' (lv.kill b) v:=by
 cases lv with
 | bf l=>obtain⟨vs,h1,h2⟩:=h;exact⟨vs,h1,fY.kill hz hm hf _ _ h2⟩
 | any=>trivial
 | _ =>
  refine bj.sN (fun l e=>?_) (fM.kill hz hm hf h)
  simp only [LV.kill] at e
  first
   | cases e
   | (split at e<;>cases e)
end
structure St where
 slot:Nat->LV
 heap:bW
def St.ev (L:St):Operand->LV
 | .tmp t=>L.slot t
 | .const v=>if v.oneCell' then .v v else .any
 | .func f=>.dk f []
 | .global _=>.any
def St.put (L:St) (d:Option Nat) (r:LV):St :=
 match d with
 | some t=>⟨fun s=>bif n8 s t then r else L.slot s,L.heap⟩
 | none=>L
theorem g8 (L:St) (t:Nat) (r:LV) (s:Nat):(L.put (some t) r).slot s=if s=t then r else L.slot s:=by
 show (bif n8 s t then r else L.slot s)=_
 by_cases h:s=t
 ·subst h;simp
 ·have:n8 s t=false:=by rw [<-Bool.not_eq_true,Nat.beq_eq];exact h
  rw [this,if_neg h];rfl
def St.bO (L:St) (b:Nat) (x:Option bh):St:=⟨L.slot,fun c=>if c=b then x else L.heap c⟩
def St.kill (L:St) (b:Nat):St :=
 ⟨fun t=>(L.slot t).kill b,fun c=>if c=b then none else(L.heap c).map fun blk=>⟨blk.sz,b7 b blk.vals,blk.mt⟩⟩
def fV (n:Nat) (W:World) (X:XS) (Z0:Nat->Prop) (L:St) (a:Act) (w:World):Prop :=
 a.defers=[]/\a.tmps.size=n/\∃ μ Z,Core W X Z0 μ Z L.heap w/\∀ t,bj Z μ w (L.slot t) (a.tmps.getD t undef)
inductive wF (H:bW) (b:Nat):LV->LV->Prop
 | cE {x y} (h:cV H x y):wF H b x y
 | ref {sz off len}:wF H b (.ref b sz off len) (.ref 0 sz off len)
 | ptr {sz i o}:wF H b (.aB b sz i o) (.aB 0 sz i o)
inductive xq (H:bW) (b:Nat):List LV->List LV->Prop
 | nil:xq H b [] []
 | cons {x y xs ys} (h:wF H b x y) (t:xq H b xs ys):xq H b (x :: xs) (y :: ys)
inductive Names (b:Nat):List LV->Prop
 | ref {sz off len xs} (h:0<len):Names b (.ref b sz off len :: xs)
 | ptr {sz i o xs}:Names b (.aB b sz i o :: xs)
 | tl {x xs} (h:Names b xs):Names b (x :: xs)
inductive OpM (P:Program) (L:St) (dst:Option Tmp):Op->St->Prop
 | call {f xs as args r b blk blk'} (hb:L.heap b=some blk) (hm:blk.mt=true) (hp:aN blk.vals=true) (ha:xq L.heap b (xs.toList.map L.ev) args) (hn:Names b (xs.toList.map L.ev)) (hk:nc P f blk args r blk')
   (pQ:blk'.mt=true) (kO:aN blk'.vals=true) :
   OpM P L dst (.call ⟨.value (.func f),xs,as⟩) ((L.bO b (some blk')).put dst (r.bV fun _=>b))
 | aiS {T U E x y z k kl sz dN n d} (hT:P.underlying T=some (.slice E)) (hU:P.underlying U=some (.int k)) (hz:dj P E z) (hE:bC P E sz z.isAgg) (dQ:z.aw=sz) (hb:mg P E dN)
   (hx:L.ev x=.v (.slice none 0 0)) (hy:L.ev y=.v (.int kl (n:Nat))) (ga:L.heap d=none) (h0:0<n) (dM:0<sz) (hm:n*dN<=140737488355328) (gC:n<=4611686018427387904) :
   OpM P L dst (.call ⟨.builtin .append,#[x,y],#[T,U]⟩) ((L.bO d (some ⟨sz,ay n z,true⟩)).put dst (.ref d sz 0 n))
 | af6 {T U E x y z k kl sz dN len cp n d b blk} (hT:P.underlying T=some (.slice E)) (hU:P.underlying U=some (.int k)) (hz:dj P E z) (hE:bC P E sz z.isAgg) (dQ:z.aw=sz) (hb:mg P E dN)
   (hx:L.ev x=.ka b sz 0 len cp) (ll:L.heap b=some blk) (hs:blk.sz=sz) (hlen:len<=blk.vals.length) (hy:L.ev y=.v (.int kl (n:Nat))) (ga:L.heap d=none) (hg:cp<len+n) (dM:0<sz) (hm:(len+n)*dN<=140737488355328) (gC:len+n<=4611686018427387904) :
   OpM P L dst (.call ⟨.builtin .append,#[x,y],#[T,U]⟩) ((L.bO d (some ⟨sz,blk.vals.take len++ay n z,true⟩)).put dst (.ref d sz 0 (len+n)))
 | ovl {f x y Tx Ty fn b c sz o1 n1 o2 n2 ag tS tR e} (hf:P.funcs[f]?=some fn) (qG:(fn.name== "runtime.NumGoroutine")=false) (hb:fn.body.isNone=true) (hn:Extern.findNext fn=none) (he:Extern.find fn=some (Extern.SlicesOverlaps.overlaps #[tS,tS] #[tR]))
   (ht:P.underlying tS=some (.slice e)) (hE:bC P e sz ag) (hx:L.ev x=.ref b sz o1 n1) (hy:L.ev y=.ref c sz o2 n2) (vk:b≠c) (h1:0<n1) (h2:0<n2) (dM:0<sz) :
   OpM P L dst (.call ⟨.value (.func f),#[x,y],#[Tx,Ty]⟩) (L.put dst (.v (.bool false)))
inductive gO (P:Program) (L:St) (dst:Option Tmp):Op->St->Prop
 | store {T p x b sz i o blk y y'} (hp:L.ev p=.aB b sz i o) (hb:L.heap b=some blk) (hs:blk.sz=sz) (hm:blk.mt=true) (hi:blk.vals[i]?=some y) (hy:y.aw=sz)
   (mS:y.put o (L.ev x)=some y') (hT:bC P T (L.ev x).aw (L.ev x).isAgg) (aX:L.ev x≠.any/\∀ l,L.ev x≠.bf l) :
   gO P L dst (.store T p x) ((L.bO b (some ⟨sz,blk.vals.set i y',true⟩)).put dst .any)
 | iw {T U E E' d b sz len blk x y news z dN} (hx:L.ev x=.ref b sz 0 len) (hb:L.heap b=some blk) (hs:blk.sz=sz) (hm:blk.mt=true) (hlen:len<=blk.vals.length) (ga:d=b\/L.heap d=none) (gf:b≠0)
   (hT:P.underlying T=some (.slice E)) (hU:P.underlying U=some (.slice E')) (hz:dj P E z) (hE:bC P E sz z.isAgg) (dQ:z.aw=sz) (lD:mg P E dN)
   (hy:(∃ c off dX,L.ev y=.ref c sz off news.length/\c≠b/\L.heap c=some dX/\dX.sz=sz/\off+news.length<=dX.vals.length/\news=(dX.vals.drop off).take news.length/\aN news=true) \/
    L.ev y=.list sz news\/(L.ev y=.v (.slice none 0 0)/\news=[]))
   (bJ:(len+news.length)*dN<=140737488355328) (gC:len+news.length<=4611686018427387904) (dM:0<sz) :
   gO P L dst (.call ⟨.builtin .append,#[x,y],#[T,U]⟩) (((L.kill b).bO d (some ⟨sz,b7 b (blk.vals.take len++news),true⟩)).put dst (.ref d sz 0 (len+news.length)))
 | ae1 {T U E E' d sz x y news z dN} (hx:L.ev x=.v (.slice none 0 0)) (ga:L.heap d=none)
   (hT:P.underlying T=some (.slice E)) (hU:P.underlying U=some (.slice E')) (hz:dj P E z) (hE:bC P E sz z.isAgg) (dQ:z.aw=sz) (lD:mg P E dN)
   (hy:(∃ c off dX,L.ev y=.ref c sz off news.length/\L.heap c=some dX/\dX.sz=sz/\off+news.length<=dX.vals.length/\news=(dX.vals.drop off).take news.length/\aN news=true) \/
    L.ev y=.list sz news)
   (hn:0<news.length) (bJ:news.length*dN<=140737488355328) (gC:news.length<=4611686018427387904) (dM:0<sz) :
   gO P L dst (.call ⟨.builtin .append,#[x,y],#[T,U]⟩) ((L.bO d (some ⟨sz,news,true⟩)).put dst (.ref d sz 0 news.length))
 | clr {T E x b sz off n blk z} (hx:L.ev x=.ref b sz off n) (hb:L.heap b=some blk) (hs:blk.sz=sz) (hm:blk.mt=true) (hl:off+n<=blk.vals.length) (hT:P.underlying T=some (.slice E)) (hz:dj P E z) (dQ:z.aw=sz) :
   gO P L dst (.call ⟨.builtin .clear,#[x],#[T]⟩) ((L.bO b (some ⟨sz,blk.vals.take off++ay n z++blk.vals.drop (off+n),true⟩)).put dst .any)
 | cpy {T U E E' x y b sz off news blk ag} (hx:L.ev x=.ref b sz off news.length) (hb:L.heap b=some blk) (hs:blk.sz=sz) (hm:blk.mt=true) (hl:off+news.length<=blk.vals.length) (hT:P.underlying T=some (.slice E)) (hU:P.underlying U=some (.slice E')) (hE:bC P E sz ag)
   (hy:(∃ c off2 dX,L.ev y=.ref c sz off2 news.length/\L.heap c=some dX/\dX.sz=sz/\off2+news.length<=dX.vals.length/\news=(dX.vals.drop off2).take news.length)\/L.ev y=.list sz news) :
   gO P L dst (.call ⟨.builtin .copy,#[x,y],#[T,U]⟩) ((L.bO b (some ⟨sz,blk.vals.take off++news++blk.vals.drop (off+news.length),true⟩)).put dst .any)
 | ac3 {T U E E' x y b sz off n1 blk c off2 n2 dX news ag} (hx:L.ev x=.ref b sz off n1) (hb:L.heap b=some blk) (hs:blk.sz=sz) (hm:blk.mt=true) (hl:off<=blk.vals.length) (hT:P.underlying T=some (.slice E)) (hU:P.underlying U=some (.slice E')) (hE:bC P E sz ag)
   (hy:L.ev y=.ref c sz off2 n2) (hc:L.heap c=some dX) (wQ:dX.sz=sz) (hn:news.length=agx n2 n1) (h0:0<news.length) (ot:off2+news.length<=dX.vals.length) (re:news=(dX.vals.drop off2).take news.length) :
   gO P L dst (.call ⟨.builtin .copy,#[x,y],#[T,U]⟩) ((L.bO b (some ⟨sz,blk.vals.take off++news++blk.vals.drop (off+news.length),true⟩)).put dst .any)
theorem gO.app {P:Program} {L:St} {dst:Option Tmp} {T:TypeId} {U:TypeId} {E:TypeId} {E':TypeId} {d:Nat} {b:Nat} {sz:Nat} {len:Nat} {blk:bh} {x:Operand} {y:Operand} {news:List LV} {z:LV} {dN:Nat} (hd:dst=some d) (hx:L.ev x=.ref b sz 0 len) (hb:L.heap b=some blk) (hs:blk.sz=sz) (hm:blk.mt=true) (hlen:len<=blk.vals.length) (ga:d=b\/L.heap d=none) (gf:b≠0)
   (hT:P.underlying T=some (.slice E)) (hU:P.underlying U=some (.slice E')) (hz:dj P E z) (hE:bC P E sz z.isAgg) (dQ:z.aw=sz) (lD:mg P E dN)
   (hy:(∃ c off dX,L.ev y=.ref c sz off news.length/\c≠b/\L.heap c=some dX/\dX.sz=sz/\off+news.length<=dX.vals.length/\news=(dX.vals.drop off).take news.length/\aN news=true) \/
    L.ev y=.list sz news\/(L.ev y=.v (.slice none 0 0)/\news=[]))
   (bJ:(len+news.length)*dN<=140737488355328) (gC:len+news.length<=4611686018427387904) (dM:0<sz) :
  gO P L dst (.call ⟨.builtin .append,#[x,y],#[T,U]⟩) (((L.kill b).bO d (some ⟨sz,b7 b (blk.vals.take len++news),true⟩)).put dst (.ref d sz 0 (len+news.length))):=.iw hx hb hs hm hlen ga gf hT hU hz hE dQ lD hy bJ gC dM
section
variable {P:Program} {W w w':World} {X:XS} {Z0 Z:Nat->Prop} {μ:Nat->Option Nat} {H:bW} {a:Act} {L L':St} {n:Nat}
theorem lF (h:∀ t,bj Z μ w (L.slot t) (a.tmps.getD t undef)) (x:Operand):bj Z μ w (L.ev x) (a.eval x):=by
 cases x with
 | tmp t=>exact h t
 | const v =>
  simp only [St.ev,Act.eval]
  split
  ·exact bj.v (by assumption)
  ·trivial
 | func f =>
  simp only [St.ev,Act.eval]
  exact⟨by simp [LV.isAgg],fun _=>by simp [aC,aR,aN]⟩
 | global g=>simp only [St.ev];trivial
theorem rp {d:Option Nat} {r:LV} {v:Value} (hd:∀ t,d=some t->t<a.tmps.size) (h:∀ t,bj Z μ w (L.slot t) (a.tmps.getD t undef)) (hv:bj Z μ w r v) :
  ∀ t,bj Z μ w ((L.put d r).slot t) ((a.put d v).tmps.getD t undef):=by
 intro t
 cases d with
 | none=>exact h t
 | some s =>
  rw [g8]
  simp only [Act.put]
  by_cases hts:t=s
  ·subst hts
   have:=hd t rfl
   simp [this]
   exact hv
  ·have:=h t
   simp only [hts,if_false,dB,jP (Ne.symm hts)] at this ⊢
   exact this
theorem rm (a:Act) (d:Option Nat) (v:Value):(a.put d v).tmps.size=a.tmps.size:=by cases d<;>simp [Act.put]
theorem put_defers (a:Act) (d:Option Nat) (v:Value):(a.put d v).defers=a.defers:=by cases d<;>rfl
theorem lH (L:St) (d:Option Nat) (r:LV):(L.put d r).heap=L.heap:=by cases d<;>rfl
end
end Go.Lg
namespace Go.Lg
section
variable {P:Program} {W w w':World} {X:XS} {Z0 Z:Nat->Prop} {μ:Nat->Option Nat} {H:bW} {a:Act} {L L':St} {n:Nat}
theorem Core.rewrite {b id:Nat} {blk blk':bh} {c c':Array Value} {T:TypeId} {part rest:List Value} (hc:Core W X Z0 μ Z H w) (hb:μ b=some id) (hH:H b=some blk) (hm:blk.mt=true) (pQ:blk'.mt=true)
  (hcell:w.heap[id]?=some (.cells c T (0,0))) (bJ:c'.size=c.size) (h1:c'.toList=part++rest) (h2:aR Z μ w blk'.sz blk'.vals part)
  (hw:w'=w.setRow id c') :
  Core W X Z0 μ Z (fun k=>if k=b then some blk' else H k) w'/\Frame Z μ w w':=by
 subst hw
 have abX:(w.setRow id c').heap[id]?=some (.cells c' T (0,0)):=setRow_heap w id c c' T (0,0) hcell
 have xc:∀ k,k≠id->(w.setRow id c').heap[k]?=w.heap[k]?:=fun k hk=>by
  simp only [World.setRow,avZ,if_neg (Ne.symm hk)]
 have afa:(w.setRow id c').heap.size=w.heap.size:=by simp [World.setRow]
 have sn:¬ Z id:=hc.jx b id blk hb hH hm
 have dO:Frame Z μ w (w.setRow id c'):=by
  refine⟨fun k hk=>xc k (fun e=>sn (e ▸ hk)),fun b' k hk cc T' fz qO=>?_⟩
  by_cases e:k=id
  ·subst e
   rw [hcell] at qO;cases qO
   exact⟨c',abX,bJ⟩
  ·exact⟨cc,(xc k e).trans qO,rfl⟩
 refine⟨⟨?_,fun k hk=>by rw [afa];exact hc.lI k hk,hc.jG,hc.lK,hc.inj,hc.own,hc.x0,hc.ov,hc.x1,?_,?_,?_⟩,dO⟩
 ·refine⟨hc.cC.os,hc.cC.tape,hc.cC.output,by rw [afa];exact hc.cC.size,fun k hk hx=>?_,fun k hx c0 T0 z7 h0=>?_⟩
  have:k≠id:=by
   rintro rfl
   rcases hc.own b k hb with h | h
   ·omega
   ·exact hx h
  exact(xc k this).trans (hc.cC.block k hk hx)
  obtain⟨c1,g1,g2⟩:=hc.cC.vx k hx c0 T0 z7 h0
  by_cases e:k=id
  ·subst e
   rw [hcell] at g1;cases g1
   exact⟨c',abX,bJ.trans g2⟩
  ·exact⟨c1,(xc k e).trans g1,g2⟩
 ·intro b' k bk h g fj
  by_cases e:b'=b
  ·subst e;rw [hb] at h;cases h;exact sn
  ·rw [if_neg e] at g;exact hc.jx b' k bk h g fj
 ·intro b' k bk h g fj
  by_cases e:b'=b
  ·subst e;rw [if_pos rfl] at g;cases g;rw [pQ] at fj;cases fj
  ·rw [if_neg e] at g;exact hc.b9 b' k bk h g fj
 ·intro b' k h
  by_cases e:b'=b
  ·subst e;rw [hb] at h;cases h
   exact⟨blk',if_pos rfl,c',T,part,rest,abX,h1,h2.mono (fun _ h=>h) (fun _ _ h=>h) dO⟩
  ·obtain⟨bk,g1,g2⟩:=hc.heap b' k h
   have aX:k≠id:=fun e'=>e (hc.inj b' b k h (e' ▸ hb))
   exact⟨bk,by rw [if_neg e];exact g1,g2.mono (fun _ h=>h) (fun _ _ h=>h) dO (xc k aX)⟩
theorem az8 {T:TypeId} {id off:Nat} {c:Array Value} {U:TypeId} {v:Value} {sz:Nat} {ag:Bool} (hT:bC P T sz ag) (hcell:w.heap[id]?=some (.cells c U (0,0)))
  (hv:v.cells.size=sz) (h1:∀ u∈v.cells.toList,u.oneCell'=true) (pL:off+sz<=c.size) :
  (storeVar T ⟨id,off,none⟩ v).run P w=.ok () (w.setRow id (c.toList.take off++v.cells.toList++c.toList.drop (off+sz)).toArray):=by
 have:=run_storeCells_at P id off U v.cells.toList 0 c w hcell bw h1
 simp only [storeVar,Sem.run_bind,run_sizeOf hT,Result.andThen_ok,hv,ne_eq,not_true_eq_false,if_false,Sem.run_ite]
 simpa [hv] using this
theorem aER {T:TypeId} {p x:Operand} {b sz i o:Nat} {blk:bh} {y y':LV} (hc:Core W X Z0 μ Z L.heap w) (hr:∀ t,bj Z μ w (L.slot t) (a.tmps.getD t undef))
  (hp:L.ev p=.aB b sz i o) (hb:L.heap b=some blk) (hs:blk.sz=sz) (hm:blk.mt=true) (hi:blk.vals[i]?=some y) (hy:y.aw=sz)
  (mS:y.put o (L.ev x)=some y') (hT:bC P T (L.ev x).aw (L.ev x).isAgg) (aX:L.ev x≠.any/\∀ l,L.ev x≠.bf l)
  (dst:Option Tmp) (ty:TypeId) (pos:String) (after:Array Edge) (g:Option (Nat × Bool)) :
  ∃ w',(execOp a.eval ⟨dst,.store T p x,ty,pos,after,g⟩).run P w=.ok .skip w'/\Core W X Z0 μ Z (L.bO b (some ⟨sz,blk.vals.set i y',true⟩)).heap w'/\Frame Z μ w w':=by
 have e1:=lF (L:=L) hr p
 rw [hp] at e1
 have e2:=e1.2 rfl
 simp only [aC] at e2
 obtain⟨id,h1,h2⟩:=e2
 simp only [fJ,and_true] at h1
 obtain⟨blk',pA,c,U,part,rest,q1,q2,q3⟩:=hc.heap b id h2
 rw [hb] at pA;cases pA
 obtain⟨c1,c2,c3,_⟩:=(bj.yU aX.2 aX.1 (lF (L:=L) hr x)).cells aX.1
 obtain⟨pre,ch,post,g1,g2,g3,g4,g5⟩:=aR.get blk.vals part i y q3 hi
 obtain⟨zo,vB,vS,j1,j2,j3,j4,j5⟩:=LV.atc (L.ev x) (a.eval x).cells.toList c1 (by simpa using c2) y o y' ch mS g4 (by rw [g3,hs,hy])
 have iY:=g5 y' _ j4 (by
  have:=congrArg List.length j1
  simp only [k5] at this ⊢
  omega)
 have hlen:c.toList.length=pre.length+(zo.length+(vB.length+vS.length)+post.length)+rest.length:=by
  rw [q2,g1,j1];simp;omega
 have pL:i*sz+o+(L.ev x).aw<=c.size:=by
  rw [<-nC,hlen]
  rw [hs] at g2
  have:vB.length=(L.ev x).aw:=by rw [j3];simpa using c2
  omega
 have fg:=az8 (P:=P) (id:=id) (off:=i*sz+o) hT q1 c2 c3 pL
 have mc:(c.toList.take (i*sz+o)++(a.eval x).cells.toList++c.toList.drop (i*sz+o+(L.ev x).aw))=(pre++((zo++((a.eval x).cells.toList++vS))++post))++rest:=by
  rw [q2,g1,j1]
  have lr:i*sz+o=(pre++zo).length:=by rw [hs] at g2;simp;omega
  have ot:(L.ev x).aw=vB.length:=by rw [j3];simpa using c2.symm
  rw [lr,ot]
  have e:(pre++(zo++(vB++vS)++post))++rest=(pre++zo)++(vB++(vS++(post++rest))):=by simp
  rw [e,aha]
  have e2:List.drop ((pre++zo).length+vB.length) ((pre++zo)++(vB++(vS++(post++rest))))=vS++(post++rest):=by
   rw [<-qy,aaY,aaY]
  rw [e2];simp
 rw [mc] at fg
 have hcs:c.size=c.toList.length:=nC.symm
 have hA:(a.eval x).cells.toList.length=vB.length:=j3.symm
 obtain⟨k1,k2⟩:=Core.rewrite (w':=w.setRow id ((pre++((zo++((a.eval x).cells.toList++vS))++post))++rest).toArray) (blk':=⟨sz,blk.vals.set i y',true⟩)
  (part:=pre++((zo++((a.eval x).cells.toList++vS))++post)) (rest:=rest) hc h2 hb hm rfl q1
  (by rw [hcs,hlen];simp only [aba,k5,hA]) aT (by rw [<-hs];exact iY) rfl
 exact⟨_,by simp only [execOp,h1,Instr.storeAt,Instr.sureAddr,Sem.run_bind,Sem.run_pure,Result.andThen_ok,fg],k1,k2⟩
theorem wF.sound {b i0:Nat} (hc:Core W X Z0 μ Z H w) (hb:μ b=some i0) {x y:LV} {v:Value} (h:wF H b x y) (hr:bj Z μ w x v):fM Z (vO i0) w y v:=by
 cases h with
 | cE h=>exact cV.abE hc h hr
 | ref =>
  have:=hr.2 rfl
  refine⟨by simp [LV.isAgg],fun _=>?_⟩
  simp only [aC] at this ⊢
  rcases this with h | ⟨id,cap,c,T,fz,h1,h2,h3⟩
  ·exact qj
  rw [hb] at h2;cases h2
  exact .inr ⟨i0,cap,c,T,fz,h1,rfl,h3⟩
 | ptr =>
  have:=hr.2 rfl
  refine⟨by simp [LV.isAgg],fun _=>?_⟩
  simp only [aC] at this ⊢
  obtain⟨id,h1,h2⟩:=this
  rw [hb] at h2;cases h2
  exact⟨i0,h1,rfl⟩
theorem wF.ne {b:Nat} {x y:LV} (h:wF H b x y):(x≠.any/\∀ m,x≠.bf m):=by
 cases h with
 | cE h=>exact h.ne
 | ref=>exact⟨by simp,by simp⟩
 | ptr=>exact⟨by simp,by simp⟩
theorem aso {b i0:Nat} (hc:Core W X Z0 μ Z H w) (hb:μ b=some i0) {ρ:Operand->LV}:∀ (xs:List Operand) (args:List LV),xq H b (xs.map ρ) args->(∀ x∈xs,bj Z μ w (ρ x) (a.eval x)) ->
  fY Z (vO i0) w args (xs.map a.eval)
 | [],_,h,_=>by cases h;rfl
 | x :: xs,_,h,hr=>by
   cases h with
   | cons h t=>exact⟨_,_,rfl,h.sound hc hb (hr x aT),aso hc hb xs _ t (fun y hy=>hr y (by simp [hy]))⟩
theorem Names.mu {b:Nat} {ρ:Operand->LV}:∀ (xs:List Operand),Names b (xs.map ρ)->(∀ x∈xs,bj Z μ w (ρ x) (a.eval x))->∃ id,μ b=some id
 | [],h,_=>by cases h
 | x :: xs,h,hr=>by
   have h1:=hr x aT
   generalize hq:ρ x=q at h h1
   simp only [nv,hq] at h
   cases h with
   | ref hl =>
    have:=h1.2 rfl
    simp only [aC] at this
    rcases this with⟨_,h⟩ | ⟨id,_,_,_,_,_,h2,_⟩
    ·omega
    exact⟨id,h2⟩
   | ptr =>
    have:=h1.2 rfl
    simp only [aC] at this
    obtain⟨id,_,h2⟩:=this
    exact⟨id,h2⟩
   | tl h=>exact Names.mu xs h (fun y hy=>hr y (by simp [hy]))
theorem aHJ {f:FuncId} {xs:Array Operand} {as:Array TypeId} {args:List LV} {r:LV} {b:Nat} {blk blk':bh} {dst:Option Tmp} {ty:TypeId} {pos:String} {af:Array Edge} {g:Option (Nat × Bool)}
  {K:Act->World->Prop} {Q:Exit->Act->World->Prop}
  (hc:Core W X Z0 μ Z L.heap w) (hr:∀ t,bj Z μ w (L.slot t) (a.tmps.getD t undef)) (hb:L.heap b=some blk) (hm:blk.mt=true) (hp:aN blk.vals=true)
  (ha:xq L.heap b (xs.toList.map L.ev) args) (hn:Names b (xs.toList.map L.ev)) (hk:nc P f blk args r blk') (pQ:blk'.mt=true) (kO:aN blk'.vals=true)
  (hK:∀ v w' Z',Core W X Z0 μ Z' (L.bO b (some blk')).heap w'->(∀ t,bj Z' μ w' (L.slot t) (a.tmps.getD t undef))->bj Z' μ w' (r.bV fun _=>b) v->K (a.put dst v) w') :
  (Oper.mk dst (.call ⟨.value (.func f),xs,as⟩) ty pos af g).wp P a w K Q:=by
 obtain⟨i0,pF⟩:=Names.mu (μ:=μ) (Z:=Z) (w:=w) (a:=a) xs.toList hn (fun x _=>lF (L:=L) hr x)
 have hargs:=aso (a:=a) hc pF xs.toList args ha (fun x _=>lF (L:=L) hr x)
 have fg:(execOp a.eval (Oper.mk dst (.call ⟨.value (.func f),xs,as⟩) ty pos af g)).run P w=.ok (.enter f (xs.map a.eval)) w:=by
  have:=aim (P:=P) (w:=w) (args:=xs.map a.eval) hk.1
  simp only [execOp,resolve,Act.eval,Deferred.ofValue,Sem.run_bind,Sem.run_pure,Result.andThen_ok,invoke]
  simpa using this
 unfold Oper.wp
 rw [fg,Oper.upon_enter]
 obtain⟨aiz,g1,g2⟩:=hc.heap b i0 pF
 rw [hb] at g1;cases g1
 have nW:uy Z (vO i0) w blk i0:=by
  obtain⟨c,T,part,rest,q1,q2,q3⟩:=g2
  exact⟨c,T,part,rest,q1,q2,aR.kv (fun _ h=>h) (fun _ _=>rfl) _ _ _ hp q3⟩
 have:=hk.2 w Z (xs.toList.map a.eval) i0 hc.lI (hc.jx b i0 blk pF hb hm) nW hargs
 rw [show (xs.toList.map a.eval).toArray=xs.map a.eval from by apply u9;simp] at this
 refine this.mono ?_
 rintro e w' ⟨v,dV,Zr,rfl,th,hv⟩
 obtain⟨Z',h1,h2,h3,h4,h5⟩:=hc.aCv pF hb hm pQ kO th
 refine hK v w' Z' h1 (fun t=>(hr t).mono h3 (fun _ _ h=>h) h4) ?_
 exact(hv.mono h2 (fun _ _ h=>h) ⟨fun _ _=>rfl,(Frame.refl Zr dV w').m⟩).bV (fun _=>b) (fun k id h=>by obtain⟨rfl,rfl⟩:=h5 k id h;exact pF)
end
end Go.Lg
namespace Go.Lg
section
variable {P:Program} {W w w':World} {X:XS} {Z0 Z:Nat->Prop} {μ:Nat->Option Nat} {H:bW} {a:Act} {L L':St} {n:Nat}
def ko (μ:Nat->Option Nat) (b:Nat):Nat->Option Nat:=fun c=>if c=b then none else μ c
theorem Core.kill (b:Nat) (gf:b≠0) (hc:Core W X Z0 μ Z L.heap w):Core W X Z0 (ko μ b) Z (L.kill b).heap w:=by
 have hinv:∀ c id,ko μ b c=some id->c≠b/\μ c=some id:=fun c id h=>by
  unfold ko at h;split at h
  ·cases h
  ·exact⟨by assumption,h⟩
 have hH:∀ c blk,(L.kill b).heap c=some blk->c≠b->∃ bk,L.heap c=some bk/\blk=⟨bk.sz,b7 b bk.vals,bk.mt⟩:=fun c blk h aX=>by
  simp only [St.kill,if_neg aX,zN] at h
  obtain⟨bk,h1,h2⟩:=h
  exact⟨bk,h1,h2.symm⟩
 refine⟨hc.cC,hc.lI,hc.jG,hc.lK,?_,?_,?_,hc.ov,fun id h=>by simp only [ko,if_neg (Ne.symm gf)];exact hc.x1 id h,?_,?_,?_⟩
 ·intro c c' id h h'
  exact hc.inj c c' id (hinv c id h).2 (hinv c' id h').2
 ·intro c id h;exact hc.own c id (hinv c id h).2
 ·intro c id h;exact hc.x0 c id (hinv c id h).2
 ·intro c id blk h g hm
  obtain⟨bk,g1,rfl⟩:=hH c blk g (hinv c id h).1
  exact hc.jx c id bk (hinv c id h).2 g1 hm
 ·intro c id blk h g hm
  obtain⟨bk,g1,rfl⟩:=hH c blk g (hinv c id h).1
  exact hc.b9 c id bk (hinv c id h).2 g1 hm
 ·intro c id h
  obtain⟨aX,h1⟩:=hinv c id h
  obtain⟨bk,g1,cc,T,part,rest,g2,g3,g4⟩:=hc.heap c id h1
  refine⟨⟨bk.sz,b7 b bk.vals,bk.mt⟩,by simp [St.kill,aX,g1],cc,T,part,rest,g2,g3,?_⟩
  exact aR.kill (fun _ h=>h) (fun k id hk h=>by simp [ko,hk,h]) (Frame.refl _ _ _) _ _ g4
theorem aei (b:Nat) (hr:∀ t,bj Z μ w (L.slot t) (a.tmps.getD t undef)):∀ t,bj Z (ko μ b) w ((L.kill b).slot t) (a.tmps.getD t undef):=fun t =>
 bj.kill (fun _ h=>h) (fun k id hk h=>by simp [ko,hk,h]) (Frame.refl _ _ _) (hr t)
theorem Core.attach {d id:Nat} {blk:bh} {c c':Array Value} {T:TypeId} {part rest:List Value} (hc:Core W X Z0 μ Z H w) (hd:μ d=none) (hm:blk.mt=true)
  (mX:∀ k,μ k≠some id) (sn:¬ Z id) (cd:W.heap.size<=id\/X.y id) (bJ:c'.size=c.size)
  (hcell:w.heap[id]?=some (.cells c T (0,0))) (h1:c'.toList=part++rest) (h2:aR Z μ w blk.sz blk.vals part)
  (hw:w'=w.setRow id c') :
  Core W X Z0 (qg μ d id) Z (fun k=>if k=d then some blk else H k) w'/\Frame Z μ w w'/\(∀ b k,μ b=some k->qg μ d id b=some k)/\w'.heap[id]?=some (.cells c' T (0,0)):=by
 subst hw
 have abX:(w.setRow id c').heap[id]?=some (.cells c' T (0,0)):=setRow_heap w id c c' T (0,0) hcell
 have xc:∀ k,k≠id->(w.setRow id c').heap[k]?=w.heap[k]?:=fun k hk=>by
  simp only [World.setRow,avZ,if_neg (Ne.symm hk)]
 have afa:(w.setRow id c').heap.size=w.heap.size:=by simp [World.setRow]
 have dO:Frame Z μ w (w.setRow id c') :=
  ⟨fun k hk=>xc k (fun e=>sn (e ▸ hk)),fun b' k hk cc T' fz qO=>⟨cc,(xc k (fun e=>mX b' (e ▸ hk))).trans qO,rfl⟩⟩
 have hup:∀ b k,μ b=some k->qg μ d id b=some k:=fun b k h=>by
  unfold qg;split
  ·subst_vars;rw [hd] at h;cases h
  ·exact h
 have hinv:∀ b k,qg μ d id b=some k->(b=d/\k=id)\/(b≠d/\μ b=some k):=fun b k h=>by
  unfold qg at h;split at h
  ·cases h;exact .inl ⟨by assumption,rfl⟩
  ·exact .inr ⟨by assumption,h⟩
 refine⟨⟨?_,fun k hk=>by rw [afa];exact hc.lI k hk,hc.jG,hc.lK,?_,?_,?_,hc.ov,fun k h=>hup 0 k (hc.x1 k h),?_,?_,?_⟩,dO,hup,abX⟩
 ·exact⟨hc.cC.os,hc.cC.tape,hc.cC.output,by rw [afa];exact hc.cC.size,fun k hk hx=>(xc k (by
    rintro rfl
    rcases cd with h | h
    ·omega
    ·exact hx (.inr h))).trans (hc.cC.block k hk hx),
   fun k hx c0 T0 z7 h0=>by
    obtain⟨c1,g1,g2⟩:=hc.cC.vx k hx c0 T0 z7 h0
    by_cases e:k=id
    ·subst e
     rw [hcell] at g1;cases g1
     exact⟨c',abX,bJ.trans g2⟩
    ·exact⟨c1,(xc k e).trans g1,g2⟩⟩
 ·intro b b' k h h'
  rcases hinv b k h with⟨rfl,rfl⟩ | ⟨n1,h3⟩<;>rcases hinv b' _ h' with⟨rfl,e⟩ | ⟨n2,h4⟩
  ·rfl
  ·exact absurd h4 (mX b')
  ·exact absurd (e ▸ h3) (mX b)
  ·exact hc.inj b b' k h3 h4
 ·intro b k h
  rcases hinv b k h with⟨rfl,rfl⟩ | ⟨n1,h3⟩
  ·exact cd.imp (fun h=>h) .inr
  ·exact hc.own b k h3
 ·intro b k h hx
  rcases hinv b k h with⟨rfl,rfl⟩ | ⟨n1,h3⟩
  ·exact absurd (hc.x1 _ hx) (mX 0)
  ·exact hc.x0 b k h3 hx
 ·intro b k bk h g fj
  rcases hinv b k h with⟨rfl,rfl⟩ | ⟨n1,h3⟩
  ·exact sn
  ·rw [if_neg n1] at g;exact hc.jx b k bk h3 g fj
 ·intro b k bk h g fj
  rcases hinv b k h with⟨rfl,rfl⟩ | ⟨n1,h3⟩
  ·rw [if_pos rfl] at g;cases g;rw [hm] at fj;cases fj
  ·rw [if_neg n1] at g;exact hc.b9 b k bk h3 g fj
 ·intro b k h
  rcases hinv b k h with⟨rfl,rfl⟩ | ⟨n1,h3⟩
  ·exact⟨blk,if_pos rfl,c',T,part,rest,abX,h1,h2.mono (fun _ h=>h) hup dO⟩
  ·obtain⟨bk,g1,g2⟩:=hc.heap b k h3
   exact⟨bk,by rw [if_neg n1];exact g1,g2.mono (fun _ h=>h) hup dO (xc k (fun e=>mX b (e ▸ h3)))⟩
theorem ajB {U E':TypeId} {y:Operand} {news:List LV} {sz:Nat} (hc:Core W X Z0 μ Z L.heap w) (hr:∀ t,bj Z μ w (L.slot t) (a.tmps.getD t undef)) (hU:P.underlying U=some (.slice E'))
  (hy:(∃ c off dX,L.ev y=.ref c sz off news.length/\L.heap c=some dX/\dX.sz=sz/\off+news.length<=dX.vals.length/\news=(dX.vals.drop off).take news.length) \/
    L.ev y=.list sz news\/(L.ev y=.v (.slice none 0 0)/\news=[])) :
  ∃ cells,Src P sz U (a.eval y) news.length cells w/\aR Z μ w sz news cells:=by
 have e1:=lF (L:=L) hr y
 have one:∀ (l:List LV) (cs:List Value),aR Z μ w sz l cs->∀ u∈cs,u.oneCell'=true:=by
  intro l
  induction l with
  | nil=>intro cs h;simp only [aR] at h;simp [h]
  | cons x xs ih =>
   intro cs h u hu
   simp only [aR] at h
   obtain⟨c1,c2,rfl,h2,h3,h4⟩:=h
   rcases oy.1 hu with hu | hu
   ·exact aC.one _ _ h3 u hu
   ·exact ih c2 h4 u hu
 rcases hy with⟨cc,off,dX,h1,h2,h3,h4,h5⟩ | h1 | ⟨h1,rfl⟩
 ·rw [h1] at e1
  have e2:=e1.2 rfl
  simp only [aC] at e2
  rcases e2 with⟨q1,q2⟩ | ⟨id,cap,c,T,fz,q1,q2,q3,q4,q5⟩
  ·simp only [fJ,and_true] at q1
   have aga:=m8 q2
   subst aga
   refine⟨[],?_,by simp [aR]⟩
   rw [q1]
   exact Src.ofNil w hU 0
  simp only [fJ,and_true] at q1
  obtain⟨bk,g1,c',T',part,rest,g2,g3,g4⟩:=hc.heap cc id q2
  rw [h2] at g1;cases g1
  rw [q4] at g2;cases g2
  obtain⟨c1,c2,d1,d2,d3⟩:=aR.split (dX.vals.take off) (dX.vals.drop off) part abK
  obtain⟨c3,c4,d4,d5,d6⟩:=aR.split ((dX.vals.drop off).take news.length) ((dX.vals.drop off).drop news.length) c2 (by rw [vv];exact d3)
  rw [<-h5,h3] at d5
  have lr:=aR.length _ _ d2
  rw [eG,lL ae,h3] at lr
  have aab:=adm (w:=w) (off:=off*sz) (part:=c3) (rest:=c4++rest) q4 (by rw [g3,d1,d4,<-lr];simp)
  refine⟨c3,?_,d5⟩
  rw [q1]
  exact Src.ofSlice w hU _ _ _ c3 (aR.length _ _ d5) (fun j u hj=>by rw [Addr.add_mid];exact aab j u hj) (one _ _ d5)
 ·rw [h1] at e1
  have e2:=e1.2 rfl
  simp only [aC] at e2
  obtain⟨ad,len,cap,q1,q2,q3,q4,_⟩:=e2
  simp only [fJ,and_true] at q1
  rcases q4 with q4 | ⟨blk,off,c,T,fz,part,rest,g1,g2,g3,g4,g5⟩
  ·subst q4
   simp at q2;subst q2
   refine⟨[],?_,rfl⟩
   rw [q1]
   cases ad with
   | none=>exact Src.ofNil w hU cap
   | some ad=>exact Src.ofSlice w hU ad 0 cap [] aT aT aT
  ·subst g1
   have aab:=adm (w:=w) (part:=part) (rest:=rest) g3 g4
   refine⟨part,?_,g5⟩
   rw [q1,q2]
   exact Src.ofSlice w hU _ _ _ part (aR.length _ _ g5) (fun j u hj=>by rw [Addr.add_mid];exact aab j u hj) (one _ _ g5)
 ·rw [h1] at e1
  have e2:=e1.eu
  refine⟨[],?_,rfl⟩
  rw [e2]
  exact Src.ofNil w hU 0
theorem ae3 {d:Nat} {blk:bh} {H:bW} (hd:H d=none):H.le (fun k=>if k=d then some blk else H k):=fun b bk h=>by
 have:b≠d:=by rintro rfl;rw [hd] at h;cases h
 exact⟨bk.mt,by simp only [if_neg this];exact h,fun h=>h,fun h1 h2=>by rw [h1] at h2;cases h2⟩
theorem ai4 {g o:Nat} {T:TypeId} {vs:List Value} {cur:Array Value} (hg:w.heap[g]?=some (.cells cur T (0,0))) (hl:o+vs.length<=cur.size) (h1:∀ v∈vs,v.oneCell'=true) :
  w.setCells g o vs=w.setRow g (cur.toList.take o++vs++cur.toList.drop (o+vs.length)).toArray:=by
 have a:=run_storeCells_at (default:Program) g o T vs 0 cur w hg (by simpa using hl) h1
 have hc:∀ j,j<vs.length->(w.cell? ⟨g,o+j,none⟩).isSome=true:=fun j hj=>by
  rw [cell_of_row w g (o+j) cur T (0,0) hg,oL ae];rfl
 have hf:∀ j,j<vs.length->w.frozen? ⟨g,o+j,none⟩=false:=fun j hj=>by simp [World.frozen?,hg]
 have b:=run_storeCells_cells (P:=(default:Program)) g o vs 0 w (by simpa using hc) (by simpa using hf) h1
 rw [b] at a
 simp only [mf,Result.ok.injEq,true_and] at a
 exact a
theorem amO {T U E ty:TypeId} {d sz:Nat} {news olds:List LV} {z:LV} {dN:Nat} {oldc eM:List Value} {base:Option Addr} {sLen sCap:Nat} {xv yv:Value}
  (hc:Core W X Z0 μ Z H w) (hd:H d=none) (hT:P.underlying T=some (.slice E)) (hz:dj P E z) (hE:bC P E sz z.isAgg) (dQ:z.aw=sz) (lD:mg P E dN)
  (hx:xv=.slice base sLen sCap) (hold:(Builtin.firstCells sz sLen (.slice base sLen sCap)).run P w.drew=.ok oldc.toArray w.drew)
  (hs:Src P sz U yv news.length eM w) (ho:aR Z μ w sz olds oldc) (c9:olds.length=sLen) (hn:aR Z μ w sz news eM)
  (hg:sCap<sLen+news.length) (bJ:(sLen+news.length)*dN<=140737488355328) (gC:sLen+news.length<=4611686018427387904) :
  ∃ v w' bm Z',(Builtin.append_ #[T,U] ty #[xv,yv]).run P w=.ok v w'/\Core W X Z0 bm Z' (fun k=>if k=d then some ⟨sz,olds++news,true⟩ else H k) w' /\
   (∀ id,Z id->Z' id)/\(∀ b id,μ b=some id->bm b=some id)/\Frame Z μ w w'/\bj Z' bm w' (.ref d sz 0 (sLen+news.length)) v:=by
 obtain⟨i,zv,z1,z2,z3,z4⟩:=hz
 have vG:i.size=sz:=by have:=hE.1;rw [z1] at this;simpa using this
 have xH:i.bytes=dN:=by obtain⟨i',g1,g2⟩:=lD;rw [z1] at g1;cases g1;exact g2
 have xi:=nextslicecap_le hg
 have pL:Builtin.nextslicecap (sLen+news.length) sCap*i.bytes<=281474976710656:=by
  rw [xH]
  calc Builtin.nextslicecap (sLen+news.length) sCap*dN<=(2*(sLen+news.length))*dN:=fP _ xi
   _=2*((sLen+news.length)*dN):=by rw [fH]
   _<=281474976710656:=by omega
 subst hx
 have fg:=run_append_grow_src (P:=P) w T U ty E i zv hT z1 z2 base sLen sCap oldc (by rw [vG];exact hold) yv news.length eM (by rw [vG];exact hs) hg ae pL
 have aco:μ d=none:=by
  cases hq:μ d with
  | none=>rfl
  | some id=>obtain⟨bk,g,_⟩:=hc.heap d id hq;rw [hd] at g;cases g
 have hcz:zv.cells.size=sz:=by
  have h1:=aC.len (z4 Z μ w) (LV.fk z3)
  rw [<-nC,h1,dQ]
 have eE:=aR.append _ _ _ _ ho hn
 have hlen:=aR.length _ _ eE
 obtain⟨Z1,k1,k2⟩:=hc.xl (ae3 (blk:=⟨sz,olds++news,true⟩) hd)
 have ay9:sD w (w.drew.alloc (.cells ((oldc++eM).toArray++Builtin.zeroCells zv.cells (grownCap w (sLen+news.length) sCap E-(sLen+news.length))) E)) _:=⟨rfl,rfl,rfl,rfl⟩
 obtain⟨Z2,h1,h2,h3,h4,h5,h6⟩:=k1.push (d:=d) (blk:=⟨sz,olds++news,true⟩) (part:=oldc++eM) (rest:=(Builtin.zeroCells zv.cells (grownCap w (sLen+news.length) sCap E-(sLen+news.length))).toList)
  aT aco ay9 aT (eE.mono k2 (fun _ _ h=>h) ⟨fun _ _=>rfl,(Frame.refl Z μ w).m⟩)
 refine⟨_,_,_,Z2,fg,h1,fun id h=>h2 id (k2 id h),h3,⟨fun id h=>h4.z id (k2 id h),h4.m⟩,⟨by simp [LV.isAgg],fun _=>?_⟩⟩
 simp only [aC]
 have kj:=grownCap_ge w (sLen+news.length) sCap E
 refine .inr ⟨w.heap.size,_,_,E,(0,0),by simp,h5,kj,h6,?_⟩
 rw [ahn,aba,hlen,size_zeroCells,hcz,k5,c9,fw,<-hY]
 exact fP _ ae
theorem uw (hc:Core W X Z0 μ Z H w) {d:Nat} (hd:H d=none):μ d=none:=by
 cases hq:μ d with
 | none=>rfl
 | some id=>obtain⟨bk,g,_⟩:=hc.heap d id hq;rw [hd] at g;cases g
theorem aR.aes {sz b:Nat} (l:List LV) (cs:List Value) (h:aR Z μ w sz l cs):aR Z (ko μ b) w sz (b7 b l) cs :=
 aR.kill (fun _ h=>h) (fun k id hk h=>by simp [ko,hk,h]) (Frame.refl _ _ _) _ _ h
theorem agP (b:Nat):∀ l:List LV,(b7 b l).length=l.length
 | []=>rfl
 | x :: xs=>by simp [b7,agP b xs]
theorem aib (b:Nat):∀ l m:List LV,b7 b (l++m)=b7 b l++b7 b m
 | [],m=>rfl
 | x :: xs,m=>by simp [b7,aib b xs m]
theorem Core.ais {H':bW} (hc:Core W X Z0 μ Z H w) (hh:∀ b id,μ b=some id->H' b=H b):Core W X Z0 μ Z H' w :=
 ⟨hc.cC,hc.lI,hc.jG,hc.lK,hc.inj,hc.own,hc.x0,hc.ov,hc.x1,fun b id blk h g=>hc.jx b id blk h ((hh b id h).symm.trans g),fun b id blk h g=>hc.b9 b id blk h ((hh b id h).symm.trans g),
  fun b id h=>let ⟨blk,g1,g2⟩:=hc.heap b id h;⟨blk,(hh b id h).trans g1,g2⟩⟩
theorem aDG {T U E E' ty:TypeId} {d b sz len:Nat} {blk:bh} {x y:Operand} {news:List LV} {z:LV} {dN:Nat} (hc:Core W X Z0 μ Z L.heap w) (hr:∀ t,bj Z μ w (L.slot t) (a.tmps.getD t undef))
  (hx:L.ev x=.ref b sz 0 len) (hb:L.heap b=some blk) (hs:blk.sz=sz) (hm:blk.mt=true) (hlen:len<=blk.vals.length) (ga:d=b\/L.heap d=none) (gf:b≠0)
  (hT:P.underlying T=some (.slice E)) (hU:P.underlying U=some (.slice E')) (hz:dj P E z) (hE:bC P E sz z.isAgg) (dQ:z.aw=sz) (lD:mg P E dN)
  (hy:(∃ c off dX,L.ev y=.ref c sz off news.length/\c≠b/\L.heap c=some dX/\dX.sz=sz/\off+news.length<=dX.vals.length/\news=(dX.vals.drop off).take news.length/\aN news=true) \/
    L.ev y=.list sz news\/(L.ev y=.v (.slice none 0 0)/\news=[]))
  (bJ:(len+news.length)*dN<=140737488355328) (gC:len+news.length<=4611686018427387904) :
  ∃ v w' bm Z',(Builtin.append_ #[T,U] ty #[a.eval x,a.eval y]).run P w=.ok v w' /\
   Core W X Z0 bm Z' ((L.kill b).bO d (some ⟨sz,b7 b (blk.vals.take len++news),true⟩)).heap w' /\
   (∀ t,bj Z' bm w' ((L.kill b).slot t) (a.tmps.getD t undef))/\bj Z' bm w' (.ref d sz 0 (len+news.length)) v:=by
 obtain⟨eM,rJ,re⟩:=ajB (P:=P) hc hr hU (y:=y) (news:=news) (sz:=sz) (by
  rcases hy with⟨c,off,b2,q1,_,q3,q4,q5,q6,_⟩ | h | h
  ·exact .inl ⟨c,off,b2,q1,q3,q4,q5,q6⟩
  ·exact .inr (.inl h)
  ·exact .inr (.inr h))
 have e1:=lF (L:=L) hr x
 rw [hx] at e1
 have e2:=e1.2 rfl
 simp only [aC] at e2
 have hkd:(L.kill b).heap d=none:=by
  rcases ga with rfl | h
  ·simp [St.kill]
  ·simp only [St.kill];split
   ·rfl
   ·rw [h];rfl
 rcases e2 with⟨q1,rfl⟩ | ⟨id,cap,c,U',fz,q1,q2,q3,q4,q5⟩
 ·simp only [fJ,and_true] at q1
  have hk:=hc.kill b gf
  have km:=aei b hr
  have ir:(b7 b news).length=news.length:=agP b news
  cases hnw:news with
  | nil =>
   subst hnw
   obtain⟨i,zv,z1,z2,z3,z4⟩:=hz
   have vG:i.size=sz:=by have:=hE.1;rw [z1] at this;simpa using this
   have akC:eM=[]:=by simpa [aR] using re
   subst akC
   have fg:=run_append_nothing (P:=P) w T U ty E i hT z1 none 0 0 (bp _) (a.eval y) (vG ▸ rJ)
   refine⟨_,w,ko μ b,Z,by rw [q1];exact fg,?_,km,⟨by simp [LV.isAgg],fun _=>by simp [aC]⟩⟩
   exact hk.ais fun c id xZ=>by
    have:c≠d:=by rintro rfl;rw [uw hk hkd] at xZ;cases xZ
    simp [St.bO,this]
  | cons x0 xs0 =>
   rw [<-hnw]
   have my:0<news.length:=by rw [hnw];simp
   obtain⟨v,w',bm,Z',r1,r2,r3,r4,r5,r6⟩:=amO (P:=P) (ty:=ty) (U:=U) (olds:=[]) (news:=b7 b news) (oldc:=[]) (sLen:=0) (sCap:=0) hk hkd hT hz hE dQ lD q1 (by simp [Builtin.firstCells]) (by rw [ir];exact rJ)
    (by simp [aR]) rfl (aR.aes _ _ re) (by rw [ir];omega) (by rw [ir];exact bJ) (by rw [ir];exact gC)
   rw [afw] at r2
   rw [ir] at r6
   exact⟨v,w',bm,Z',r1,by simpa [St.bO] using r2,fun t=>(km t).mono r3 r4 r5,r6⟩
 simp only [fJ,and_true,adN] at q1
 obtain⟨bk,g1,c',T',part,rest,g2,g3,g4⟩:=hc.heap b id q2
 rw [hb] at g1;cases g1
 rw [q4] at g2;cases g2
 simp only [fw] at q5
 obtain⟨p1,p2,d1,d2,d3⟩:=aR.split (blk.vals.take len) (blk.vals.drop len) part abK
 rw [hs] at d2
 have ke:=aR.length _ _ d2
 rw [eG,lL hlen] at ke
 have hk:=hc.kill b gf
 have km:=aei b hr
 have mX:∀ k,ko μ b k≠some id:=fun k h=>by
  unfold ko at h;split at h
  ·cases h
  ·rename_i aX;exact aX (hc.inj k b id h q2)
 have cd:W.heap.size<=id\/X.y id:=by
  rcases hc.own b id q2 with h | h | h
  ·exact qj
  ·exact absurd (hc.x0 b id q2 h) gf
  ·exact .inr h
 have sn:=hc.jx b id blk q2 hb hm
 have mz:=aR.length _ _ re
 by_cases alP:len+news.length<=cap
 ·have pL:len*sz+eM.length<=c.size:=by
   rw [mz,<-hY]
   exact a9 (fP _ alP) q5
  have wm:∀ j,j<eM.length->(w.cell? ⟨id,0+len*sz+j,none⟩).isSome=true:=fun j hj=>by
   rw [cell_of_row w id _ c _ _ q4,oL ae];rfl
  have hc2:∀ j,j<eM.length->w.frozen? ⟨id,0+len*sz+j,none⟩=false:=fun j hj=>by simp [World.frozen?,q4]
  obtain⟨i,zv,z1,z2,z3,z4⟩:=hz
  have vG:i.size=sz:=by have:=hE.1;rw [z1] at this;simpa using this
  have fg:=run_append_room_src (P:=P) w T U ty E i hT z1 id 0 len cap (a.eval y) news.length eM (by rw [vG];exact rJ) alP (by rw [vG];exact wm) (by rw [vG];exact hc2)
  rw [vG,fw,ai4 q4 pL rJ.one] at fg
  have hold:=(aR.aes (b:=b) _ _ d2)
  have mc:=(aR.aes (b:=b) _ _ re)
  have eE:=aR.append _ _ _ _ hold mc
  rw [<-aib] at eE
  have azs:c.toList.take (len*sz)++eM++c.toList.drop (len*sz+eM.length)=(p1++eM)++c.toList.drop (len*sz+eM.length):=by
   rw [g3,d1,<-ke];simp
  rw [azs] at fg
  obtain⟨k1,k2,k3,k4⟩:=hk.attach (d:=d) (id:=id) (blk:=⟨sz,b7 b (blk.vals.take len++news),true⟩) (c':=((p1++eM)++c.toList.drop (len*sz+eM.length)).toArray)
   (part:=p1++eM) (rest:=c.toList.drop (len*sz+eM.length)) (uw hk hkd) rfl mX sn cd (by
    simp only [aba,k5,ke,kE,nC]
    omega) q4 aT eE rfl
  refine⟨_,_,_,Z,by rw [q1];exact fg,k1,fun t=>(km t).mono (fun _ h=>h) k3 k2,⟨by simp [LV.isAgg],fun _=>?_⟩⟩
  simp only [aC]
  refine .inr ⟨id,cap,_,U',(0,0),by simp,by simp [qg],alP,k4,?_⟩
  rw [fw]
  simp only [aba,k5,ke,kE,nC]
  omega
 ·have hold:(Builtin.firstCells sz len (.slice (some ⟨id,0,none⟩) len cap)).run P w.drew=.ok p1.toArray w.drew:=by
   refine run_firstCells_some w.drew sz len ⟨id,0,none⟩ len cap p1 ke (fun j v hj=>?_)
   rw [Addr.add_mid]
   have aab:=adm (w:=w) (off:=0) (part:=p1) (rest:=p2++rest) q4 (by rw [lQ,g3,d1];simp)
   exact aab j v hj
  have ir:(b7 b news).length=news.length:=agP b news
  obtain⟨v,w',bm,Z',r1,r2,r3,r4,r5,r6⟩:=amO (P:=P) (ty:=ty) (U:=U) (olds:=b7 b (blk.vals.take len)) (news:=b7 b news) hk hkd hT hz hE dQ lD q1 hold (by rw [ir];exact rJ)
   (aR.aes _ _ d2) (by rw [agP,eG];omega) (aR.aes _ _ re) (by rw [ir];omega) (by rw [ir];exact bJ) (by rw [ir];exact gC)
  rw [<-aib] at r2
  rw [ir] at r6
  exact⟨v,w',bm,Z',r1,r2,fun t=>(km t).mono r3 r4 r5,r6⟩
theorem aBc {T U E ty:TypeId} {d sz n:Nat} {x y:Operand} {z:LV} {dN:Nat} {k kl:IntKind} (hc:Core W X Z0 μ Z L.heap w) (hr:∀ t,bj Z μ w (L.slot t) (a.tmps.getD t undef))
  (hT:P.underlying T=some (.slice E)) (hU:P.underlying U=some (.int k)) (hz:dj P E z) (hE:bC P E sz z.isAgg) (dQ:z.aw=sz) (hb:mg P E dN)
  (hx:L.ev x=.v (.slice none 0 0)) (hy:L.ev y=.v (.int kl (n:Nat))) (ga:L.heap d=none) (h0:0<n) (dM:0<sz) (hm:n*dN<=140737488355328) (gC:n<=4611686018427387904) :
  ∃ v w' bm Z',(Builtin.append_ #[T,U] ty #[a.eval x,a.eval y]).run P w=.ok v w'/\Core W X Z0 bm Z' (L.bO d (some ⟨sz,ay n z,true⟩)).heap w' /\
   (∀ t,bj Z' bm w' (L.slot t) (a.tmps.getD t undef))/\bj Z' bm w' (.ref d sz 0 n) v:=by
 obtain⟨i,zv,z1,z2,z3,z4⟩:=hz
 have e1:=lF (L:=L) hr x
 rw [hx] at e1
 have e1:=e1.eu
 have e2:=lF (L:=L) hr y
 rw [hy] at e2
 have e2:=e2.eu
 have aX:=LV.fk z3
 have vG:i.size=sz:=by have:=hE.1;rw [z1] at this;simpa using this
 have xH:i.bytes=dN:=by obtain⟨i',g1,g2⟩:=hb;rw [z1] at g1;cases g1;exact g2
 have ox:=aC.len (z4 Z μ w) aX
 have hcz:zv.cells.size=sz:=by rw [<-nC,ox,dQ]
 have xi:=nextslicecap_le (show 0<n from h0)
 have pL:Builtin.nextslicecap n 0*i.bytes<=281474976710656:=by
  rw [xH]
  calc Builtin.nextslicecap n 0*dN<=(2*n)*dN:=fP _ xi
   _=2*(n*dN):=by rw [fH]
   _<=281474976710656:=by omega
 have fg:=azB (P:=P) (w:=w) T U E ty k kl i zv hT hU z1 z2 n h0 ae ae (by rw [xH];exact hm) pL
 have aco:=uw hc ga
 obtain⟨Z1,k1,k2⟩:=hc.xl (ae3 (blk:=⟨sz,ay n z,true⟩) ga)
 have eE:=aR.replicate (sz:=sz) (z4 Z1 μ w) (by rw [ox,dQ]) n
 obtain⟨Z2,h1,h2,h3,h4,h5,h6⟩:=k1.push (d:=d) (blk:=⟨sz,ay n z,true⟩) (part:=(ay n zv.cells.toList).flatten) (rest:=(Builtin.zeroCells zv.cells (grownCap w n 0 E-n)).toList) aT aco
  (⟨rfl,rfl,rfl,rfl⟩:sD w (w.drew.alloc (.cells (Builtin.zeroCells zv.cells n++Builtin.zeroCells zv.cells (grownCap w n 0 E-n)) E)) _) (by rw [akW,amj]) eE
 have dO:Frame Z μ w (w.drew.alloc (.cells (Builtin.zeroCells zv.cells n++Builtin.zeroCells zv.cells (grownCap w n 0 E-n)) E)):=⟨fun id h=>h4.z id (k2 id h),h4.m⟩
 refine⟨_,_,_,Z2,by rw [e1,e2];exact fg,h1,fun t=>(hr t).mono (fun id h=>h2 id (k2 id h)) h3 dO,⟨by simp [LV.isAgg],fun _=>?_⟩⟩
 simp only [aC]
 have kj:=grownCap_ge w n 0 E
 refine .inr ⟨w.heap.size,_,_,E,(0,0),by simp,h5,kj,h6,?_⟩
 rw [ahn,size_zeroCells,size_zeroCells,hcz,fw,<-hY]
 exact fP _ ae
theorem aCp {T U E E' ty:TypeId} {d sz:Nat} {x y:Operand} {news:List LV} {z:LV} {dN:Nat} (hc:Core W X Z0 μ Z L.heap w) (hr:∀ t,bj Z μ w (L.slot t) (a.tmps.getD t undef))
  (hx:L.ev x=.v (.slice none 0 0)) (ga:L.heap d=none)
  (hT:P.underlying T=some (.slice E)) (hU:P.underlying U=some (.slice E')) (hz:dj P E z) (hE:bC P E sz z.isAgg) (dQ:z.aw=sz) (lD:mg P E dN)
  (hy:(∃ c off dX,L.ev y=.ref c sz off news.length/\L.heap c=some dX/\dX.sz=sz/\off+news.length<=dX.vals.length/\news=(dX.vals.drop off).take news.length/\aN news=true) \/
    L.ev y=.list sz news)
  (hn:0<news.length) (bJ:news.length*dN<=140737488355328) (gC:news.length<=4611686018427387904) :
  ∃ v w' bm Z',(Builtin.append_ #[T,U] ty #[a.eval x,a.eval y]).run P w=.ok v w'/\Core W X Z0 bm Z' (L.bO d (some ⟨sz,news,true⟩)).heap w' /\
   (∀ t,bj Z' bm w' (L.slot t) (a.tmps.getD t undef))/\bj Z' bm w' (.ref d sz 0 news.length) v:=by
 obtain⟨eM,rJ,re⟩:=ajB (P:=P) hc hr hU (y:=y) (news:=news) (sz:=sz) (by
  rcases hy with⟨c,off,b2,q1,q3,q4,q5,q6,_⟩ | h
  ·exact .inl ⟨c,off,b2,q1,q3,q4,q5,q6⟩
  ·exact .inr (.inl h))
 have e1:=lF (L:=L) hr x
 rw [hx] at e1
 have e2:=e1.eu
 obtain⟨v,w',bm,Z',r1,r2,r3,r4,r5,r6⟩:=amO (P:=P) (ty:=ty) (U:=U) (olds:=[]) (news:=news) (oldc:=[]) (sLen:=0) hc ga hT hz hE dQ lD e2 (by simp [Builtin.firstCells]) rJ
  (by simp [aR]) rfl re ae (by rw [fw];exact bJ) (by rw [fw];exact gC)
 rw [fw] at r6
 rw [afw] at r2
 exact⟨v,w',bm,Z',r1,r2,fun t=>(hr t).mono r3 r4 r5,r6⟩
end
end Go.Lg
namespace Go.Lg
def dY (ops:Array Oper) (L:St) (o:Oper) (res:Bool):Prop :=
 match o.guard with
 | none=>res=true
 | some (j,want)=>∃ d,(ops[j]?).bind (·.dst)=some d/\((∃ b,L.slot d=.v (.bool b)/\res=(b==want))\/(L.slot d=.bf []/\res=false))
inductive Step (P:Program) (dr:Bool) (ops:Array Oper) (o:Oper) (L L':St):Prop
 | skip (hg:dY ops L o false) (h:L'=L.put o.dst (.bf []))
 | val {r fr H1} (hg:dY ops L o true) (hle:L.heap.le H1) (dO:∀ b blk,(b,blk)∈fr->L.heap b=none/\∃ m,H1 b=some ⟨blk.sz,blk.vals,m⟩/\(blk.mt=false->m=false))
   (ho:mP P H1 L.ev (o.dst.getD 0) o.op r fr) (h:L'=⟨(L.put o.dst r).slot,H1⟩)
 | st (hg:dY ops L o true) (ho:gO P L o.dst o.op L')
 | stM (gX:dr=false) (hg:dY ops L o true) (ho:OpM P L o.dst o.op L')
def opsL (P:Program) (dr:Bool) (ops:Array Oper):List Oper->St->(St->Prop)->Prop
 | [],L,K=>K L
 | o :: r,L,K=>∃ L',Step P dr ops o L L'/\opsL P dr ops r L' K
section
variable {P:Program} {W w w':World} {X:XS} {Z0 Z:Nat->Prop} {μ:Nat->Option Nat} {H:bW} {a:Act} {L L':St} {n:Nat} {dr:Bool} {ops:Array Oper}
theorem ach {o:Oper} {res:Bool} {L:St} (hr:∀ t,bj Z μ w (L.slot t) (a.tmps.getD t undef)) (hg:dY ops L o res):Region.wanted o (yielded ops a.tmps)=res:=by
 unfold dY at hg
 unfold Region.wanted
 split at hg
 ·rename_i h;rw [h];exact hg.symm
 ·rename_i j want h
  rw [h]
  obtain⟨d,h1,⟨b,h2,rfl⟩ | ⟨h2,rfl⟩⟩:=hg
  case inr =>
   have h3:=hr d
   rw [h2] at h3
   obtain⟨vs,h4,h5⟩:=h3
   have h5:vs=#[]:=by cases vs with | mk l=>exact congrArg Array.mk h5
   subst h5
   have h6:((ops[j]?).bind (·.dst)).bind (fun t=>a.tmps[t]?)=a.tmps[d]?:=by rw [h1];rfl
   rw [dB] at h4
   simp only [yielded,h6]
   cases hq:a.tmps[d]? with
   | none=>rfl
   | some u=>rw [hq] at h4;simp only [zU] at h4;subst h4;rfl
  have h3:=hr d
  rw [h2] at h3
  have h4:=h3.eu
  have h5:a.tmps[d]?=some (.bool b):=by
   rw [dB] at h4
   cases hq:a.tmps[d]? with
   | none=>rw [hq] at h4;simp [undef] at h4
   | some u=>rw [hq] at h4;simpa using h4
  have h6:((ops[j]?).bind (·.dst)).bind (fun t=>a.tmps[t]?)=some (.bool b):=by rw [h1];simpa using h5
  simp only [yielded,h6]
  cases b<;>cases want<;>rfl
theorem asV {P:Program} {ops:Array Oper} {dr:Bool} {K K':St->Prop} (hk:∀ L,K L->K' L):∀ (l:List Oper) (L:St),opsL P dr ops l L K->opsL P dr ops l L K'
 | [],L,h=>hk L h
 | o :: r,L,⟨L',h1,h2⟩=>⟨L',h1,asV hk r L' h2⟩
theorem aHi {T E ty:TypeId} {x:Operand} {b sz off n:Nat} {blk:bh} {z:LV} (hc:Core W X Z0 μ Z L.heap w) (hr:∀ t,bj Z μ w (L.slot t) (a.tmps.getD t undef))
  (hx:L.ev x=.ref b sz off n) (hb:L.heap b=some blk) (hs:blk.sz=sz) (hm:blk.mt=true) (hl:off+n<=blk.vals.length) (hT:P.underlying T=some (.slice E)) (hz:dj P E z) (dQ:z.aw=sz) :
  ∃ w',(Builtin.clear_ #[T] ty #[a.eval x]).run P w=.ok (.tuple #[]) w' /\
   Core W X Z0 μ Z (L.bO b (some ⟨sz,blk.vals.take off++ay n z++blk.vals.drop (off+n),true⟩)).heap w'/\Frame Z μ w w':=by
 have e1:=lF (L:=L) hr x
 rw [hx] at e1
 have e2:=e1.2 rfl
 simp only [aC] at e2
 have acm:n=0->(L.bO b (some ⟨sz,blk.vals.take off++ay n z++blk.vals.drop (off+n),true⟩)).heap=L.heap:=by
  rintro rfl
  funext c
  show (if c=b then _ else L.heap c)=_
  split
  ·rename_i e;subst e
   rw [hb]
   obtain⟨s,v,m⟩:=blk
   simp only at hs hm ⊢
   subst hs;subst hm
   simp
  ·rfl
 rcases e2 with⟨q1,rfl⟩ | ⟨id,cap,c,U',fz,q1,q2,q3,q4,q5⟩
 ·simp only [fJ,and_true] at q1
  rw [acm rfl]
  exact⟨w,by rw [q1];simp [Builtin.clear_,run_underlying hT],hc,Frame.refl _ _ _⟩
 ·simp only [fJ,and_true] at q1
  cases n with
  | zero =>
   rw [acm rfl]
   exact⟨w,by rw [q1];simp [Builtin.clear_,run_underlying hT],hc,Frame.refl _ _ _⟩
  | succ n =>
   obtain⟨bk,g1,c',T',part,rest,g2,g3,g4⟩:=hc.heap b id q2
   rw [hb] at g1;cases g1
   rw [q4] at g2;cases g2
   rw [hs] at g4
   obtain⟨i,zv,z1,z2,z3,z4⟩:=hz
   have zL:(zeroValue E).run P w=.ok zv w:=by simp [zeroValue,typeInfo,z1,z2]
   have aX:=LV.fk z3
   have ox:=aC.len (z4 Z μ w) aX
   rw [dQ] at ox
   have re:=aR.replicate (z4 Z μ w) ox (n+1)
   have mz:=aR.length _ _ re
   rw [List.length_replicate] at mz
   have alx:blk.vals=blk.vals.take off++((blk.vals.drop off).take (n+1)++blk.vals.drop (off+(n+1))):=by
    rw [<-qy,vv,vv]
   rw [alx] at g4
   obtain⟨p1,p2,d1,d2,d3⟩:=aR.split _ _ part g4
   obtain⟨p3,p4,d4,d5,d6⟩:=aR.split _ _ p2 d3
   have l1:=aR.length _ _ d2
   have l2:=aR.length _ _ d5
   rw [eG,lL ae] at l1
   rw [eG,kE,lL ae] at l2
   have hlen:c.toList.length=p1.length+(p3.length+p4.length)+rest.length:=by rw [g3,d1,d4];simp;omega
   have pL:off*sz+((ay (n+1) zv.cells.toList).flatten).length<=c.size:=by
    rw [<-nC,hlen,mz,l1,l2];omega
   have eE:=aR.append _ _ _ _ (aR.append _ _ _ _ d2 re) d6
   have yH:∀ v∈(ay (n+1) zv.cells.toList).flatten,v.oneCell'=true:=fun v hv=>by
    simp only [List.mem_flatten] at hv
    obtain⟨l,lr,ot⟩:=hv
    rw [List.eq_of_mem_replicate lr] at ot
    exact aC.one _ _ (z4 Z μ w) v ot
   have hcell:∀ j,j<((ay (n+1) zv.cells.toList).flatten).length->(w.cell? ⟨id,off*sz+j,none⟩).isSome=true:=fun j hj=>by
    rw [cell_of_row w id _ c _ _ q4,oL ae];rfl
   have aec:∀ j,j<((ay (n+1) zv.cells.toList).flatten).length->w.frozen? ⟨id,off*sz+j,none⟩=false:=fun j hj=>by simp [World.frozen?,q4]
   have dC:=run_storeCells_cells (P:=P) id (off*sz) ((ay (n+1) zv.cells.toList).flatten) 0 w (by simpa using hcell) (by simpa using aec) yH
   simp only [mf] at dC
   rw [ai4 q4 pL yH] at dC
   have mc:c.toList.take (off*sz)++(ay (n+1) zv.cells.toList).flatten++c.toList.drop (off*sz+((ay (n+1) zv.cells.toList).flatten).length)=(p1++(ay (n+1) zv.cells.toList).flatten++p4)++rest:=by
    rw [g3,d1,d4,mz,<-l1,<-l2]
    have e:(p1++(p3++p4))++rest=p1++(p3++(p4++rest)):=by simp
    rw [e,aha,<-qy,aaY,aaY];simp
   rw [mc] at dC
   obtain⟨k1,k2⟩:=Core.rewrite (blk':=⟨sz,blk.vals.take off++ay (n+1) z++blk.vals.drop (off+(n+1)),true⟩)
    (c':=((p1++(ay (n+1) zv.cells.toList).flatten++p4)++rest).toArray) (part:=p1++(ay (n+1) zv.cells.toList).flatten++p4) (rest:=rest) hc q2 hb hm rfl q4
    (by rw [<-nC (xs:=c),hlen];simp only [aba,k5,mz,l2];omega) aT eE rfl
   refine⟨_,?_,k1,k2⟩
   rw [q1]
   simp only [Builtin.clear_,ag3,qo,Sem.run_bind,Sem.run_pure,run_underlying hT,Result.andThen_ok,zL,amj,dC]
theorem aEj {T U E E' ty:TypeId} {x y:Operand} {b sz off:Nat} {blk:bh} {news:List LV} {ag:Bool} (hc:Core W X Z0 μ Z L.heap w) (hr:∀ t,bj Z μ w (L.slot t) (a.tmps.getD t undef))
  (hx:L.ev x=.ref b sz off news.length) (hb:L.heap b=some blk) (hs:blk.sz=sz) (hm:blk.mt=true) (hl:off+news.length<=blk.vals.length) (hT:P.underlying T=some (.slice E)) (hU:P.underlying U=some (.slice E')) (hE:bC P E sz ag)
  (hy:(∃ c off2 dX,L.ev y=.ref c sz off2 news.length/\L.heap c=some dX/\dX.sz=sz/\off2+news.length<=dX.vals.length/\news=(dX.vals.drop off2).take news.length)\/L.ev y=.list sz news) :
  ∃ v w',(Builtin.copy_ #[T,U] ty #[a.eval x,a.eval y]).run P w=.ok v w' /\
   Core W X Z0 μ Z (L.bO b (some ⟨sz,blk.vals.take off++news++blk.vals.drop (off+news.length),true⟩)).heap w'/\Frame Z μ w w':=by
 obtain⟨eM,rJ,re⟩:=ajB (P:=P) hc hr hU (y:=y) (news:=news) (sz:=sz) (by
  rcases hy with h | h
  ·exact qj
  ·exact .inr (.inl h))
 have e1:=lF (L:=L) hr x
 rw [hx] at e1
 have e2:=e1.2 rfl
 simp only [aC] at e2
 have aDN:agx news.length news.length=news.length:=asl _
 have mz:=aR.length _ _ re
 have acm:news=[]->(L.bO b (some ⟨sz,blk.vals.take off++news++blk.vals.drop (off+news.length),true⟩)).heap=L.heap:=by
  rintro rfl
  funext c
  show (if c=b then _ else L.heap c)=_
  split
  ·rename_i e;subst e
   rw [hb]
   obtain⟨s,v,m⟩:=blk
   simp only at hs hm ⊢
   subst hs;subst hm
   simp
  ·rfl
 rcases e2 with⟨q1,q0⟩ | ⟨id,cap,c,U',fz,q1,q2,q3,q4,q5⟩
 ·simp only [fJ,and_true] at q1
  have aga:=m8 q0
  rw [acm aga]
  refine⟨goInt ((0:Nat):Int),w,?_,hc,Frame.refl _ _ _⟩
  rw [q1]
  simp only [Builtin.copy_,ag3,qo,ahv,Sem.run_bind,Sem.run_pure,run_underlying hT,Result.andThen_ok,rJ.len,run_sizeOf hE,q0,asl,show agx 0 0=0 from rfl]
  have jy:=rJ.cells
  rw [q0] at jy
  simp only [jy,Result.andThen_ok,Sem.run_pure]
 ·simp only [fJ,and_true] at q1
  obtain⟨bk,g1,c',T',part,rest,g2,g3,g4⟩:=hc.heap b id q2
  rw [hb] at g1;cases g1
  rw [q4] at g2;cases g2
  rw [hs] at g4
  have alx:blk.vals=blk.vals.take off++((blk.vals.drop off).take news.length++blk.vals.drop (off+news.length)):=by
   rw [<-qy,vv,vv]
  rw [alx] at g4
  obtain⟨p1,p2,d1,d2,d3⟩:=aR.split _ _ part g4
  obtain⟨p3,p4,d4,d5,d6⟩:=aR.split _ _ p2 d3
  have l1:=aR.length _ _ d2
  have l2:=aR.length _ _ d5
  rw [eG,lL ae] at l1
  rw [eG,kE,lL ae] at l2
  have hlen:c.toList.length=p1.length+(p3.length+p4.length)+rest.length:=by rw [g3,d1,d4];simp;omega
  have pL:off*sz+eM.length<=c.size:=by
   rw [<-nC,hlen,mz,l1,l2];omega
  have eE:=aR.append _ _ _ _ (aR.append _ _ _ _ d2 re) d6
  have yH:∀ v∈eM,v.oneCell'=true:=rJ.one
  have hcell:∀ j,j<eM.length->(w.cell? ⟨id,off*sz+j,none⟩).isSome=true:=fun j hj=>by
   rw [cell_of_row w id _ c _ _ q4,oL ae];rfl
  have aec:∀ j,j<eM.length->w.frozen? ⟨id,off*sz+j,none⟩=false:=fun j hj=>by simp [World.frozen?,q4]
  have dC:=run_storeCells_cells (P:=P) id (off*sz) eM 0 w (by simpa using hcell) (by simpa using aec) yH
  simp only [mf] at dC
  rw [ai4 q4 pL yH] at dC
  have mc:c.toList.take (off*sz)++eM++c.toList.drop (off*sz+eM.length)=(p1++eM++p4)++rest:=by
   rw [g3,d1,d4,mz,<-l1,<-l2]
   have e:(p1++(p3++p4))++rest=p1++(p3++(p4++rest)):=by simp
   rw [e,aha,<-qy,aaY,aaY];simp
  rw [mc] at dC
  obtain⟨k1,k2⟩:=Core.rewrite (blk':=⟨sz,blk.vals.take off++news++blk.vals.drop (off+news.length),true⟩)
   (c':=((p1++eM++p4)++rest).toArray) (part:=p1++eM++p4) (rest:=rest) hc q2 hb hm rfl q4
   (by rw [<-nC (xs:=c),hlen];simp only [aba,k5,mz,l2];omega) aT eE rfl
  refine⟨goInt news.length,_,?_,k1,k2⟩
  rw [q1]
  have jy:=rJ.cells
  simp only [Builtin.copy_,ag3,qo,ahv,Sem.run_bind,Sem.run_pure,run_underlying hT,Result.andThen_ok,rJ.len,run_sizeOf hE,aDN,jy,dC]
theorem aJc {T U E E' ty:TypeId} {x y:Operand} {b c sz off off2 n1 n2:Nat} {blk dX:bh} {news:List LV} {ag:Bool} (hc:Core W X Z0 μ Z L.heap w) (hr:∀ t,bj Z μ w (L.slot t) (a.tmps.getD t undef))
  (hx:L.ev x=.ref b sz off n1) (hb:L.heap b=some blk) (hs:blk.sz=sz) (hm:blk.mt=true) (hl:off<=blk.vals.length) (hT:P.underlying T=some (.slice E)) (hU:P.underlying U=some (.slice E')) (hE:bC P E sz ag)
  (hy:L.ev y=.ref c sz off2 n2) (nD:L.heap c=some dX) (wQ:dX.sz=sz) (hn:news.length=agx n2 n1) (h0:0<news.length) (ot:off2+news.length<=dX.vals.length) (aHb:news=(dX.vals.drop off2).take news.length) :
  ∃ v w',(Builtin.copy_ #[T,U] ty #[a.eval x,a.eval y]).run P w=.ok v w' /\
   Core W X Z0 μ Z (L.bO b (some ⟨sz,blk.vals.take off++news++blk.vals.drop (off+news.length),true⟩)).heap w'/\Frame Z μ w w':=by
 have jM:news.length<=n1:=by rw [hn];exact Nat.min_le_right _ _
 have eO:news.length<=n2:=by rw [hn];exact Nat.min_le_left _ _
 have e1:=lF (L:=L) hr x
 rw [hx] at e1
 have e2:=e1.2 rfl
 simp only [aC] at e2
 have f1:=lF (L:=L) hr y
 rw [hy] at f1
 have f2:=f1.2 rfl
 simp only [aC] at f2
 rcases e2 with⟨q1,q0⟩ | ⟨id,cap,cc,U',fz,q1,q2,q3,q4,q5⟩
 ·omega
 rcases f2 with⟨p1,p0⟩ | ⟨id2,aeS,cc2,U2,fz2,p1,p2,p3,p4,p5⟩
 ·omega
 simp only [fJ,and_true] at q1 p1
 have one:∀ (l:List LV) (cs:List Value),aR Z μ w sz l cs->∀ u∈cs,u.oneCell'=true:=by
  intro l
  induction l with
  | nil=>intro cs h;simp only [aR] at h;simp [h]
  | cons x xs ih =>
   intro cs h u hu
   simp only [aR] at h
   obtain⟨c1,c2,rfl,h2,h3,h4⟩:=h
   rcases oy.1 hu with hu | hu
   ·exact aC.one _ _ h3 u hu
   ·exact ih c2 h4 u hu
 obtain⟨bk,g1,c',T',part,rest,g2,g3,g4⟩:=hc.heap c id2 p2
 rw [nD] at g1;cases g1
 rw [p4] at g2;cases g2
 obtain⟨c1,c2,d1,d2,d3⟩:=aR.split (dX.vals.take off2) (dX.vals.drop off2) part abK
 obtain⟨eM,c4,d4,d5,d6⟩:=aR.split ((dX.vals.drop off2).take news.length) ((dX.vals.drop off2).drop news.length) c2 (by rw [vv];exact d3)
 rw [<-aHb,wQ] at d5
 have lr:=aR.length _ _ d2
 rw [eG,lL ae,wQ] at lr
 have mz:=aR.length _ _ d5
 have aab:=adm (w:=w) (off:=off2*sz) (part:=eM) (rest:=c4++rest) p4 (by rw [g3,d1,d4,<-lr];simp)
 have rJ:Src P sz U (.slice (some ⟨id2,off2*sz,none⟩) news.length aeS) news.length eM w:=Src.ofSlice w hU _ _ _ eM mz (fun j u hj=>by rw [Addr.add_mid];exact aab j u hj) (one _ _ d5)
 have jy:(Builtin.firstCells sz news.length (.slice (some ⟨id2,off2*sz,none⟩) n2 aeS)).run P w=.ok eM.toArray w:=rJ.cells
 have yH:∀ v∈eM,v.oneCell'=true:=rJ.one
 obtain⟨bk,g1,ct,T',part,rest,g2,g3,g4⟩:=hc.heap b id q2
 rw [hb] at g1;cases g1
 rw [q4] at g2;cases g2
 rw [hs] at g4
 obtain⟨sL,qQ,r1,r2,r3⟩:=aR.split (blk.vals.take off) (blk.vals.drop off) part abK
 have l1:=aR.length _ _ r2
 rw [eG,lL hl] at l1
 have l2:=aR.length _ _ r3
 rw [kE] at l2
 have pL:off*sz+eM.length<=cc.size:=by
  rw [mz,<-hY]
  exact a9 (fP _ ae) q5
 have aHy:aR Z μ w sz (blk.vals.drop (off+news.length)) (qQ.drop eM.length):=by
  rcases gM (off+news.length) blk.vals.length with h | h
  ·obtain⟨p3,p4,t1,t2,t3⟩:=aR.split ((blk.vals.drop off).take news.length) ((blk.vals.drop off).drop news.length) qQ (by rw [vv];exact r3)
   have l3:=aR.length _ _ t2
   rw [eG,kE,lL ae,<-mz] at l3
   rw [t1,<-l3,aaY,<-qy]
   exact t3
  ·rw [jQ h,jQ (by rw [l2,mz];exact fP _ ae)]
   simp [aR]
 have eE:=aR.append _ _ _ _ (aR.append _ _ _ _ r2 d5) aHy
 have hcell:∀ j,j<eM.length->(w.cell? ⟨id,off*sz+j,none⟩).isSome=true:=fun j hj=>by
  rw [cell_of_row w id _ cc _ _ q4,oL ae];rfl
 have aec:∀ j,j<eM.length->w.frozen? ⟨id,off*sz+j,none⟩=false:=fun j hj=>by simp [World.frozen?,q4]
 have dC:=run_storeCells_cells (P:=P) id (off*sz) eM 0 w (by simpa using hcell) (by simpa using aec) yH
 simp only [mf] at dC
 rw [ai4 q4 pL yH] at dC
 have hlen:cc.size=sL.length+qQ.length+rest.length:=by rw [<-nC,g3,r1];simp;omega
 have mc:cc.toList.take (off*sz)++eM++cc.toList.drop (off*sz+eM.length)=(sL++eM++qQ.drop eM.length)++rest.drop (eM.length-qQ.length):=by
  rw [g3,r1,<-l1]
  have e:(sL++qQ)++rest=sL++(qQ++rest):=by simp
  rw [e,aha,<-qy,aaY,List.drop_append];simp
 rw [mc] at dC
 obtain⟨k1,k2⟩:=Core.rewrite (blk':=⟨sz,blk.vals.take off++news++blk.vals.drop (off+news.length),true⟩)
  (c':=((sL++eM++qQ.drop eM.length)++rest.drop (eM.length-qQ.length)).toArray) (part:=sL++eM++qQ.drop eM.length) (rest:=rest.drop (eM.length-qQ.length)) hc q2 hb hm rfl q4
  (by
   simp only [aba,k5,kE]
   omega) aT eE rfl
 refine⟨goInt news.length,_,?_,k1,k2⟩
 rw [q1,p1]
 simp only [Builtin.copy_,ag3,qo,ahv,Sem.run_bind,Sem.run_pure,run_underlying hT,Result.andThen_ok,Builtin.lenOf,run_sizeOf hE,<-hn,jy,dC]
theorem aFK {P:Program} {w:World} (T U E ty:TypeId) (k kl:IntKind) (i:TypeInfo) (z:Value) (ht:P.underlying T=some (.slice E)) (hu:P.underlying U=some (.int k)) (hi:P.info? E=some i) (hz:i.zero=some z) (n:Nat)
  (base:Option Addr) (sLen sCap:Nat) (olds:List Value) (hold:(Builtin.firstCells i.size sLen (.slice base sLen sCap)).run P w.drew=.ok olds.toArray w.drew) (hg:sCap<sLen+n)
  (h0:0<n) (dM:0<i.size) (gC:sLen+n<=4611686018427387904) (lD:(sLen+n)*i.bytes<=140737488355328) (pL:Builtin.nextslicecap (sLen+n) sCap*i.bytes<=281474976710656) :
  (Builtin.append_ #[T,U] ty #[.slice base sLen sCap,.int kl (n:Int)]).run P w =
   .ok (.slice (some ⟨w.heap.size,0,none⟩) (sLen+n) (grownCap w (sLen+n) sCap E))
    (w.drew.alloc (.cells (olds.toArray++Builtin.zeroCells z.cells n++Builtin.zeroCells z.cells (grownCap w (sLen+n) sCap E-(sLen+n))) E)):=by
 have hn:¬ (sLen+n<=sCap):=by omega
 have jb:¬ n=0:=by omega
 have hw:IntKind.i64.wrap (n:Int)=(n:Int):=by simp [IntKind.wrap,show IntKind.i64.bits=64 from rfl];omega
 have h1:¬ ((n:Int)<0):=by omega
 have h2:¬ (281474976710656<(n:Int)*(i.bytes:Int)):=by
  have h4:n*i.bytes<=(sLen+n)*i.bytes:=fP _ ae
  have h5:((n*i.bytes:Nat):Int)<=140737488355328:=by omega
  rw [asu] at h5
  omega
 have ak1:¬ (9223372036854775807<((sLen:Int)+(n:Int))):=by omega
 have alX:¬ (281474976710656<Builtin.nextslicecap (sLen+n) sCap*i.bytes):=by omega
 have bJ:¬ (i.size=0):=by omega
 have hns:¬ (n*i.size=0):=Nat.mul_ne_zero jb bJ
 simp [Builtin.append_,run_underlying ht,run_underlying hu,sizeOf,typeInfo,zeroValue,hi,hz,hn,jb,hw,h1,h2,ak1,alX,asInt,asIntOf,Question.forced,hold,bJ,newRow,grownCap]
 intro h
 rcases ajC.1 h with h | h<;>omega
theorem ay6 {T U E ty:TypeId} {d b sz n len cp:Nat} {x y:Operand} {z:LV} {dN:Nat} {k kl:IntKind} {blk:bh} (hc:Core W X Z0 μ Z L.heap w) (hr:∀ t,bj Z μ w (L.slot t) (a.tmps.getD t undef))
  (hT:P.underlying T=some (.slice E)) (hU:P.underlying U=some (.int k)) (hz:dj P E z) (hE:bC P E sz z.isAgg) (dQ:z.aw=sz) (hb:mg P E dN)
  (hx:L.ev x=.ka b sz 0 len cp) (ll:L.heap b=some blk) (hs:blk.sz=sz) (hlen:len<=blk.vals.length) (hy:L.ev y=.v (.int kl (n:Nat))) (ga:L.heap d=none) (hg:cp<len+n) (dM:0<sz)
  (hm:(len+n)*dN<=140737488355328) (gC:len+n<=4611686018427387904) :
  ∃ v w' bm Z',(Builtin.append_ #[T,U] ty #[a.eval x,a.eval y]).run P w=.ok v w'/\Core W X Z0 bm Z' (L.bO d (some ⟨sz,blk.vals.take len++ay n z,true⟩)).heap w' /\
   (∀ t,bj Z' bm w' (L.slot t) (a.tmps.getD t undef))/\bj Z' bm w' (.ref d sz 0 (len+n)) v:=by
 obtain⟨i,zv,z1,z2,z3,z4⟩:=hz
 have e1:=lF (L:=L) hr x
 rw [hx] at e1
 have e3:=e1.2 rfl
 simp only [aC] at e3
 obtain⟨id,cc,Ti,fz,q1,q2,q3,q4,q5⟩:=e3
 simp only [fJ,and_true] at q1
 have e2:=lF (L:=L) hr y
 rw [hy] at e2
 have e2:=e2.eu
 have aX:=LV.fk z3
 have vG:i.size=sz:=by have:=hE.1;rw [z1] at this;simpa using this
 have xH:i.bytes=dN:=by obtain⟨i',g1,g2⟩:=hb;rw [z1] at g1;cases g1;exact g2
 have ox:=aC.len (z4 Z μ w) aX
 have hcz:zv.cells.size=sz:=by rw [<-nC,ox,dQ]
 have xi:=nextslicecap_le hg
 have pL:Builtin.nextslicecap (len+n) cp*i.bytes<=281474976710656:=by
  rw [xH]
  calc Builtin.nextslicecap (len+n) cp*dN<=(2*(len+n))*dN:=fP _ xi
   _=2*((len+n)*dN):=by rw [fH]
   _<=281474976710656:=by omega
 obtain⟨bk,g1,c',T',part,rest,g2,g3,g4⟩:=hc.heap b id q2
 rw [ll] at g1;cases g1
 rw [q4] at g2;cases g2
 rw [hs] at g4
 obtain⟨oldc,c2,d1,d2,d3⟩:=aR.split (blk.vals.take len) (blk.vals.drop len) part abK
 have lr:=aR.length _ _ d2
 rw [eG,lL hlen] at lr
 have aab:=adm (w:=w) (off:=0*sz) (part:=oldc) (rest:=c2++rest) q4 (by rw [g3,d1];simp)
 have hold:(Builtin.firstCells i.size len (.slice (some ⟨id,0*sz,none⟩) len cp)).run P w.drew=.ok oldc.toArray w.drew:=by
  rw [vG]
  exact run_firstCells_some w.drew sz len _ len cp oldc lr (fun j u hj=>by rw [Addr.add_mid];simpa using aab j u hj)
 have fg:=aFK (P:=P) (w:=w) T U E ty k kl i zv hT hU z1 z2 n (some ⟨id,0*sz,none⟩) len cp oldc hold hg ae ae gC (by rw [xH];exact hm) pL
 have aco:=uw hc ga
 obtain⟨Z1,k1,k2⟩:=hc.xl (ae3 (blk:=⟨sz,blk.vals.take len++ay n z,true⟩) ga)
 have eE:=aR.append _ _ _ _ (d2.mono k2 (fun _ _ h=>h) ⟨fun _ _=>rfl,(Frame.refl Z μ w).m⟩) (aR.replicate (sz:=sz) (z4 Z1 μ w) (by rw [ox,dQ]) n)
 obtain⟨Z2,h1,h2,h3,h4,h5,h6⟩:=k1.push (d:=d) (blk:=⟨sz,blk.vals.take len++ay n z,true⟩) (part:=oldc++(ay n zv.cells.toList).flatten) (rest:=(Builtin.zeroCells zv.cells (grownCap w (len+n) cp E-(len+n))).toList) aT aco
  (⟨rfl,rfl,rfl,rfl⟩:sD w (w.drew.alloc (.cells (oldc.toArray++Builtin.zeroCells zv.cells n++Builtin.zeroCells zv.cells (grownCap w (len+n) cp E-(len+n))) E)) _) (by rw [akW,akW,amj]) eE
 have dO:Frame Z μ w (w.drew.alloc (.cells (oldc.toArray++Builtin.zeroCells zv.cells n++Builtin.zeroCells zv.cells (grownCap w (len+n) cp E-(len+n))) E)):=⟨fun id h=>h4.z id (k2 id h),h4.m⟩
 refine⟨_,_,_,Z2,by rw [q1,e2];exact fg,h1,fun t=>(hr t).mono (fun id h=>h2 id (k2 id h)) h3 dO,⟨by simp [LV.isAgg],fun _=>?_⟩⟩
 simp only [aC]
 have kj:=grownCap_ge w (len+n) cp E
 refine .inr ⟨w.heap.size,_,_,E,(0,0),by simp,h5,kj,h6,?_⟩
 rw [ahn,ahn,size_zeroCells,size_zeroCells,hcz,aba,lr,fw,<-hY,<-hY]
 exact fP _ ae
theorem aDq {f:FuncId} {x y:Operand} {Tx Ty:TypeId} {fn:Func} {b c sz o1 n1 o2 n2:Nat} {ag:Bool} {tS tR e:TypeId} {dst:Option Tmp} {ty:TypeId} {pos:String} {af:Array Edge} {g:Option (Nat × Bool)} (hc:Core W X Z0 μ Z L.heap w) (hr:∀ t,bj Z μ w (L.slot t) (a.tmps.getD t undef))
  (hf:P.funcs[f]?=some fn) (qG:(fn.name== "runtime.NumGoroutine")=false) (hb:fn.body.isNone=true) (hn:Extern.findNext fn=none) (he:Extern.find fn=some (Extern.SlicesOverlaps.overlaps #[tS,tS] #[tR]))
  (ht:P.underlying tS=some (.slice e)) (hE:bC P e sz ag) (hx:L.ev x=.ref b sz o1 n1) (hy:L.ev y=.ref c sz o2 n2) (vk:b≠c) (h1:0<n1) (h2:0<n2) (dM:0<sz) :
  (execOp a.eval ⟨dst,.call ⟨.value (.func f),#[x,y],#[Tx,Ty]⟩,ty,pos,af,g⟩).run P w=.ok (.value (.bool false)) w:=by
 have e1:=lF (L:=L) hr x
 rw [hx] at e1
 have e2:=e1.2 rfl
 simp only [aC] at e2
 have f1:=lF (L:=L) hr y
 rw [hy] at f1
 have f2:=f1.2 rfl
 simp only [aC] at f2
 rcases e2 with⟨q1,q0⟩ | ⟨id,cap,cc,U',fz,q1,q2,q3,q4,q5⟩
 ·omega
 rcases f2 with⟨p1,p0⟩ | ⟨id2,aeS,cc2,U2,fz2,p1,p2,p3,p4,p5⟩
 ·omega
 simp only [fJ,and_true] at q1 p1
 have aEA:id≠id2:=fun h=>vk (hc.inj _ _ _ q2 (h ▸ p2))
 obtain⟨bk,g1,c',T',part,rest,g2,g3,g4⟩:=hc.heap b id q2
 rw [q4] at g2;cases g2
 have hv:(Extern.SlicesOverlaps.overlaps #[tS,tS] #[tR] #[a.eval x,a.eval y]).run P w=.ok (.bool false) w:=by
  rw [q1,p1]
  refine Lib.run_overlaps_apart w tS tR e ht sz (fun w'=>run_sizeOf hE) ⟨id,o1*sz,none⟩ ⟨id2,o2*sz,none⟩ n1 cap n2 aeS aEA U' U2 cc.size cc2.size (by simp only [World.shape?,q4]) (by simp only [World.shape?,p4]) ?_ (by simp [World.frozen?,q4]) (by simp [World.frozen?,q4])
  have:0<(o2+aeS)*sz:=Nat.mul_pos ae dM
  omega
 have hc2:=run_callFunc_extern (P:=P) (args:=#[a.eval x,a.eval y]) hf qG hb hn he w
 rw [hv] at hc2
 simp only [execOp,resolve,Act.eval,Deferred.ofValue,Sem.run_bind,Sem.run_pure,Result.andThen_ok,invoke]
 simpa using hc2
theorem acG {o:Oper} (hs:fV n W X Z0 L a w) (dC:Step P dr ops o L L') (hd:∀ t,o.dst=some t->t<n) {K:Act->World->Prop} {Q:Exit->Act->World->Prop}
  (hK:∀ a' w',fV n W X Z0 L' a' w'->K a' w'):if Region.wanted o (yielded ops a.tmps) then o.wp P a w K Q else K (a.put o.dst undef) w:=by
 obtain⟨ec,bJ,μ,Z,hc,hr⟩:=hs
 have iE:∀ t,o.dst=some t->t<a.tmps.size:=fun t h=>by rw [bJ];exact hd t h
 cases dC with
 | skip hg h =>
  rw [ach hr hg]
  simp only [adv,if_false]
  subst h
  exact hK _ _ ⟨by rw [put_defers];exact ec,by rw [rm];exact bJ,μ,Z,by rw [lH];exact hc,rp iE hr ⟨#[],rfl,rfl⟩⟩
 | @val r fr H1 hg hle dO ho h =>
  rw [ach hr hg]
  simp only [if_true]
  obtain⟨Z1,k1,k2⟩:=hc.xl hle
  have eW:∀ t,bj Z1 μ w (L.slot t) (a.tmps.getD t undef):=fun t=>(hr t).mono k2 (fun _ _ h=>h) ⟨fun _ _=>rfl,(Frame.refl Z μ w).m⟩
  obtain⟨dst,op,ty,pos,after,g⟩:=o
  refine mP.sound k1 ho (fun x _=>lF (L:=L) eW x) (fun b blk hb=>?_) dst ty pos after g ?_
  ·obtain⟨h1,m,h2,h3⟩:=dO b blk hb
   exact⟨m,h2,h3,uw hc h1⟩
  ·intro v w' bm Z' p8
   subst h
   refine hK _ _ ⟨by rw [put_defers];exact ec,by rw [rm];exact bJ,bm,Z',p8.core,?_⟩
   exact rp (L:=L) iE (fun t=>(eW t).mono p8.hz p8.hm p8.hf) p8.rep
 | st hg ho =>
  rw [ach hr hg]
  simp only [if_true]
  obtain⟨dst,op,ty,pos,after,g⟩:=o
  simp only at ho iE
  cases ho with
  | store hp hb oa hm hi hy mS hT aX =>
   obtain⟨w',h1,h2,h3⟩:=aER (P:=P) hc hr hp hb oa hm hi hy mS hT aX dst ty pos after g
   unfold Oper.wp
   rw [h1,Oper.upon_skip]
   refine hK _ _ ⟨by rw [put_defers];exact ec,by rw [rm];exact bJ,μ,Z,by rw [lH];exact h2,?_⟩
   exact rp iE (fun t=>(hr t).mono (fun _ h=>h) (fun _ _ h=>h) h3) trivial
  | @iw T U E E' d b sz len blk x y news z dN hx hb oa hm hlen ga gf hT hU hz hE dQ lD hy alk gC dM =>
   obtain⟨v,w',bm,Z',r1,r2,r3,r4⟩:=aDG (P:=P) (ty:=ty) hc hr hx hb oa hm hlen ga gf hT hU hz hE dQ lD hy alk gC
   have fg:(execOp a.eval ⟨dst,.call ⟨.builtin .append,#[x,y],#[T,U]⟩,ty,pos,after,g⟩).run P w=.ok (.value v) w':=by
    simp only [execOp,resolve,Sem.run_bind,Sem.run_pure,Result.andThen_ok,invoke,builtin]
    simp only [abV,nv,yu,r1,Result.andThen_ok]
   unfold Oper.wp
   rw [fg,Oper.upon_value]
   refine hK _ _ ⟨by rw [put_defers];exact ec,by rw [rm];exact bJ,bm,Z',by rw [lH];exact r2,?_⟩
   exact rp iE r3 r4
  | @ae1 T U E E' d sz x y news z dN hx ga hT hU hz hE dQ lD hy hn alk gC dM =>
   obtain⟨v,w',bm,Z',r1,r2,r3,r4⟩:=aCp (P:=P) (ty:=ty) hc hr hx ga hT hU hz hE dQ lD hy hn alk gC
   have fg:(execOp a.eval ⟨dst,.call ⟨.builtin .append,#[x,y],#[T,U]⟩,ty,pos,after,g⟩).run P w=.ok (.value v) w':=by
    simp only [execOp,resolve,Sem.run_bind,Sem.run_pure,Result.andThen_ok,invoke,builtin]
    simp only [abV,nv,yu,r1,Result.andThen_ok]
   unfold Oper.wp
   rw [fg,Oper.upon_value]
   refine hK _ _ ⟨by rw [put_defers];exact ec,by rw [rm];exact bJ,bm,Z',by rw [lH];exact r2,?_⟩
   exact rp iE r3 r4
  | @clr T E x b sz off n blk z hx hb oa hm hl hT hz dQ =>
   obtain⟨w',r1,r2,r3⟩:=aHi (P:=P) (ty:=ty) hc hr hx hb oa hm hl hT hz dQ
   have fg:(execOp a.eval ⟨dst,.call ⟨.builtin .clear,#[x],#[T]⟩,ty,pos,after,g⟩).run P w=.ok (.value (.tuple #[])) w':=by
    simp only [execOp,resolve,Sem.run_bind,Sem.run_pure,Result.andThen_ok,invoke,builtin]
    simp only [abV,nv,yu,r1,Result.andThen_ok]
   unfold Oper.wp
   rw [fg,Oper.upon_value]
   refine hK _ _ ⟨by rw [put_defers];exact ec,by rw [rm];exact bJ,μ,Z,by rw [lH];exact r2,?_⟩
   exact rp iE (fun t=>(hr t).mono (fun _ h=>h) (fun _ _ h=>h) r3) trivial
  | @cpy T U E E' x y b sz off news blk ag hx hb oa hm hl hT hU hE hy =>
   obtain⟨v,w',r1,r2,r3⟩:=aEj (P:=P) (ty:=ty) hc hr hx hb oa hm hl hT hU hE hy
   have fg:(execOp a.eval ⟨dst,.call ⟨.builtin .copy,#[x,y],#[T,U]⟩,ty,pos,after,g⟩).run P w=.ok (.value v) w':=by
    simp only [execOp,resolve,Sem.run_bind,Sem.run_pure,Result.andThen_ok,invoke,builtin]
    simp only [abV,nv,yu,r1,Result.andThen_ok]
   unfold Oper.wp
   rw [fg,Oper.upon_value]
   refine hK _ _ ⟨by rw [put_defers];exact ec,by rw [rm];exact bJ,μ,Z,by rw [lH];exact r2,?_⟩
   exact rp iE (fun t=>(hr t).mono (fun _ h=>h) (fun _ _ h=>h) r3) trivial
  | @ac3 T U E E' x y b sz off n1 blk c off2 n2 dX news ag hx hb oa hm hl hT hU hE hy nD wQ hn h0 ot re =>
   obtain⟨v,w',r1,r2,r3⟩:=aJc (P:=P) (ty:=ty) hc hr hx hb oa hm hl hT hU hE hy nD wQ hn h0 ot re
   have fg:(execOp a.eval ⟨dst,.call ⟨.builtin .copy,#[x,y],#[T,U]⟩,ty,pos,after,g⟩).run P w=.ok (.value v) w':=by
    simp only [execOp,resolve,Sem.run_bind,Sem.run_pure,Result.andThen_ok,invoke,builtin]
    simp only [abV,nv,yu,r1,Result.andThen_ok]
   unfold Oper.wp
   rw [fg,Oper.upon_value]
   refine hK _ _ ⟨by rw [put_defers];exact ec,by rw [rm];exact bJ,μ,Z,by rw [lH];exact r2,?_⟩
   exact rp iE (fun t=>(hr t).mono (fun _ h=>h) (fun _ _ h=>h) r3) trivial
 | stM _ hg ho =>
  rw [ach hr hg]
  simp only [if_true]
  obtain⟨dst,op,ty,pos,after,g⟩:=o
  simp only at ho iE
  cases ho with
  | call hb hm hp ha hn hk pQ kO =>
   refine aHJ hc hr hb hm hp ha hn hk pQ kO fun v w' Z' h1 h2 h3=>?_
   refine hK _ _ ⟨by rw [put_defers];exact ec,by rw [rm];exact bJ,μ,Z',by rw [lH];exact h1,?_⟩
   exact rp (L:=L.bO _ _) iE h2 h3
  | @af6 T U E x y z k kl sz dN len cp n d b blk hT hU hz hE dQ hb hx ll oa hlen hy ga hgr dM hm gC =>
   obtain⟨v,w',bm,Z',r1,r2,r3,r4⟩:=ay6 (P:=P) (ty:=ty) hc hr hT hU hz hE dQ hb hx ll oa hlen hy ga hgr dM hm gC
   have fg:(execOp a.eval ⟨dst,.call ⟨.builtin .append,#[x,y],#[T,U]⟩,ty,pos,after,g⟩).run P w=.ok (.value v) w':=by
    simp only [execOp,resolve,Sem.run_bind,Sem.run_pure,Result.andThen_ok,invoke,builtin]
    simp only [abV,nv,yu,r1,Result.andThen_ok]
   unfold Oper.wp
   rw [fg,Oper.upon_value]
   refine hK _ _ ⟨by rw [put_defers];exact ec,by rw [rm];exact bJ,bm,Z',by rw [lH];exact r2,?_⟩
   exact rp (L:=L.bO _ _) iE r3 r4
  | @ovl f x y Tx Ty fn b c sz o1 n1 o2 n2 ag tS tR e hf qG hb hn he ht hE hx hy vk h1 h2 dM =>
   have fg:=aDq (P:=P) (Tx:=Tx) (Ty:=Ty) (dst:=dst) (ty:=ty) (pos:=pos) (af:=after) (g:=g) hc hr hf qG hb hn he ht hE hx hy vk h1 h2 dM
   unfold Oper.wp
   rw [fg,Oper.upon_value]
   refine hK _ _ ⟨by rw [put_defers];exact ec,by rw [rm];exact bJ,μ,Z,by rw [lH];exact hc,?_⟩
   exact rp iE hr ⟨by simp [LV.isAgg],fun _=>by simp [aC,Value.oneCell']⟩
  | @aiS T U E x y z k kl sz dN n d hT hU hz hE dQ hb hx hy ga h0 dM hm gC =>
   obtain⟨v,w',bm,Z',r1,r2,r3,r4⟩:=aBc (P:=P) (ty:=ty) hc hr hT hU hz hE dQ hb hx hy ga h0 dM hm gC
   have fg:(execOp a.eval ⟨dst,.call ⟨.builtin .append,#[x,y],#[T,U]⟩,ty,pos,after,g⟩).run P w=.ok (.value v) w':=by
    simp only [execOp,resolve,Sem.run_bind,Sem.run_pure,Result.andThen_ok,invoke,builtin]
    simp only [abV,nv,yu,r1,Result.andThen_ok]
   unfold Oper.wp
   rw [fg,Oper.upon_value]
   refine hK _ _ ⟨by rw [put_defers];exact ec,by rw [rm];exact bJ,bm,Z',by rw [lH];exact r2,?_⟩
   exact rp (L:=L.bO _ _) iE r3 r4
theorem as1 {Q:Exit->Act->World->Prop} {K:St->Prop}:∀ (l:List Oper) (L:St) (a:Act) (w:World),fV n W X Z0 L a w->opsL P dr ops l L K->(∀ o∈l,∀ t,o.dst=some t->t<n) ->
  (∀ L' a' w',K L'->fV n W X Z0 L' a' w'->Q .normal a' w')->wpList P ops Q l a w
 | [],L,a,w,hs,hk,_,hq=>hq L a w hk hs
 | o :: r,L,a,w,hs,⟨L',h1,h2⟩,hd,hq=>by
   have:=acG (Q:=Q) (K:=wpList P ops Q r) hs h1 (hd o aT) (fun a' w' l8=>as1 r L' a' w' l8 h2 (fun o' lX=>hd o' (by simp [lX])) hq)
   unfold wpList
   split
   ·rename_i h;rw [if_pos h] at this;exact .inl this
   ·rename_i h;rw [if_neg h] at this;exact this
end
def az (L L':St):Prop:=∀ n W X Z0 a w,fV n W X Z0 L a w->fV n W X Z0 L' a w
theorem az.refl (L:St):az L L:=fun _ _ _ _ _ _ h=>h
theorem az.trans {L L' L'':St} (h:az L L') (h':az L' L''):az L L'':=fun n W X Z0 a w k=>h' n W X Z0 a w (h n W X Z0 a w k)
theorem az.kill (L:St) (b:Nat) (h0:b≠0:=by decide):az L (L.kill b):=fun _ _ _ _ _ _ ⟨h1,h2,_,Z,hc,hr⟩=>⟨h1,h2,_,Z,hc.kill b h0,aei b hr⟩
def jN (o:Oper):List Nat:=o.after.toList.filterMap fun e=>if Region.binds .any e then some e.on else none
inductive nu (ops:Array Oper):Nat->Nat->Prop
 | one {j i o} (ho:ops[i]?=some o) (h:j∈jN o):nu ops j i
 | step {j k i o} (h:nu ops j k) (ho:ops[i]?=some o) (hk:k∈jN o):nu ops j i
def mask (acc:List Nat) (o:Oper):Nat:=(jN o).foldl (fun s j=>s ||| (2 ^ j ||| acc.getD j 0)) 0
def bef:List Oper->List Nat->List Nat
 | [],acc=>acc
 | o :: r,acc=>bef r (acc++[mask acc o])
def wB:Op->Bool
 | .store ..=>true
 | .call ⟨.builtin .append,_,_⟩=>true
 | .call ⟨.builtin .clear,_,_⟩=>true
 | .call ⟨.builtin .copy,_,_⟩=>true
 | _=>false
def aaG (ops:Array Oper) (b:List Nat) (i j:Nat):Bool :=
 match (ops.getD j default).dst with
 | none=>true
 | some d=>(ops.getD i default).dst != some d &&
   (!((ops.getD i default).looksAt ops).contains d || (if j<i then(b.getD i 0).testBit j else(b.getD j 0).testBit i))
def as8 (ops:Array Oper) (m j:Nat):Bool :=
 (ops.getD j default).guard.isNone && (match (ops.getD j default).op with | .move _=>true | .binOp ..=>(ops.getD m default).dst.isNone | .extract ..=>(ops.getD m default).dst.isNone | _=>false) &&
 (match (ops.getD j default).dst with | some d=>!((ops.getD m default).looksAt ops).contains d && (ops.getD m default).dst != some d | none=>true) &&
 (match (ops.getD m default).dst with | some d=>!((ops.getD j default).looksAt ops).contains d | none=>true)
def awq (o:Oper):Bool:=o.guard.isNone && (match o.op with | .store ..=>o.dst.isNone | .call ⟨.builtin .append,_,_⟩=>o.dst.isSome | _=>false)
def yT (ops:Array Oper) (m:Nat) (fr:List Nat):Bool :=
 decide (m<=ops.size) &&
 (cW ops.size).all (fun i=>(jN (ops.getD i default)).all (·<i) &&
  (if m<=i then(cW i).all (fun j=>((bef ops.toList []).getD i 0).testBit j || (i==m && fr.contains j)) else !wB (ops.getD i default).op)) &&
 ((cW m).all fun i=>(cW m).all fun j=>i==j || aaG ops (bef ops.toList []) i j) &&
 (fr.isEmpty || (decide (m<ops.size) && awq (ops.getD m default) && fr.all fun j=>decide (j<m) && as8 ops m j))
theorem aro (acc:List Nat) (t:Nat):∀ (l:List Nat) (s:Nat),(l.foldl (fun s j=>s ||| (2 ^ j ||| acc.getD j 0)) s).testBit t=true ->
  s.testBit t=true\/∃ j∈l,t=j\/(acc.getD j 0).testBit t=true
 | [],s,h=>.inl h
 | j :: l,s,h=>by
   rcases aro acc t l _ h with h | ⟨k,hk,h⟩
   ·rw [ayd,ayd,ob,ob] at h
    rcases h with h | h | h
    ·exact qj
    ·rw [Nat.testBit_two_pow] at h
     exact .inr ⟨j,by simp,.inl (by simpa using h.symm:j=t).symm⟩
    ·exact .inr ⟨j,by simp,.inr h⟩
   ·exact .inr ⟨k,by simp [hk],h⟩
theorem ad1 (ops:Array Oper):∀ (l:List Oper) (acc:List Nat),(∀ i,l[i]?=ops[acc.length+i]?)->(∀ i t,(acc.getD i 0).testBit t=true->nu ops t i) ->
  ∀ i t,((bef l acc).getD i 0).testBit t=true->nu ops t i
 | [],acc,_,h=>h
 | o :: r,acc,hl,h=>by
   refine ad1 ops r (acc++[mask acc o]) (fun i=>?_) (fun i t ht=>?_)
   ·have:=hl (i+1)
    simp only [ahv] at this
    rw [this];congr 1;simp;omega
   ·by_cases hi:i<acc.length
    ·rw [bz,aaz hi,<-bz] at ht
     exact h i t ht
    ·by_cases he:i=acc.length
     ·subst he
      have ho:ops[acc.length]?=some o:=by have:=hl 0;simpa using this.symm
      rw [bz,aeM ae] at ht
      simp only [pB,qo,zU] at ht
      rcases aro acc t (jN o) 0 ht with h0 | ⟨j,hj,rfl | h2⟩
      ·simp at h0
      ·exact .one ho hj
      ·exact .step (h j t h2) ho hj
     ·have:(acc++[mask acc o]).getD i 0=0:=by
       rw [bz,List.getElem?_eq_none bw];rfl
      rw [this] at ht;simp at ht
theorem pO {ops:Array Oper} {gI:Array Bool} (_hsz:gI.size=ops.size) {i:Nat}:i∈Region.ready .any ops gI ↔
  ∃ o,ops[i]?=some o/\gI.getD i true=false/\∀ j∈jN o,gI.getD j false=true:=by
 unfold Region.ready
 simp only [List.mem_filter,pI,jq,wY]
 constructor
 ·rintro⟨h1,h2,h3⟩
  refine⟨ops[i],oL h1,h2,fun j hj=>?_⟩
  rw [oL h1] at h3
  simp only [pY,zU,axu] at h3
  simp only [jN,yi] at hj
  obtain⟨e,he,hj⟩:=hj
  have:=h3 e (by simpa using he)
  split at hj
  ·rename_i hb
   simp only [fp] at hj
   subst hj
   simpa [hb] using this
  ·cases hj
 ·rintro⟨o,h1,h2,h3⟩
  have hi:=(mN.1 h1).1
  refine⟨hi,h2,?_⟩
  rw [h1]
  simp only [pY,zU,axu]
  intro e he
  cases hb:Region.binds .any e with
  | false=>simp
  | true =>
   have:=h3 e.on (by simp only [jN,yi];exact⟨e,by simpa using he,by simp [hb]⟩)
   simpa using this
theorem akl {α:Type} (p q:α->Bool):∀ (l:List α),(∀ x∈l,p x=true->q x=true)->(∃ x∈l,q x=true/\p x=false)->l.countP p<l.countP q
 | [],_,⟨x,hx,_⟩=>by simp at hx
 | y :: l,h,⟨x,hx,h1,h2⟩=>by
   have hle:∀ (l:List α),(∀ x∈l,p x=true->q x=true)->l.countP p<=l.countP q:=fun l h=>List.countP_mono_left h
   simp only [List.countP_cons]
   rcases List.mem_cons.1 hx with rfl | hx
   ·have:=hle l (fun z hz=>h z (by simp [hz]))
    simp [h1,h2];omega
   ·have ih:=akl p q l (fun z hz=>h z (by simp [hz])) ⟨x,hx,h1,h2⟩
    have hy:=h y aT
    cases hp:p y with
    | false=>simp;split<;>omega
    | true=>simp [hy hp];omega
theorem aFS {P:Program} {ops:Array Oper} {Q:Exit->Act->World->Prop} (Inv:Array Bool->Act->World->Prop)
  (ve:∀ i o,ops[i]?=some o->∀ j∈jN o,j<i)
  (sQ:∀ gI a w i o,gI.size=ops.size->Inv gI a w->ops[i]?=some o->gI.getD i true=false->(∀ j∈jN o,gI.getD j false=true) ->
   if Region.wanted o (yielded ops a.tmps) then o.wp P a w (fun a' w'=>Inv (gI.setIfInBounds i true) a' w') Q else Inv (gI.setIfInBounds i true) (a.put o.dst undef) w)
  (apI:∀ gI a w,gI.size=ops.size->Inv gI a w->(∀ i,i<ops.size->gI.getD i false=true)->Q .normal a w) :
  ∀ (fuel:Nat) (gI:Array Bool) (a:Act) (w:World),gI.size=ops.size->(cW ops.size).countP (fun i=>!gI.getD i true)<=fuel->Inv gI a w->wpAny P .any ops Q fuel gI a w:=by
 have eE:∀ (gI:Array Bool),gI.size=ops.size->Region.ready .any ops gI=[]->∀ i,i<ops.size->gI.getD i false=true:=by
  intro gI bJ hr i
  induction i using abL with
  | _ i ih =>
   intro hi
   cases hl:gI.getD i false with
   | true=>rfl
   | false =>
    have h1:gI.getD i true=false:=by
     rw [dB,oL ae] at hl ⊢
     simpa using hl
    have:i∈Region.ready .any ops gI:=(pO bJ).2 ⟨ops[i],oL hi,h1,fun j hj=>by
     have kQ:=ve i _ (oL hi) j hj
     exact ih j kQ ae⟩
    rw [hr] at this;cases this
 intro fuel
 induction fuel with
 | zero =>
  intro gI a w bJ hc hI
  have hr:Region.ready .any ops gI=[]:=by
   apply List.eq_nil_iff_forall_not_mem.2
   intro i hi
   obtain⟨o,h1,h2,_⟩:=(pO bJ).1 hi
   have my:0<(cW ops.size).countP (fun i=>!gI.getD i true) :=
    List.countP_pos_iff.2 ⟨i,by simpa using (mN.1 h1).1,by rw [h2];rfl⟩
   omega
  exact⟨hr,apI gI a w bJ hI (eE gI bJ hr)⟩
 | succ fuel ih =>
  intro gI a w bJ hc hI
  refine⟨fun hr=>apI gI a w bJ hI (eE gI bJ hr),fun i hi=>?_⟩
  obtain⟨o,h1,h2,h3⟩:=(pO bJ).1 hi
  have nw:=(mN.1 h1).1
  have hs:=sQ gI a w i o bJ hI h1 h2 h3
  have apk:(cW ops.size).countP (fun k=>!(gI.setIfInBounds i true).getD k true)<(cW ops.size).countP (fun k=>!gI.getD k true):=by
   apply akl
   ·intro k _ hk
    by_cases e:i=k
    ·subst e
     rw [dB,nT ae] at hk
     simp at hk
    ·rw [dB,jP e] at hk
     rw [dB];exact hk
   ·refine⟨i,by simpa using nw,by rw [h2];rfl,?_⟩
    rw [dB,nT ae];rfl
  have asv:∀ a' w',Inv (gI.setIfInBounds i true) a' w'->wpAny P .any ops Q fuel (gI.setIfInBounds i true) a' w':=fun a' w' h =>
   ih _ a' w' (by simpa using bJ) ae h
  unfold wpOp
  rw [h1]
  simp only
  split
  ·rename_i hw;rw [if_pos hw] at hs;exact .inl (Oper.wp_mono asv hs)
  ·rename_i hw;rw [if_neg hw] at hs;exact asv _ _ hs
end Go.Lg
namespace Go.Lg
theorem bW.le_refl (H:bW):H.le H:=fun _ blk h=>⟨blk.mt,h,fun h=>h,fun h1 h2=>by rw [h1] at h2;cases h2⟩
theorem bW.le_trans {H H' H'':bW} (h:H.le H') (h':H'.le H''):H.le H'':=fun b blk hb=>by
 obtain⟨m,g1,g2,g3⟩:=h b blk hb
 obtain⟨m',k1,k2,k3⟩:=h' b _ g1
 refine⟨m',k1,fun e=>k2 (g2 e),fun e1 e2=>?_⟩
 cases hm:m with
 | false=>exact g3 e1 hm
 | true=>exact k3 hm e2
section
variable {P:Program} {W w:World} {X:XS} {Z0 Z:Nat->Prop} {μ:Nat->Option Nat} {a:Act} {n:Nat} {ops:Array Oper}
theorem aaO {K:St->Prop}:∀ (l:List Oper) (L:St),opsL P true ops l L K->∃ f:Nat->St,f 0=L/\(∀ i o,l[i]?=some o->Step P true ops o (f i) (f (i+1)))/\K (f l.length)
 | [],L,h=>⟨fun _=>L,rfl,fun i o h=>by simp at h,h⟩
 | o :: r,L,⟨L',h1,h2⟩=>by
   obtain⟨f,g1,g2,g3⟩:=aaO r L' h2
   refine⟨fun i=>match i with | 0=>L | i+1=>f i,rfl,fun i o' h=>?_,g3⟩
   cases i with
   | zero=>simp only [qo,fp] at h;subst h;rw [<-g1] at h1;exact h1
   | succ i=>exact g2 i o' mW
theorem gO.tail {L L':St} {dst:Option Tmp} {op:Op} (h:gO P L dst op L'):wB op=true:=by cases h<;>rfl
theorem anT {o:Oper} {L L':St} (ht:wB o.op=false) (h:Step P true ops o L L'):L.heap.le L'.heap/\∀ t,o.dst≠some t->L'.slot t=L.slot t:=by
 have mS:∀ (r:LV) t,o.dst≠some t->(L.put o.dst r).slot t=L.slot t:=fun r t aX=>by
  unfold St.put
  cases hd:o.dst with
  | none=>rfl
  | some d=>exact(g8 L d r t).trans (if_neg (fun e=>aX (by rw [hd,e])))
 cases h with
 | skip hg h=>subst h;exact⟨by rw [lH];exact bW.le_refl _,mS _⟩
 | val hg hle dO ho h=>subst h;exact⟨hle,mS _⟩
 | st hg ho =>
  obtain⟨dst,op,ty,pos,after,g⟩:=o
  cases ho<;>simp [wB] at ht
 | stM gX _ _=>cases gX
open Classical in
noncomputable def fI (ops:Array Oper) (f:Nat->St) (m:Nat) (D:Array Bool) (t:Nat):LV :=
 if ∃ i o,i<m/\D.getD i false=true/\ops[i]?=some o/\o.dst=some t then(f m).slot t else(f 0).slot t
def aak:Option Nat->LV->LV
 | none,x=>x
 | some b,x=>x.kill b
noncomputable def jI (ops:Array Oper) (f:Nat->St) (m:Nat) (dm:Option Tmp) (kb:Option Nat) (D:Array Bool) (t:Nat):LV :=
 if dm=some t then(f (m+1)).slot t else aak kb (fI ops f m D t)
def newAt (f:Nat->St) (i b:Nat):Prop:=(f i).heap b=none/\(f (i+1)).heap b≠none
theorem al8 {m id:Nat} {fr:List Nat} {K:St->Prop} {Q:Exit->Act->World->Prop} {L:St} {f:Nat->St} (iH:P.follows .mixedOrders=true) (hs:fV n W X Z0 L a w)
  (f0:f 0=L) (vp:∀ i o,ops[i]?=some o->i<m\/fr≠[]->Step P true ops o (f i) (f (i+1)))
  (fsB:∀ i o,ops[i]?=some o->m<=i->∀ (a:Act) (w:World) (K:Act->World->Prop) (Q:Exit->Act->World->Prop),fV n W X Z0 (f i) a w->(∀ t,o.dst=some t->t<n)->(∀ a' w',fV n W X Z0 (f (i+1)) a' w'->K a' w')->if Region.wanted o (yielded ops a.tmps) then o.wp P a w K Q else K (a.put o.dst undef) w) (fK:K (f ops.size)) (wx:m<=ops.size) (ve:∀ i o,ops[i]?=some o->∀ j∈jN o,j<i)
  (vI:∀ i o,ops[i]?=some o->m<=i->∀ j,j<i->nu ops j i\/(i=m/\j∈fr)) (sO:∀ i o,ops[i]?=some o->i<m->wB o.op=false)
  (uE:∀ i j oi oj d,ops[i]?=some oi->ops[j]?=some oj->i<m->j<m->i≠j->oj.dst=some d->oi.dst≠some d/\(d∈oi.looksAt ops->if j<i then nu ops j i else nu ops i j))
  (acE:∀ j o,ops[j]?=some o->j∈fr->j<m/\m<ops.size/\(∀ om,ops[m]?=some om->om.guard=none/\((om.dst=none/\∃ T p x,om.op=.store T p x)\/∃ d xs ts,om.dst=some d/\om.op=.call ⟨.builtin .append,xs,ts⟩) /\
    (∀ d,o.dst=some d->d∉om.looksAt ops/\om.dst≠some d)/\∀ d,om.dst=some d->d∉o.looksAt ops) /\
   o.guard=none/\((∃ x,o.op=.move x)\/(∃ q T x y U,o.op=.binOp q T x y U/\∀ om,ops[m]?=some om->om.dst=none)\/(∃ x i,o.op=.extract x i/\∀ om,ops[m]?=some om->om.dst=none) \/
    ((∀ om,ops[m]?=some om->om.dst=none)/\∃ r,mP P (f (m+1)).heap (f j).ev (o.dst.getD 0) o.op r []/\∀ t,o.dst=some t->(f (j+1)).slot t=r)))
  (hd:∀ o∈ops.toList,∀ t,o.dst=some t->t<n) (hq:∀ L' a' w',K L'->fV n W X Z0 L' a' w'->Q .normal a' w') :
  (Code.region id ops true).wp P Q a w:=by
 have g7:∀ i o,ops[i]?=some o->ops.getD i default=o:=fun i o h=>by rw [dB,h];rfl
 have nQ:∀ i o,ops[i]?=some o->i<ops.size:=fun i o h=>(mN.1 h).1
 have xm:∀ i,i<ops.size->∃ o,ops[i]?=some o:=fun i h=>⟨_,oL h⟩
 have sQ:∀ i o,ops[i]?=some o->i<m->(f i).heap.le (f (i+1)).heap/\∀ t,o.dst≠some t->(f (i+1)).slot t=(f i).slot t:=fun i o h iR=>anT (sO i o h iR) (vp i o h (.inl iR))
 have hle:∀ i j,i<=j->j<=m->(f i).heap.le (f j).heap:=by
  intro i j rM
  induction j with
  | zero =>
   intro _
   have:i=0:=by omega
   subst this;exact bW.le_refl _
  | succ j ih =>
   intro l6
   by_cases e:i=j+1
   ·subst e;exact bW.le_refl _
   ·obtain⟨o,ho⟩:=xm j ae
    exact bW.le_trans (ih ae ae) (sQ j o ho ae).1
 have hconst:∀ i j t,i<=j->j<=m->(∀ k o,i<=k->k<j->ops[k]?=some o->o.dst≠some t)->(f j).slot t=(f i).slot t:=by
  intro i j t rM
  induction j with
  | zero =>
   intro _ _
   have:i=0:=by omega
   subst this;rfl
  | succ j ih =>
   intro l6 hk
   by_cases e:i=j+1
   ·subst e;rfl
   ·obtain⟨o,ho⟩:=xm j ae
    rw [(sQ j o ho ae).2 t (hk j o ae ae ho)]
    exact ih ae ae (fun k o h1 h2=>hk k o h1 ae)
 have aka:∀ i j b,i<=j->j<=m->(f i).heap b≠none->(f j).heap b≠none:=fun i j b rM l6 hb=>by
  obtain⟨blk,aGh⟩:=akP.1 hb
  obtain⟨mm,g,_⟩:=hle i j rM l6 b blk aGh
  rw [g];simp
 have ad9:∀ i o t,ops[i]?=some o->i<m->o.dst=some t->(f m).slot t=(f (i+1)).slot t:=fun i o t ho iR kJ =>
  hconst (i+1) m t ae (bp _) (fun k ok h1 h2 hk e=>(uE i k o ok t ho hk iR h2 ae e).1 kJ)
 let closed:Array Bool->Prop:=fun D=>∀ i o,ops[i]?=some o->D.getD i false=true->∀ j∈jN o,D.getD j false=true
 have yy:∀ D,closed D->∀ j i,nu ops j i->(∀ o,ops[i]?=some o->∀ k∈jN o,D.getD k false=true)->D.getD j false=true:=by
  intro D hD j i hA
  induction hA with
  | @one i o ho h=>intro hr;exact hr o ho _ h
  | @step k i o hA ho hk ih=>intro hr;exact ih (fun o' lX k' mH=>hD k o' lX (hr o ho k hk) k' mH)
 let PhA:Array Bool->Act->World->Prop:=fun D a w=>(∀ i,D.getD i false=true->i<m)/\a.defers=[]/\a.tmps.size=n/\∃ μ Z,Core W X Z0 μ Z (f m).heap w /\
  (∀ b,μ b≠none->(f 0).heap b≠none\/∃ i,i<m/\D.getD i false=true/\newAt f i b)/\∀ t,bj Z μ w (fI ops f m D t) (a.tmps.getD t undef)
 let PhB:Array Bool->Act->World->Prop:=fun D a w=>∃ k,m<=k/\(∀ i,i<ops.size->(D.getD i false=true↔i<k))/\k<=ops.size/\fV n W X Z0 (f k) a w
 let PhC:Array Bool->Act->World->Prop:=fun D a w=>m<ops.size/\(∃ om kb,ops[m]?=some om/\(om.dst=none->kb=none)/\(∀ t,om.dst≠some t->(f (m+1)).slot t=aak kb ((f m).slot t)) /\
  fV n W X Z0 ⟨jI ops f m om.dst kb D,(f (m+1)).heap⟩ a w)/\(∀ i,D.getD i false=true->i<=m)/\D.getD m false=true/\(∀ i,i<m->i∉fr->D.getD i false=true)
 have hAB:∀ D a w,PhA D a w->(∀ i,i<m->D.getD i false=true)->fV n W X Z0 (f m) a w:=by
  rintro D a w ⟨_,ec,bJ,μ,Z,hc,_,hr⟩ eE
  refine⟨ec,bJ,μ,Z,hc,fun t=>?_⟩
  have:=hr t
  unfold fI at this
  split at this
  ·exact this
  ·rename_i mX
   rw [hconst 0 m t (b8 _) (bp _) (fun k o _ k6 hk e=>mX ⟨k,o,k6,eE k k6,hk,e⟩)]
   exact this
 refine wp_region_any iH (aFS (fun D a w=>closed D/\(PhA D a w\/PhB D a w\/PhC D a w)) ve ?_ ?_ ops.size _ _ _ aT ?_ ?_)
 ·
  intro D a w i o hDs ⟨jy,hI⟩ ho sK wO
  have su:=nQ i o ho
  have aa5:D.getD i false=false:=by
   rw [dB,oL ae] at sK ⊢
   simpa using sK
  have iY:∀ k,(D.setIfInBounds i true).getD k false=true↔k=i\/D.getD k false=true:=fun k=>by
   by_cases e:i=k
   ·subst e
    rw [dB,nT ae];simp
   ·rw [dB,jP e,<-dB]
    constructor
    ·exact fun h=>.inr h
    ·rintro(h | h)
     ·exact absurd h.symm e
     ·exact h
  have acj:closed (D.setIfInBounds i true):=fun k ok hk fc j hj=>by
   rcases(iY k).1 fc with rfl | h
   ·rw [ho] at hk;cases hk
    exact(iY j).2 (.inr (wO j hj))
   ·exact(iY j).2 (.inr (jy k ok hk h j hj))
  have abS:∀ o',ops[i]?=some o'->∀ k∈jN o',D.getD k false=true:=fun o' lX k hk=>(by rw [ho] at lX;cases lX;exact wO k hk)
  have yf:∀ t,o.dst=some t->t<n:=hd o (by rw [afH];exact axc ho)
  have tail:∀ k,m<=k->(∀ j,j<ops.size->(D.getD j false=true↔j<k))->k=i->fV n W X Z0 (f k) a w ->
    if Region.wanted o (yielded ops a.tmps) then o.wp P a w (fun a' w'=>closed (D.setIfInBounds i true)/\(PhA (D.setIfInBounds i true) a' w'\/PhB (D.setIfInBounds i true) a' w'\/PhC (D.setIfInBounds i true) a' w')) Q
    else closed (D.setIfInBounds i true)/\(PhA (D.setIfInBounds i true) (a.put o.dst undef) w\/PhB (D.setIfInBounds i true) (a.put o.dst undef) w\/PhC (D.setIfInBounds i true) (a.put o.dst undef) w):=by
   intro k hmk fc e o5
   subst e
   refine fsB k o ho hmk a w (fun a' w'=>closed (D.setIfInBounds k true)/\(PhA (D.setIfInBounds k true) a' w'\/PhB (D.setIfInBounds k true) a' w'\/PhC (D.setIfInBounds k true) a' w')) _ o5 yf (fun a' w' l8=>⟨acj,.inr (.inl ⟨k+1,ae,fun j hj=>?_,ae,l8⟩)⟩)
   rw [iY j,fc j hj];omega
  have adu:i<m->∀ t,t∈o.looksAt ops->(f i).slot t=fI ops f m D t:=by
   intro iR t ht
   by_cases hex:∃ j oj,j<m/\ops[j]?=some oj/\oj.dst=some t
   ·obtain⟨j,oj,l6,hj,oJ⟩:=hex
    have yI:∀ k ok,k<m->ops[k]?=some ok->ok.dst=some t->k=j:=fun k ok k6 hk lg =>
     o8 fun aX=>(uE k j ok oj t hk hj k6 l6 aX oJ).1 lg
    by_cases kQ:j=i
    ·subst kQ
     have e1:(f j).slot t=(f 0).slot t:=hconst 0 j t (b8 _) ae (fun k ok _ hkj hk e=>by have:=yI k ok ae hk e;omega)
     have e2:fI ops f m D t=(f 0).slot t:=by
      unfold fI
      rw [if_neg]
      rintro⟨k,ok,k6,fc,hk,lg⟩
      have:=yI k ok k6 hk lg
      subst this
      rw [aa5] at fc;cases fc
     rw [e1,e2]
    ·have hp:=(uE i j o oj t ho hj iR l6 (Ne.symm kQ) oJ).2 ht
     by_cases bM:j<i
     ·rw [if_pos bM] at hp
      have w8:=yy D jy j i hp abS
      have e2:fI ops f m D t=(f m).slot t:=by
       unfold fI
       rw [if_pos ⟨j,oj,l6,w8,hj,oJ⟩]
      rw [e2,ad9 j oj t hj l6 oJ]
      exact hconst (j+1) i t ae ae (fun k ok vj pP hk e=>by have:=yI k ok ae hk e;omega)
     ·rw [if_neg bM] at hp
      have e1:(f i).slot t=(f 0).slot t:=hconst 0 i t (b8 _) ae (fun k ok _ pP hk e=>by have:=yI k ok ae hk e;omega)
      have e2:fI ops f m D t=(f 0).slot t:=by
       unfold fI
       rw [if_neg]
       rintro⟨k,ok,k6,fc,hk,lg⟩
       have:=yI k ok k6 hk lg
       subst this
       have:=yy D jy i k hp (fun o' lX k' mH=>jy k o' lX fc k' mH)
       rw [aa5] at this;cases this
      rw [e1,e2]
   ·have e1:(f i).slot t=(f 0).slot t:=hconst 0 i t (b8 _) ae (fun k ok _ pP hk e=>hex ⟨k,ok,ae,hk,e⟩)
    have e2:fI ops f m D t=(f 0).slot t:=by
     unfold fI
     rw [if_neg]
     rintro⟨k,ok,k6,fc,hk,lg⟩
     exact hex ⟨k,ok,k6,hk,lg⟩
    rw [e1,e2]
  have afN:i<m->∀ t,fI ops f m (D.setIfInBounds i true) t=if o.dst=some t then(f (i+1)).slot t else fI ops f m D t:=by
   intro iR t
   by_cases kJ:o.dst=some t
   ·rw [if_pos kJ]
    unfold fI
    rw [if_pos ⟨i,o,iR,(iY i).2 (.inl rfl),ho,kJ⟩]
    exact ad9 i o t ho iR kJ
   ·rw [if_neg kJ]
    unfold fI
    congr 1
    apply propext
    constructor
    ·rintro⟨k,ok,k6,fc,hk,lg⟩
     rcases(iY k).1 fc with rfl | h
     ·rw [ho] at hk;cases hk;exact absurd lg kJ
     ·exact⟨k,ok,k6,h,hk,lg⟩
    ·rintro⟨k,ok,k6,fc,hk,lg⟩
     exact⟨k,ok,k6,(iY k).2 (.inr fc),hk,lg⟩
  have aDc:(∀ j,j<m->D.getD j false=true)->∀ t,fI ops f m D t=(f m).slot t:=by
   intro eE t
   unfold fI
   split
   ·rfl
   ·rename_i mX
    rw [hconst 0 m t (b8 _) (bp _) (fun k o _ k6 hk e=>mX ⟨k,o,k6,eE k k6,hk,e⟩)]
  rcases hI with hA | ⟨k,hmk,fc,hkn,o5⟩ | ⟨hms,⟨om,kb,kK,tY,aen,o5⟩,hDm,agk,hDf⟩
  ·by_cases iR:i<m
   ·obtain⟨hDm,ec,bJ,μ,Z,hc,mc,hr⟩:=hA
    have azG:∀ k,(D.setIfInBounds i true).getD k false=true->k<m:=fun k hk=>by
     rcases(iY k).1 hk with rfl | h
     ·exact iR
     ·exact hDm k h
    have iE:∀ t,o.dst=some t->t<a.tmps.size:=fun t h=>by rw [bJ];exact yf t h
    have agu:∀ res,dY ops (f i) o res->Region.wanted o (yielded ops a.tmps)=res:=by
     intro res hg
     refine ach (L:=⟨fI ops f m D,(f m).heap⟩) hr ?_
     unfold dY at hg ⊢
     cases h:o.guard with
     | none=>rw [h] at hg;exact hg
     | some p =>
      obtain⟨j,want⟩:=p
      rw [h] at hg
      obtain⟨d,q1,q⟩:=hg
      have e:(f i).slot d=fI ops f m D d:=adu iR d (by unfold Oper.looksAt;rw [h];simp [q1])
      refine⟨d,q1,?_⟩
      show (∃ b,fI ops f m D d=_/\_)\/(fI ops f m D d=_/\_)
      rw [<-e]
      exact q
    have ab4:∀ (r:LV) (v:Value) (w':World) (bm:Nat->Option Nat) (Z':Nat->Prop),(∀ t,o.dst=some t->(f (i+1)).slot t=r)->Core W X Z0 bm Z' (f m).heap w' ->
      (∀ b,bm b≠none->μ b≠none\/newAt f i b)->(∀ t,bj Z' bm w' (fI ops f m D t) (a.tmps.getD t undef))->bj Z' bm w' r v ->
      closed (D.setIfInBounds i true)/\(PhA (D.setIfInBounds i true) (a.put o.dst v) w'\/PhB (D.setIfInBounds i true) (a.put o.dst v) w'\/PhC (D.setIfInBounds i true) (a.put o.dst v) w'):=by
     intro r v w' bm Z' pZ hc' hnw sG hv
     refine⟨acj,.inl ⟨azG,by rw [put_defers];exact ec,by rw [rm];exact bJ,bm,Z',hc',fun b hb=>?_,fun t=>?_⟩⟩
     ·rcases hnw b hb with h | h
      ·rcases mc b h with h | ⟨k,k6,fc,hk⟩
       ·exact qj
       ·exact .inr ⟨k,k6,(iY k).2 (.inr fc),hk⟩
      ·exact .inr ⟨i,iR,(iY i).2 (.inl rfl),h⟩
     ·rw [afN iR t]
      have:=rp (L:=⟨fI ops f m D,(f m).heap⟩) (d:=o.dst) iE sG hv t
      split
      ·rename_i kJ
       rw [pZ t kJ]
       rw [kJ,g8,if_pos rfl] at this
       rw [kJ];exact this
      ·rename_i kJ
       cases qC:o.dst with
       | none=>rw [qC] at this;exact this
       | some d =>
        rw [qC] at this kJ
        rwa [g8,if_neg (fun e=>kJ (by rw [e]))] at this
    have aG3:=vp i o ho (by first | exact .inl ae | (refine .inr ?_;rintro rfl;simp_all))
    cases aJz:aG3 with
    | skip hg h =>
     rw [agu false hg]
     simp only [adv,if_false]
     exact ab4 (.bf []) undef w μ Z (fun t ht=>by rw [h,ht,g8,if_pos rfl]) hc (fun b hb=>.inl hb) hr ⟨#[],rfl,rfl⟩
    | @val r fr H1 hg hH dO mQ h =>
     rw [agu true hg]
     simp only [if_true]
     have uI:H1=(f (i+1)).heap:=by rw [h]
     have ado:H1.le (f m).heap:=by rw [uI];exact hle (i+1) m ae (bp _)
     have aGE:=mQ.le ado
     obtain⟨dst,op,ty,pos,after,g⟩:=o
     have anL:∀ x∈op.operands,bj Z μ w ((f i).ev x) (a.eval x):=by
      intro x hx
      cases x with
      | tmp t =>
       have ht:t∈Oper.looksAt ops ⟨dst,op,ty,pos,after,g⟩:=by
        unfold Oper.looksAt
        simp only [oy,yi]
        exact .inl ⟨.tmp t,by simpa using hx,rfl⟩
       show bj Z μ w ((f i).slot t) (a.tmps.getD t undef)
       rw [adu iR t ht];exact hr t
      | const v=>exact lF (L:=⟨fI ops f m D,(f m).heap⟩) hr (.const v)
      | func g=>exact lF (L:=⟨fI ops f m D,(f m).heap⟩) hr (.func g)
      | global g=>exact lF (L:=⟨fI ops f m D,(f m).heap⟩) hr (.global g)
     refine mP.sound hc aGE anL (fun b blk hb=>?_) dst ty pos after g (fun v w' bm Z' p8=>?_)
     ·obtain⟨q1,mm,q2,q3⟩:=dO b blk hb
      obtain⟨m2,q4,q5,_⟩:=ado b _ q2
      refine⟨m2,q4,fun e=>q5 (q3 e),?_⟩
      cases tC:μ b with
      | none=>rfl
      | some id =>
       rcases mc b (by rw [tC];simp) with h0 | ⟨k,k6,fc,uL,mJ⟩
       ·exact absurd q1 (aka 0 i b (b8 _) ae h0)
       ·have pP:k≠i:=by rintro rfl;rw [aa5] at fc;cases fc
        by_cases bM:k<i
        ·exact absurd q1 (aka (k+1) i b ae ae mJ)
        ·have:(f (i+1)).heap b≠none:=by rw [<-uI,q2];simp
         exact absurd uL (aka (i+1) k b ae ae this)
     ·refine ab4 r v w' bm Z' (fun t ht=>by rw [h];simp only at ht;subst ht;exact(g8 _ _ _ _).trans (if_pos rfl)) p8.core (fun b hb=>?_) (fun t=>(hr t).mono p8.hz p8.hm p8.hf) p8.rep
      rcases p8.new b hb with h' | h'
      ·exact .inl h'
      ·simp only [da] at h'
       obtain⟨⟨b',blk⟩,pA,rfl⟩:=h'
       obtain⟨q1,mm,q2,_⟩:=dO b' blk pA
       exact .inr ⟨q1,by rw [<-uI,q2];simp⟩
    | st hg lX =>
     have:=sO i o ho iR
     rw [lX.tail] at this;cases this
    | stM gX _ _=>cases gX
   ·have ajk:i=m:=by
     by_cases e:i=m
     ·exact e
     ·rcases vI i o ho ae (i-1) ae with h | ⟨h,_⟩
      ·have:=hA.1 (i-1) (yy D jy _ i h abS);omega
      ·exact absurd h e
    by_cases eE:∀ j,j<i->D.getD j false=true
    ·subst ajk
     exact tail i (bp _) (fun j hj=>⟨fun h=>hA.1 j h,fun h=>eE j h⟩) rfl (hAB D a w hA eE)
    ·
     obtain⟨j0,hj0,aEl⟩:∃ j,j<i/\D.getD j false=false:=by
      obtain⟨j,h⟩:=aCS.1 eE
      obtain⟨h,h'⟩:=aDu.1 h
      exact⟨j,h,by simpa using h'⟩
     have hnf:∀ j,j<m->j∉fr->D.getD j false=true:=fun j hj hjf=>by
      rcases vI i o ho ae j ae with h | ⟨_,h⟩
      ·exact yy D jy j i h abS
      ·exact absurd h hjf
     have aBw:j0∈fr:=o8 fun h=>by have:=hnf j0 ae h;rw [aEl] at this;cases this
     obtain⟨oj0,aHB⟩:=xm j0 ae
     subst ajk
     obtain⟨_,hms,dC,_⟩:=acE j0 oj0 aHB aBw
     obtain⟨rY,vT,_⟩:=dC o ho
     have kA:∀ t,t∈o.looksAt ops->fI ops f i D t=(f i).slot t:=by
      intro t ht
      unfold fI
      split
      ·rfl
      ·rename_i mX
       refine(hconst 0 i t (b8 _) (bp _) (fun k ok _ pP hk e=>mX ⟨k,ok,pP,?_,hk,e⟩)).symm
       by_cases hkf:k∈fr
       ·exact absurd ht (((acE k ok hk hkf).2.2.1 o ho).2.2.1 t e).1
       ·exact hnf k pP hkf
     have gG:∀ y,y∈o.op.operands->St.ev ⟨fI ops f i D,(f i).heap⟩ y=(f i).ev y:=by
      intro y hy
      cases y with
      | tmp t =>
       show fI ops f i D t=(f i).slot t
       refine kA t ?_
       unfold Oper.looksAt
       simp only [oy,yi]
       exact .inl ⟨.tmp t,by simpa using hy,rfl⟩
      | const v=>rfl
      | func g=>rfl
      | global g=>rfl
     have hA2:fV n W X Z0 ⟨fI ops f i D,(f i).heap⟩ a w:=by
      obtain⟨_,ec,bJ,μ,Z,hc,_,hr⟩:=hA
      exact⟨ec,bJ,μ,Z,hc,hr⟩
     have aee:∃ kb,(o.dst=none->kb=none)/\(∀ t,o.dst≠some t->(f (i+1)).slot t=aak kb ((f i).slot t)) /\
       Step P true ops o ⟨fI ops f i D,(f i).heap⟩ ⟨jI ops f i o.dst kb D,(f (i+1)).heap⟩:=by
      have ku:=vp i o ho (by first | exact .inl ae | (refine .inr ?_;rintro rfl;simp_all))
      obtain⟨dst,op,ty,pos,after,g⟩:=o
      simp only at rY vT
      rcases vT with⟨jD,T,p,x,vT⟩ | ⟨d,xs,ts,jD,vT⟩
      ·subst rY jD vT
       have e1:=gG p bS
       have e2:=gG x bS
       cases ku with
       | skip hg h=>cases hg
       | val hg hle dO mQ h =>
        cases mQ with
        | pure h=>cases h
        | alloc h=>cases h
        | call h=>cases h
       | st hg rn =>
        generalize hfe:f (i+1)=F at rn
        cases rn with
        | store hp hb hs hm hi hy mS hT aX =>
         refine⟨none,fun _=>rfl,fun t _=>rfl,.st rfl ?_⟩
         have:=gO.store (P:=P) (L:=⟨fI ops f i D,(f i).heap⟩) (dst:=none) (x:=x) (e1.trans hp) hb hs hm hi hy (by rw [e2];exact mS) (by rw [e2];exact hT) (by rw [e2];exact aX)
         exact this
       | stM gX _ _=>cases gX
      ·subst rY jD vT
       cases ku with
       | skip hg h=>cases hg
       | val hg hle dO mQ h =>
        cases mQ with
        | pure h=>cases h
        | alloc h=>cases h
        | call h=>cases h
       | st hg rn =>
        generalize hfe:f (i+1)=F at rn
        cases rn with
        | @iw T U E E' d1 b sz len blk x y news z dN hx hb hs hm hlen ga gf hT hU hz hE dQ lD hy bJ gC dM =>
         have e1:=gG x lC
         have e2:=gG y lC
         refine⟨some b,(fun h=>by cases h),fun t ht=>?_,.st rfl ?_⟩
         ·exact(g8 _ _ _ _).trans (if_neg (fun e=>ht (by rw [e])))
         ·have:=gO.iw (P:=P) (L:=⟨fI ops f i D,(f i).heap⟩) (dst:=some d) (x:=x) (y:=y) (e1.trans hx) hb hs hm hlen ga gf hT hU hz hE dQ lD (by rw [e2];exact hy) bJ gC dM
          have hq:(⟨jI ops f i (some d) (some b) D,((((f i).kill b).bO d1 (some ⟨sz,b7 b (blk.vals.take len++news),true⟩)).put (some d) (.ref d1 sz 0 (len+news.length))).heap⟩:St) =
            (((St.kill ⟨fI ops f i D,(f i).heap⟩ b).bO d1 (some ⟨sz,b7 b (blk.vals.take len++news),true⟩)).put (some d) (.ref d1 sz 0 (len+news.length))):=by
           show (⟨_,_⟩:St)=⟨_,_⟩
           congr 1
           funext t
           unfold jI
           rw [hfe,g8]
           refine Eq.trans ?_ (g8 _ _ _ _).symm
           by_cases e:t=d
           ·subst e;rw [if_pos rfl,if_pos rfl,if_pos rfl]
           ·rw [if_neg (by simpa using fun h=>e h.symm),if_neg e];rfl
          rw [hq]
          exact this
        | @ae1 T U E E' d1 sz x y news z dN hx ga hT hU hz hE dQ lD hy hn bJ gC dM =>
         have e1:=gG x lC
         have e2:=gG y lC
         refine⟨none,(fun h=>by cases h),fun t ht=>?_,.st rfl ?_⟩
         ·exact(g8 _ _ _ _).trans (if_neg (fun e=>ht (by rw [e])))
         ·have:=gO.ae1 (P:=P) (L:=⟨fI ops f i D,(f i).heap⟩) (dst:=some d) (x:=x) (y:=y) (e1.trans hx) ga hT hU hz hE dQ lD (by rw [e2];exact hy) hn bJ gC dM
          have hq:(⟨jI ops f i (some d) none D,((((f i).bO d1 (some ⟨sz,news,true⟩)).put (some d) (.ref d1 sz 0 news.length))).heap⟩:St) =
            (((St.bO ⟨fI ops f i D,(f i).heap⟩ d1 (some ⟨sz,news,true⟩)).put (some d) (.ref d1 sz 0 news.length))):=by
           show (⟨_,_⟩:St)=⟨_,_⟩
           congr 1
           funext t
           unfold jI
           rw [hfe,g8]
           refine Eq.trans ?_ (g8 _ _ _ _).symm
           by_cases e:t=d
           ·subst e;rw [if_pos rfl,if_pos rfl,if_pos rfl]
           ·rw [if_neg (by simpa using fun h=>e h.symm),if_neg e];rfl
          rw [hq]
          exact this
       | stM gX _ _=>cases gX
     obtain⟨kb,tY,aHq,aee⟩:=aee
     refine acG hA2 aee yf (K:=fun a' w'=>closed (D.setIfInBounds i true)/\(PhA (D.setIfInBounds i true) a' w'\/PhB (D.setIfInBounds i true) a' w'\/PhC (D.setIfInBounds i true) a' w')) (fun a' w' l8=>⟨acj,.inr (.inr ⟨hms,⟨o,kb,ho,tY,aHq,?_⟩,fun k hk=>?_,(iY i).2 (.inl rfl),fun k hk hkf=>(iY k).2 (.inr (hnf k hk hkf))⟩)⟩)
     ·have:fI ops f i (D.setIfInBounds i true)=fI ops f i D:=by
       funext t
       unfold fI
       congr 1
       apply propext
       constructor
       ·rintro⟨k,ok,k6,fc,hk,lg⟩
        rcases(iY k).1 fc with rfl | h
        ·omega
        ·exact⟨k,ok,k6,h,hk,lg⟩
       ·rintro⟨k,ok,k6,fc,hk,lg⟩
        exact⟨k,ok,k6,(iY k).2 (.inr fc),hk,lg⟩
      have e:jI ops f i o.dst kb (D.setIfInBounds i true)=jI ops f i o.dst kb D:=by
       funext t;unfold jI;rw [this]
      rw [e];exact l8
     ·rcases(iY k).1 hk with rfl | h
      ·exact bp _
      ·have:=hA.1 k h;omega
  ·have hik:k<=i:=by
    by_cases e:i<k
    ·have:=(fc i su).2 e;rw [aa5] at this;cases this
    ·omega
   have:k=i:=by
    by_cases e:k=i
    ·exact e
    ·rcases vI i o ho ae k ae with h | ⟨h,_⟩
     ·have:=yy D jy k i h abS
      have:=(fc k ae).1 this;omega
     ·omega
   exact tail k hmk fc this o5
  ·
   have azK:i≠m:=by rintro rfl;rw [aa5] at agk;cases agk
   by_cases iR:i<m
   ·have hif:i∈fr:=o8 fun h=>by have:=hDf i iR h;rw [aa5] at this;cases this
    obtain⟨_,_,dC,rY,vT⟩:=acE i o ho hif
    obtain⟨_,_,jS,xo⟩:=dC om kK
    have arH:∀ t,t∈o.looksAt ops->jI ops f m om.dst kb D t=aak kb ((f i).slot t):=fun t ht=>by
     unfold jI
     rw [if_neg (fun e=>xo t e ht),<-adu iR t ht]
    have arU:∀ t,Operand.tmp t∈o.op.operands->t∈o.looksAt ops:=fun t hy=>by
     unfold Oper.looksAt
     simp only [oy,yi]
     exact .inl ⟨.tmp t,by simpa using hy,rfl⟩
    have gG:kb=none->∀ y,y∈o.op.operands->(f i).ev y=St.ev ⟨jI ops f m om.dst kb D,(f (m+1)).heap⟩ y:=by
     intro hk y hy
     cases y with
     | tmp t =>
      show (f i).slot t=jI ops f m om.dst kb D t
      rw [arH t (arU t hy),hk];rfl
     | const v=>rfl
     | func g=>rfl
     | global g=>rfl
    have azm:∀ y,y∈o.op.operands->St.ev ⟨jI ops f m om.dst kb D,(f (m+1)).heap⟩ y=aak kb ((f i).ev y):=by
     intro y hy
     cases y with
     | tmp t=>exact arH t (arU t hy)
     | const v =>
      show (if _ then _ else _:LV)=aak kb (if _ then _ else _)
      cases kb<;>split<;>rfl
     | func g=>cases kb<;>rfl
     | global g=>cases kb<;>rfl
    by_cases aqF:∃ r,mP P (f (m+1)).heap (f i).ev (o.dst.getD 0) o.op r []/\(∀ t,o.dst=some t->(f (i+1)).slot t=r)/\om.dst=none
    ·obtain⟨r,mQ,pZ,hnd⟩:=aqF
     have kZ:=tY hnd
     obtain⟨ec,bJ,μ,Z,hc,hr⟩:=o5
     have iE:∀ t,o.dst=some t->t<a.tmps.size:=fun t h=>by rw [bJ];exact yf t h
     have aFm:Region.wanted o (yielded ops a.tmps)=true:=ach (L:=⟨jI ops f m om.dst kb D,(f (m+1)).heap⟩) hr (by unfold dY;rw [rY])
     rw [aFm]
     simp only [if_true]
     have p8:=afN iR
     obtain⟨dst,op,ty,pos,after,g⟩:=o
     have anL:∀ x∈op.operands,bj Z μ w ((f i).ev x) (a.eval x):=by
      intro x hx
      have h1:=lF (L:=⟨jI ops f m om.dst kb D,(f (m+1)).heap⟩) hr x
      rwa [<-gG kZ x hx] at h1
     refine mP.sound hc mQ anL (fun b blk hb=>by cases hb) dst ty pos after g (fun v w' bm Z' afi=>?_)
     refine⟨acj,.inr (.inr ⟨hms,⟨om,kb,kK,tY,aen,by rw [put_defers];exact ec,by rw [rm];exact bJ,bm,Z',afi.core,fun t=>?_⟩,fun k hk=>?_,(iY m).2 (.inr agk),fun k hk hkf=>(iY k).2 (.inr (hDf k hk hkf))⟩)⟩
     ·have h1:=rp (L:=⟨jI ops f m om.dst kb D,(f (m+1)).heap⟩) (d:=dst) iE (fun t=>(hr t).mono afi.hz afi.hm afi.hf) afi.rep t
      have e:jI ops f m om.dst kb (D.setIfInBounds i true) t=(St.put ⟨jI ops f m om.dst kb D,(f (m+1)).heap⟩ dst r).slot t:=by
       unfold jI
       rw [p8 t,hnd,kZ]
       cases dst with
       | none=>rw [if_neg (c:=(none:Option Tmp)=some t) aT,if_neg (c:=(none:Option Tmp)=some t) aT];rfl
       | some d =>
        rw [if_neg (c:=(none:Option Tmp)=some t) aT,g8]
        by_cases e:t=d
        ·subst e;rw [if_pos rfl,if_pos rfl];exact pZ t rfl
        ·rw [if_neg (c:=(some d:Option Tmp)=some t) (by simpa using fun h=>e h.symm),if_neg e]
         show aak none (fI ops f m D t)=if (none:Option Tmp)=some t then(f (m+1)).slot t else aak none (fI ops f m D t)
         rw [if_neg aT]
      show bj Z' bm w' (jI ops f m om.dst kb (D.setIfInBounds i true) t) _
      rw [e];exact h1
     ·rcases(iY k).1 hk with rfl | h
      ·omega
      ·exact hDm k h
    replace vT:(∃ x,o.op=.move x)\/(∃ q T x y U,o.op=.binOp q T x y U/\∀ om,ops[m]?=some om->om.dst=none)\/(∃ x i,o.op=.extract x i/\∀ om,ops[m]?=some om->om.dst=none):=by
     rcases vT with h | h | h | ⟨h1,r,h2,h3⟩
     ·exact qj
     ·exact .inr (.inl h)
     ·exact .inr (.inr h)
     ·exact absurd ⟨r,h2,h3,h1 om kK⟩ aqF
    have aee:Step P true ops o ⟨jI ops f m om.dst kb D,(f (m+1)).heap⟩ ⟨jI ops f m om.dst kb (D.setIfInBounds i true),(f (m+1)).heap⟩:=by
     have ku:=vp i o ho (by first | exact .inl ae | (refine .inr ?_;rintro rfl;simp_all))
     have p8:=afN iR
     obtain⟨dst,op,ty,pos,after,g⟩:=o
     simp only at rY vT p8 jS
     subst rY
     have ajE:∀ r,aE P (f (m+1)).heap (St.ev ⟨jI ops f m om.dst kb D,(f (m+1)).heap⟩) op (aak kb r)->(∀ t,dst=some t->(f (i+1)).slot t=r)->Step P true ops ⟨dst,op,ty,pos,after,none⟩ ⟨jI ops f m om.dst kb D,(f (m+1)).heap⟩ ⟨jI ops f m om.dst kb (D.setIfInBounds i true),(f (m+1)).heap⟩:=by
      intro r hr pZ
      refine .val rfl (bW.le_refl _) (fr:=[]) (fun _ _ h=>by cases h) (.pure hr) ?_
      show (_:St)=⟨_,_⟩
      congr 1
      funext t
      unfold jI
      rw [p8 t]
      cases dst with
      | none=>rw [if_neg (c:=(none:Option Tmp)=some t) aT];rfl
      | some d =>
       show _=(St.put _ (some d) _).slot t
       rw [g8]
       by_cases e:t=d
       ·subst e;rw [if_neg (jS t rfl).2,if_pos rfl,if_pos rfl,pZ t rfl]
       ·rw [if_neg (c:=(some d:Option Tmp)=some t) (by simpa using fun h=>e h.symm),if_neg e]
     cases ku with
     | skip hg h=>cases hg
     | @val r fr' H1 hg hle dO mQ h =>
      have pZ:∀ t,dst=some t->(f (i+1)).slot t=r:=fun t ht=>by rw [h];simp only;subst ht;exact(g8 _ _ _ _).trans (if_pos rfl)
      rcases vT with⟨x,rfl⟩ | ⟨q,T,x,y,U,rfl,hnd⟩ | ⟨x,i,rfl,hnd⟩
      ·cases mQ with
       | pure hp =>
        cases hp with
        | move =>
         refine ajE _ ?_ pZ
         rw [<-azm x bS];exact .move x
       | alloc hp=>cases hp
       | call hp=>cases hp
      ·have kZ:=tY (hnd om kK)
       have e1:=gG kZ x bS
       have e2:=gG kZ y bS
       cases mQ with
       | pure hp =>
        refine ajE _ ?_ pZ
        rw [kZ] at e1 e2 ⊢
        cases hp with
        | bin hx hy hb=>exact .bin (e1.symm.trans hx) (e2.symm.trans hy) hb
        | sh hx hy hb=>exact .sh (e1.symm.trans hx) (e2.symm.trans hy) hb
        | beq hx hy hb=>exact .beq (e1.symm.trans hx) (e2.symm.trans hy) hb
        | bne hx hy hb=>exact .bne (e1.symm.trans hx) (e2.symm.trans hy) hb
        | zu hx hy hb=>exact .zu (e1.symm.trans hx) (e2.symm.trans hy) hb
        | eqS hx hy=>exact .eqS (e1.symm.trans hx) (e2.symm.trans hy)
        | eqN hx hy hT=>exact .eqN (e1.symm.trans hx) (e2.symm.trans hy) hT
        | aae hx hy hT=>exact .aae (e1.symm.trans hx) (e2.symm.trans hy) hT
        | zk hx hy hT hE hs hd=>exact .zk (e1.symm.trans hx) (e2.symm.trans hy) hT hE hs hd
       | alloc hp=>cases hp
       | call hp=>cases hp
      ·have kZ:=tY (hnd om kK)
       have e1:=gG kZ x bS
       cases mQ with
       | pure hp =>
        refine ajE _ ?_ pZ
        rw [kZ] at e1 ⊢
        cases hp with
        | extract ht hr aX=>exact .extract (e1.symm.trans ht) hr aX
       | alloc hp=>cases hp
       | call hp=>cases hp
     | st hg rn=>rcases vT with⟨x,rfl⟩ | ⟨q,T,x,y,U,rfl,_⟩ | ⟨x,i,rfl,_⟩<;>cases rn
     | stM gX _ _=>cases gX
    refine acG o5 aee yf (K:=fun a' w'=>closed (D.setIfInBounds i true)/\(PhA (D.setIfInBounds i true) a' w'\/PhB (D.setIfInBounds i true) a' w'\/PhC (D.setIfInBounds i true) a' w')) (fun a' w' l8=>⟨acj,.inr (.inr ⟨hms,⟨om,kb,kK,tY,aen,l8⟩,fun k hk=>?_,(iY m).2 (.inr agk),fun k hk hkf=>(iY k).2 (.inr (hDf k hk hkf))⟩)⟩)
    rcases(iY k).1 hk with rfl | h
    ·omega
    ·exact hDm k h
   ·have eE:∀ j,j<i->D.getD j false=true:=fun j hj=>by
     rcases vI i o ho ae j hj with h | ⟨h,_⟩
     ·exact yy D jy j i h abS
     ·exact absurd h azK
    have ajk:i=m+1:=by
     by_cases e:i=m+1
     ·exact e
     ·have:=hDm (m+1) (eE (m+1) ae);omega
    refine tail (m+1) ae (fun j hj=>⟨fun h=>by have:=hDm j h;omega,fun h=>eE j ae⟩) ajk.symm ?_
    have kA:=aDc (fun j hj=>eE j ae)
    have:(⟨jI ops f m om.dst kb D,(f (m+1)).heap⟩:St)=f (m+1):=by
     show (⟨_,_⟩:St)=⟨_,_⟩
     congr 1
     funext t
     unfold jI
     split
     ·rfl
     ·rename_i e;rw [kA t,aen t e]
    rw [<-this];exact o5
 ·
  rintro D a w hDs ⟨jy,hI⟩ eE
  rcases hI with hA | ⟨k,hmk,fc,hkn,o5⟩ | ⟨hms,⟨om,kb,kK,tY,aen,o5⟩,hDm,agk,hDf⟩
  ·have azF:m=ops.size:=by
    by_cases e:m=ops.size
    ·exact e
    ·have:=hA.1 m (eE m ae);omega
   exact hq _ a w (azF ▸ fK) (hAB D a w hA (fun i hi=>eE i ae))
  ·have:k=ops.size:=by
    by_cases e:k=ops.size
    ·exact e
    ·have:=(fc k ae).1 (eE k ae);omega
   subst this
   exact hq _ a w fK o5
  ·have jM:m+1=ops.size:=by
    by_cases e:m+1=ops.size
    ·exact e
    ·have:=hDm (m+1) (eE (m+1) ae);omega
   have kA:fI ops f m D=(f m).slot:=by
    funext t
    unfold fI
    split
    ·rfl
    ·rename_i mX
     rw [hconst 0 m t (b8 _) (bp _) (fun k o _ k6 hk e=>mX ⟨k,o,k6,eE k ae,hk,e⟩)]
   have:(⟨jI ops f m om.dst kb D,(f (m+1)).heap⟩:St)=f (m+1):=by
    show (⟨_,_⟩:St)=⟨_,_⟩
    congr 1
    funext t
    unfold jI
    split
    ·rfl
    ·rename_i e;rw [kA,aen t e]
   exact hq _ a w (jM ▸ fK) (this ▸ o5)
 ·
  refine a9 List.countP_le_length ?_
  simp
 ·
  have hD0:∀ i,(qT ops.size false).getD i false=false:=fun i=>by
   rw [dB,Array.getElem?_replicate];split<;>rfl
  refine⟨fun i o _ h=>(by rw [hD0] at h;cases h),.inl ⟨fun i h=>(by rw [hD0] at h;cases h),?_⟩⟩
  rw [<-f0] at hs
  obtain⟨ec,bJ,μ,Z,hc,hr⟩:=hs
  obtain⟨Z1,k1,k2⟩:=hc.xl (hle 0 m (b8 _) (bp _))
  have azy:∀ (w':World),w'.heap=w.heap->Frame Z μ w w':=fun w' h=>⟨fun _ _=>by rw [h],fun _ id _ c _ _ hh=>⟨c,by rw [h];exact hh,rfl⟩⟩
  have aG0:∀ (w':World),w'.heap=w.heap->Frame Z1 μ w w':=fun w' h=>⟨fun _ _=>by rw [h],fun _ id _ c _ _ hh=>⟨c,by rw [h];exact hh,rfl⟩⟩
  refine⟨ec,bJ,μ,Z1,⟨⟨k1.cC.os,k1.cC.tape,k1.cC.output,k1.cC.size,k1.cC.block,k1.cC.vx⟩,k1.lI,k1.jG,k1.lK,k1.inj,k1.own,k1.x0,k1.ov,k1.x1,k1.jx,k1.b9,fun b id hb=>?_⟩,fun b hb=>?_,fun t=>?_⟩
  ·obtain⟨blk,g1,g2⟩:=k1.heap b id hb
   exact⟨blk,g1,g2.mono (fun _ h=>h) (fun _ _ h=>h) (aG0 _ rfl) rfl⟩
  ·left
   obtain⟨id,hid⟩:=akP.1 hb
   obtain⟨blk,g1,_⟩:=hc.heap b id hid
   rw [g1];simp
  ·have:fI ops f m (qT ops.size false) t=(f 0).slot t:=by
    unfold fI
    rw [if_neg]
    rintro⟨i,o,_,h,_⟩
    rw [hD0] at h;cases h
   rw [this]
   exact(hr t).mono k2 (fun _ _ h=>h) (azy { w with drawn:=w.drawn+1 } rfl)
theorem ap9 {m id:Nat} {fr:List Nat} {K:St->Prop} {Q:Exit->Act->World->Prop} {L:St} {f:Nat->St} (iH:P.follows .mixedOrders=true) (hs:fV n W X Z0 L a w)
  (f0:f 0=L) (vp:∀ i o,ops[i]?=some o->Step P true ops o (f i) (f (i+1))) (fK:K (f ops.size)) (wx:m<=ops.size) (ve:∀ i o,ops[i]?=some o->∀ j∈jN o,j<i)
  (vI:∀ i o,ops[i]?=some o->m<=i->∀ j,j<i->nu ops j i\/(i=m/\j∈fr)) (sO:∀ i o,ops[i]?=some o->i<m->wB o.op=false)
  (uE:∀ i j oi oj d,ops[i]?=some oi->ops[j]?=some oj->i<m->j<m->i≠j->oj.dst=some d->oi.dst≠some d/\(d∈oi.looksAt ops->if j<i then nu ops j i else nu ops i j))
  (acE:∀ j o,ops[j]?=some o->j∈fr->j<m/\m<ops.size/\(∀ om,ops[m]?=some om->om.guard=none/\((om.dst=none/\∃ T p x,om.op=.store T p x)\/∃ d xs ts,om.dst=some d/\om.op=.call ⟨.builtin .append,xs,ts⟩) /\
    (∀ d,o.dst=some d->d∉om.looksAt ops/\om.dst≠some d)/\∀ d,om.dst=some d->d∉o.looksAt ops) /\
   o.guard=none/\((∃ x,o.op=.move x)\/(∃ q T x y U,o.op=.binOp q T x y U/\∀ om,ops[m]?=some om->om.dst=none)\/(∃ x i,o.op=.extract x i/\∀ om,ops[m]?=some om->om.dst=none) \/
    ((∀ om,ops[m]?=some om->om.dst=none)/\∃ r,mP P (f (m+1)).heap (f j).ev (o.dst.getD 0) o.op r []/\∀ t,o.dst=some t->(f (j+1)).slot t=r)))
  (hd:∀ o∈ops.toList,∀ t,o.dst=some t->t<n) (hq:∀ L' a' w',K L'->fV n W X Z0 L' a' w'->Q .normal a' w') :
  (Code.region id ops true).wp P Q a w :=
 al8 iH hs f0 (fun i o ho _=>vp i o ho) (fun i o ho _ a w K Q o5 yf hK=>acG o5 (vp i o ho) yf hK) fK wx ve vI sO uE acE hd hq
theorem aCM {m id:Nat} {fr:List Nat} {K:St->Prop} {Q:Exit->Act->World->Prop} {L:St} (iH:P.follows .mixedOrders=true) (fq:yT ops m fr=true) (hs:fV n W X Z0 L a w)
  (hL:opsL P true ops ops.toList L K) (hd:∀ o∈ops.toList,∀ t,o.dst=some t->t<n) (hq:∀ L' a' w',K L'->fV n W X Z0 L' a' w'->Q .normal a' w') :
  (Code.region id ops true).wp P Q a w:=by
 obtain⟨f,f0,fs,fK⟩:=aaO _ _ hL
 have vp:∀ i o,ops[i]?=some o->Step P true ops o (f i) (f (i+1)):=fun i o h=>fs i o mW
 rw [nC] at fK
 unfold yT at fq
 simp only [jq,decide_eq_true_eq,oR,pI] at fq
 obtain⟨⟨⟨wx,h1⟩,h2⟩,h3⟩:=fq
 have g7:∀ i o,ops[i]?=some o->ops.getD i default=o:=fun i o h=>by rw [dB,h];rfl
 have nQ:∀ i o,ops[i]?=some o->i<ops.size:=fun i o h=>(mN.1 h).1
 have xm:∀ i,i<ops.size->∃ o,ops[i]?=some o:=fun i h=>⟨_,oL h⟩
 have ve:∀ i o,ops[i]?=some o->∀ j∈jN o,j<i:=fun i o h j hj=>by
  have:=(h1 i (nQ i o h)).1 j (by rw [g7 i o h];exact hj)
  simpa using this
 have o7:=ad1 ops ops.toList [] (fun i=>by simp) (fun i t h=>by simp at h)
 have vI:∀ i o,ops[i]?=some o->m<=i->∀ j,j<i->nu ops j i\/(i=m/\j∈fr):=fun i o h xT j hj=>by
  have:=(h1 i (nQ i o h)).2
  rw [if_pos xT] at this
  have:=(oR.1 this) j (by simpa using hj)
  simp only [ob,jq,beq_iff_eq,oX] at this
  rcases this with g | g
  ·exact .inl (o7 i j (by simpa using g))
  ·exact .inr g
 have sO:∀ i o,ops[i]?=some o->i<m->wB o.op=false:=fun i o h xT=>by
  have:=(h1 i (nQ i o h)).2
  rw [if_neg ae,g7 i o h] at this
  simpa using this
 have uE:∀ i j oi oj d,ops[i]?=some oi->ops[j]?=some oj->i<m->j<m->i≠j->oj.dst=some d->oi.dst≠some d/\(d∈oi.looksAt ops->if j<i then nu ops j i else nu ops i j):=by
  intro i j oi oj d hi hj iR l6 aX oJ
  have:=h2 i iR j l6
  simp only [ob,beq_iff_eq] at this
  rcases this with h | h
  ·exact absurd h aX
  ·unfold aaG at h
   rw [g7 j oj hj,g7 i oi hi,oJ] at h
   simp only [jq,bne_iff_ne,ne_eq,ob,wY] at h
   refine⟨h.1,fun se=>?_⟩
   rcases h.2 with h' | h'
   ·rw [oX.2 se] at h';cases h'
   ·split
    ·rename_i bM;rw [if_pos bM] at h';exact o7 i j h'
    ·rename_i bM;rw [if_neg bM] at h';exact o7 j i h'
 have acE:∀ j o,ops[j]?=some o->j∈fr->j<m/\m<ops.size/\(∀ om,ops[m]?=some om->om.guard=none/\((om.dst=none/\∃ T p x,om.op=.store T p x)\/∃ d xs ts,om.dst=some d/\om.op=.call ⟨.builtin .append,xs,ts⟩) /\
    (∀ d,o.dst=some d->d∉om.looksAt ops/\om.dst≠some d)/\∀ d,om.dst=some d->d∉o.looksAt ops) /\
   o.guard=none/\((∃ x,o.op=.move x)\/(∃ q T x y U,o.op=.binOp q T x y U/\∀ om,ops[m]?=some om->om.dst=none)\/(∃ x i,o.op=.extract x i/\∀ om,ops[m]?=some om->om.dst=none) \/
    ((∀ om,ops[m]?=some om->om.dst=none)/\∃ r,mP P (f (m+1)).heap (f j).ev (o.dst.getD 0) o.op r []/\∀ t,o.dst=some t->(f (j+1)).slot t=r)):=by
  intro j o ho hj
  simp only [ob,List.isEmpty_iff,jq,decide_eq_true_eq,oR] at h3
  rcases h3 with h3 | ⟨⟨hm,dC⟩,eE⟩
  ·rw [h3] at hj;cases hj
  ·obtain⟨l6,hf⟩:=eE j hj
   unfold as8 at hf
   rw [g7 j o ho] at hf
   simp only [jq,wW] at hf
   obtain⟨⟨⟨hf1,qV⟩,uV⟩,hf4⟩:=hf
   refine⟨l6,hm,fun om kK=>?_,hf1,?_⟩
   ·unfold awq at dC
    rw [g7 m om kK] at dC uV hf4
    simp only [jq,wW] at dC
    refine⟨dC.1,?_,fun d hd=>⟨fun se=>?_,fun e=>?_⟩,fun d hd se=>?_⟩
    ·have:=dC.2
     split at this
     ·rename_i T p x e;exact .inl ⟨wW.1 this,T,p,x,e⟩
     ·rename_i xs ts e
      obtain⟨d,hd⟩:=Option.isSome_iff_exists.1 this
      exact .inr ⟨d,xs,ts,hd,e⟩
     ·cases this
    ·rw [hd] at uV
     simp only [oX.2 se] at uV
     cases uV
    ·rw [hd,e] at uV
     simp at uV
    ·rw [hd] at hf4
     simp only [oX.2 se] at hf4
     cases hf4
   ·split at qV
    ·rename_i x e;exact .inl ⟨x,e⟩
    ·rename_i q T x y U e;exact .inr (.inl ⟨q,T,x,y,U,e,fun om kK=>by rw [g7 m om kK] at qV;exact wW.1 qV⟩)
    ·rename_i x i e;exact .inr (.inr (.inl ⟨x,i,e,fun om kK=>by rw [g7 m om kK] at qV;exact wW.1 qV⟩))
    ·cases qV
 exact ap9 iH hs f0 vp fK wx ve vI sO uE acE hd hq
def awK (ops:Array Oper) (m j:Nat):Bool :=
 (ops.getD j default).guard.isNone && (match (ops.getD j default).op with | .makeSlice ..=>false | .buildSlice ..=>false | .box ..=>false | .alloc ..=>false | _=>true) &&
 (match (ops.getD j default).dst with | some d=>!((ops.getD m default).looksAt ops).contains d | none=>false)
def ak3 (ops:Array Oper) (m:Nat) (fr:List Nat):Bool :=
 decide (m<ops.size) &&
 (cW ops.size).all (fun i=>(jN (ops.getD i default)).all (·<i) &&
  (if m<=i then(cW i).all (fun j=>((bef ops.toList []).getD i 0).testBit j || (i==m && fr.contains j)) else !wB (ops.getD i default).op)) &&
 ((cW m).all fun i=>(cW m).all fun j=>i==j || aaG ops (bef ops.toList []) i j) &&
 ((ops.getD m default).guard.isNone && (ops.getD m default).dst.isNone && (match (ops.getD m default).op with | .store ..=>true | _=>false)) &&
 (fr.all fun j=>decide (j<m) && awK ops m j)
theorem aAX {o:Oper} {L L':St} {b:Nat} {x:bh} (ht:wB o.op=false) (hL:L.heap b=none) (hL':L'.heap b=none) (h:Step P true ops o L L'):Step P true ops o (L.bO b (some x)) (L'.bO b (some x)):=by
 have mS:∀ (d:Option Tmp) (r:LV),(L.put d r).bO b (some x)=(L.bO b (some x)).put d r:=fun d r=>by cases d<;>rfl
 have hG:∀ res,dY ops L o res->dY ops (L.bO b (some x)) o res:=fun res h=>h
 cases h with
 | skip hg h=>exact .skip (hG _ hg) (by rw [h,mS])
 | @val r fr H1 hg hle dO ho h =>
  have uI:H1 b=none:=by rw [h] at hL';exact hL'
  have aIb:∀ {A B:bW},A.le B->A b=none->bW.le (fun c=>if c=b then some x else A c) (fun c=>if c=b then some x else B c):=fun {A B} cL hA c blk hc=>by
   change (if c=b then some x else A c)=some blk at hc
   show ∃ m,(if c=b then some x else B c)=_/\_
   by_cases e:c=b
   ·rw [if_pos e] at hc ⊢
    cases hc
    exact⟨x.mt,rfl,fun h=>h,fun h1 h2=>by rw [h1] at h2;cases h2⟩
   ·rw [if_neg e] at hc ⊢
    exact cL c blk hc
  have ala:H1.le (fun c=>if c=b then some x else H1 c):=fun c blk hc=>by
   have e:c≠b:=fun e=>by subst e;rw [uI] at hc;cases hc
   exact⟨blk.mt,by show (if c=b then _ else _)=_;rw [if_neg e];exact hc,fun h=>h,fun h1 h2=>by rw [h1] at h2;cases h2⟩
  refine .val (r:=r) (fr:=fr) (H1:=fun c=>if c=b then some x else H1 c) (hG _ hg) (aIb hle hL) (fun c blk hc=>?_) (ho.le ala) (by rw [h];cases o.dst<;>rfl)
  obtain⟨q1,mm,q2,q3⟩:=dO c blk hc
  have e:c≠b:=fun e=>by subst e;rw [uI] at q2;cases q2
  exact⟨by show (if c=b then _ else _)=_;rw [if_neg e];exact q1,mm,by show (if c=b then _ else _)=_;rw [if_neg e];exact q2,q3⟩
 | st hg ho =>
  obtain⟨dst,op,ty,pos,after,g⟩:=o
  rw [ho.tail] at ht;cases ht
 | stM gX _ _=>cases gX
theorem aHd {m id b:Nat} {fr:List Nat} {x0:bh} {K:St->Prop} {Q:Exit->Act->World->Prop} {L:St} (iH:P.follows .mixedOrders=true) (fq:ak3 ops m fr=true) (hs:fV n W X Z0 L a w) (hb:L.heap b=some x0)
  (hL:opsL P true ops (ops.toList.take m) (L.bO b none) (fun Lm=>Lm.heap b=none/\(fr.all fun j=>match (ops.getD j default).dst with | some d=>(Lm.heap (ef d 1)).isNone | none=>true)=true /\
   (∀ om,ops[m]?=some om->∃ T p v i o,om.op=.store T p v/\Lm.ev p=.aB b x0.sz i o)/\opsL P true ops (ops.toList.drop m) (Lm.bO b (some x0)) K))
  (hd:∀ o∈ops.toList,∀ t,o.dst=some t->t<n) (hq:∀ L' a' w',K L'->fV n W X Z0 L' a' w'->Q .normal a' w') :
  (Code.region id ops true).wp P Q a w:=by
 obtain⟨g,g0,gs,gK,gN,gP,gT⟩:=aaO _ _ hL
 unfold ak3 at fq
 simp only [jq,decide_eq_true_eq,oR,pI] at fq
 obtain⟨⟨⟨⟨wx,h1⟩,h2⟩,dC⟩,h3⟩:=fq
 have g7:∀ i o,ops[i]?=some o->ops.getD i default=o:=fun i o h=>by rw [dB,h];rfl
 have nQ:∀ i o,ops[i]?=some o->i<ops.size:=fun i o h=>(mN.1 h).1
 have hlen:(ops.toList.take m).length=m:=by rw [eG,nC];omega
 rw [hlen] at gK gN gP gT
 obtain⟨e,e0,es,eK⟩:=aaO _ _ gT
 have gs':∀ i o,ops[i]?=some o->i<m->Step P true ops o (g i) (g (i+1)):=fun i o h hi=>gs i o (by rw [List.getElem?_take,if_pos hi];simpa using h)
 have sO:∀ i o,ops[i]?=some o->i<m->wB o.op=false:=fun i o h xT=>by
  have:=(h1 i (nQ i o h)).2
  rw [if_neg ae,g7 i o h] at this
  simpa using this
 have xm:∀ i,i<ops.size->∃ o,ops[i]?=some o:=fun i h=>⟨_,oL h⟩
 have gle:∀ i j,i<=j->j<=m->(g i).heap.le (g j).heap:=by
  intro i j rM
  induction j with
  | zero =>
   intro _
   have:i=0:=by omega
   subst this;exact bW.le_refl _
  | succ j ih =>
   intro l6
   by_cases q:i=j+1
   ·subst q;exact bW.le_refl _
   ·obtain⟨o,ho⟩:=xm j ae
    exact bW.le_trans (ih ae ae) (anT (sO j o ho ae) (gs' j o ho ae)).1
 have gb:∀ i,i<=m->(g i).heap b=none:=fun i hi=>by
  cases hq:(g i).heap b with
  | none=>rfl
  | some blk =>
   obtain⟨mm,q,_⟩:=gle i m hi (bp _) b blk hq
   rw [gK] at q;cases q
 let f:Nat->St:=fun i=>if i<=m then(g i).bO b (some x0) else e (i-m)
 have fm:∀ i,i<=m->f i=(g i).bO b (some x0):=fun i hi=>if_pos hi
 have ft:∀ i,m<=i->f i=e (i-m):=fun i hi=>by
  show (if i<=m then _ else _)=_
  by_cases q:i<=m
  ·have:i=m:=by omega
   subst this
   rw [if_pos q,pB,e0]
  ·rw [if_neg q]
 have f0:f 0=L:=by
  rw [fm 0 (b8 _),g0]
  obtain⟨sl,hp⟩:=L
  show (⟨sl,fun c=>if c=b then some x0 else(if c=b then none else hp c)⟩:St)=⟨sl,hp⟩
  congr 1
  funext c
  split
  ·rename_i q;subst q;exact hb.symm
  ·rfl
 have vp:∀ i o,ops[i]?=some o->Step P true ops o (f i) (f (i+1)):=fun i o ho=>by
  by_cases iR:i<m
  ·rw [fm i ae,fm (i+1) ae]
   exact aAX (sO i o ho iR) (gb i ae) (gb (i+1) ae) (gs' i o ho iR)
  ·rw [ft i ae,ft (i+1) ae,show i+1-m=i-m+1 by omega]
   refine es (i-m) o ?_
   rw [List.getElem?_drop,show m+(i-m)=i by omega]
   simpa using ho
 have fK:K (f ops.size):=by
  rw [ft _ ae]
  rw [kE,nC] at eK
  exact eK
 have ve:∀ i o,ops[i]?=some o->∀ j∈jN o,j<i:=fun i o h j hj=>by
  have:=(h1 i (nQ i o h)).1 j (by rw [g7 i o h];exact hj)
  simpa using this
 have o7:=ad1 ops ops.toList [] (fun i=>by simp) (fun i t h=>by simp at h)
 have vI:∀ i o,ops[i]?=some o->m<=i->∀ j,j<i->nu ops j i\/(i=m/\j∈fr):=fun i o h xT j hj=>by
  have:=(h1 i (nQ i o h)).2
  rw [if_pos xT] at this
  have:=(oR.1 this) j (by simpa using hj)
  simp only [ob,jq,beq_iff_eq,oX] at this
  rcases this with g | g
  ·exact .inl (o7 i j (by simpa using g))
  ·exact .inr g
 have uE:∀ i j oi oj d,ops[i]?=some oi->ops[j]?=some oj->i<m->j<m->i≠j->oj.dst=some d->oi.dst≠some d/\(d∈oi.looksAt ops->if j<i then nu ops j i else nu ops i j):=by
  intro i j oi oj d hi hj iR l6 aX oJ
  have:=h2 i iR j l6
  simp only [ob,beq_iff_eq] at this
  rcases this with h | h
  ·exact absurd h aX
  ·unfold aaG at h
   rw [g7 j oj hj,g7 i oi hi,oJ] at h
   simp only [jq,bne_iff_ne,ne_eq,ob,wY] at h
   refine⟨h.1,fun se=>?_⟩
   rcases h.2 with h' | h'
   ·rw [oX.2 se] at h';cases h'
   ·split
    ·rename_i bM;rw [if_pos bM] at h';exact o7 i j h'
    ·rename_i bM;rw [if_neg bM] at h';exact o7 j i h'
 have amC:∀ om,ops[m]?=some om->om.guard=none/\om.dst=none/\∃ T p x,om.op=.store T p x:=fun om kK=>by
  rw [g7 m om kK] at dC
  refine⟨wW.1 dC.1.1,wW.1 dC.1.2,?_⟩
  have:=dC.2
  split at this
  ·rename_i T p x q;exact⟨T,p,x,q⟩
  ·cases this
 have hHm:(g m).heap.le (f (m+1)).heap:=by
  obtain⟨om,kK⟩:=xm m wx
  obtain⟨q1,q2,_⟩:=amC om kK
  obtain⟨T,p,v,ii,oo,q3,q4⟩:=gP om kK
  have ku:=vp m om kK
  rw [fm m (bp _)] at ku
  obtain⟨dst,op,ty,pos,after,gd⟩:=om
  simp only at q1 q2 q3
  subst q1 q2 q3
  intro c blk hc
  have nD:c≠b:=fun q=>by subst q;rw [gK] at hc;cases hc
  cases ku with
  | skip hg h=>cases hg
  | val hg hle dO mQ h =>
   cases mQ with
   | pure h=>cases h
   | alloc h=>cases h
   | call h=>cases h
  | st hg rn =>
   generalize hfe:f (m+1)=F at rn ⊢
   cases rn with
   | store hp hb1 oa hm hi hy mS hT aX =>
    have e1:(LV.aB _ _ _ _)=LV.aB b x0.sz ii oo:=hp.symm.trans q4
    cases e1
    exact⟨blk.mt,by
     show (if c=b then _ else if c=b then _ else(g m).heap c)=_
     rw [if_neg nD,if_neg nD];exact hc,fun h=>h,fun h1 h2=>by rw [h1] at h2;cases h2⟩
  | stM gX _ _=>cases gX
 refine ap9 iH hs f0 vp fK ae ve vI sO uE ?_ hd hq
 intro j o ho hj
 have hj3:=h3 j hj
 obtain⟨l6,hf⟩:=hj3
 unfold awK at hf
 rw [g7 j o ho] at hf
 simp only [jq,wW] at hf
 obtain⟨⟨hf1,qV⟩,uV⟩:=hf
 refine⟨l6,wx,fun om kK=>?_,hf1,.inr (.inr (.inr ⟨fun om kK=>(amC om kK).2.1,?_⟩))⟩
 ·obtain⟨q1,q2,q3⟩:=amC om kK
  refine⟨q1,.inl ⟨q2,q3⟩,fun d qC=>⟨fun se=>?_,fun q=>by rw [q2] at q;cases q⟩,fun d qC=>by rw [q2] at qC;cases qC⟩
  rw [qC,g7 m om kK] at uV
  simp only [oX.2 se] at uV
  cases uV
 ·have hsj:=gs' j o ho l6
  have gG:∀ y,(f j).ev y=(g j).ev y:=fun y=>by rw [fm j ae];rfl
  have kA:∀ t,(f (j+1)).slot t=(g (j+1)).slot t:=fun t=>by rw [fm (j+1) ae];rfl
  cases hsj with
  | skip hg h=>unfold dY at hg;rw [hf1] at hg;cases hg
  | @val r fr' H1 hg hle dO mQ h =>
   have uI:H1=(g (j+1)).heap:=by rw [h]
   have ado:H1.le (f (m+1)).heap:=by rw [uI];exact bW.le_trans (gle (j+1) m ae (bp _)) hHm
   have pZ:∀ t,o.dst=some t->(f (j+1)).slot t=r:=fun t ht=>by rw [kA,h];simp only [ht];exact(g8 _ _ _ _).trans (if_pos rfl)
   refine⟨r,?_,pZ⟩
   have aIl:(f j).ev=(g j).ev:=funext gG
   rw [aIl]
   have acY:=mQ.le ado
   obtain⟨dst,op,ty,pos,after,gd⟩:=o
   simp only at qV acY mQ dO
   cases acY with
   | pure h=>exact .pure h
   | alloc h=>cases h<;>cases qV
   | @call bs h =>
    cases bs with
    | nil=>exact .call h
    | cons x bs =>
     exfalso
     obtain⟨_,mm,q2,_⟩:=dO (ef (dst.getD 0) 1) x aT
     have lb:=oR.1 gN j hj
     rw [g7 j _ ho] at lb
     simp only at lb
     rw [uI] at q2
     obtain⟨_,q4,_⟩:=gle (j+1) m ae (bp _) _ _ q2
     cases dst with
     | none=>simp at uV
     | some d =>
      simp only [zU] at q4
      change ((g m).heap (ef d 1)).isNone=true at lb
      rw [q4] at lb;cases lb
  | st hg ho2 =>
   have:=sO j o ho l6
   obtain⟨dst,op,ty,pos,after,gd⟩:=o
   rw [ho2.tail] at this;cases this
  | stM gX _ _=>cases gX
def jl (P:Program) (ops:Array Oper):Nat->Array Bool->St->(St->Prop)->Prop
 | 0,D,L,K=>Region.ready .any ops D=[]/\K L
 | fuel+1,D,L,K=>(Region.ready .any ops D=[]->K L)/\∀ i∈Region.ready .any ops D,∃ o L',ops[i]?=some o/\Step P false ops o L L'/\jl P ops fuel (D.setIfInBounds i true) L' K
theorem aor {K K':St->Prop} (hk:∀ L,K L->K' L):∀ (fuel:Nat) (D:Array Bool) (L:St),jl P ops fuel D L K->jl P ops fuel D L K'
 | 0,D,L,h=>⟨h.1,hk L h.2⟩
 | fuel+1,D,L,h=>⟨fun e=>hk L (h.1 e),fun i hi=>by obtain⟨o,L',h1,h2,h3⟩:=h.2 i hi;exact⟨o,L',h1,h2,aor hk fuel _ L' h3⟩⟩
theorem fV.drew {L:St} {w':World} (hs:fV n W X Z0 L a w) (hh:w'.heap=w.heap) (h1:w'.os=w.os) (h2:w'.tape=w.tape) (h3:w'.output=w.output):fV n W X Z0 L a w':=by
 obtain⟨ec,bJ,μ,Z,hc,hr⟩:=hs
 have dO:Frame Z μ w w':=⟨fun _ _=>by rw [hh],fun _ id _ c _ _ h=>⟨c,by rw [hh];exact h,rfl⟩⟩
 refine⟨ec,bJ,μ,Z,⟨⟨h1.trans hc.cC.os,h2.trans hc.cC.tape,h3.trans hc.cC.output,by rw [hh];exact hc.cC.size,by rw [hh];exact hc.cC.block,by rw [hh];exact hc.cC.vx⟩,by rw [hh];exact hc.lI,hc.jG,hc.lK,
  hc.inj,hc.own,hc.x0,hc.ov,hc.x1,hc.jx,hc.b9,fun b id hb=>?_⟩,fun t=>(hr t).mono (fun _ h=>h) (fun _ _ h=>h) dO⟩
 obtain⟨blk,g1,g2⟩:=hc.heap b id hb
 exact⟨blk,g1,g2.mono (fun _ h=>h) (fun _ _ h=>h) dO (by rw [hh])⟩
theorem aoU {K:St->Prop} {Q:Exit->Act->World->Prop} (hd:∀ o∈ops.toList,∀ t,o.dst=some t->t<n) (hq:∀ L' a' w',K L'->fV n W X Z0 L' a' w'->Q .normal a' w') :
  ∀ (fuel:Nat) (D:Array Bool) (L:St) (a:Act) (w:World),fV n W X Z0 L a w->jl P ops fuel D L K->wpAny P .any ops Q fuel D a w
 | 0,D,L,a,w,hs,h=>⟨h.1,hq L a w h.2 hs⟩
 | fuel+1,D,L,a,w,hs,h=>by
   refine⟨fun e=>hq L a w (h.1 e) hs,fun i hi=>?_⟩
   obtain⟨o,L',h1,h2,h3⟩:=h.2 i hi
   unfold wpOp
   rw [h1]
   simp only
   have:=acG (Q:=Q) (K:=wpAny P .any ops Q fuel (D.setIfInBounds i true)) hs h2 (hd o (by rw [afH];exact axc h1)) (fun a' w' l8=>aoU hd hq fuel _ L' a' w' l8 h3)
   split
   ·rename_i hw;rw [if_pos hw] at this;exact .inl this
   ·rename_i hw;rw [if_neg hw] at this;exact this
theorem aCN {id:Nat} {K:St->Prop} {Q:Exit->Act->World->Prop} {L:St} (iH:P.follows .mixedOrders=true) (hs:fV n W X Z0 L a w)
  (hL:jl P ops ops.size (qT ops.size false) L K) (hd:∀ o∈ops.toList,∀ t,o.dst=some t->t<n) (hq:∀ L' a' w',K L'->fV n W X Z0 L' a' w'->Q .normal a' w') :
  (Code.region id ops true).wp P Q a w :=
 wp_region_any iH (aoU hd hq _ _ L a _ (hs.drew rfl rfl rfl rfl) hL)
end
section
variable {P:Program} {ops:Array Oper}
theorem uS {D:Array Bool} {i:Nat} (h:i<D.size) (a b:Bool):D.getD i a=D.getD i b:=by
 rw [dB,dB,oL h];rfl
end
end Go.Lg
namespace Go.Lg
inductive jW where
 | normal
 | exit (id:Nat)
 | ret
def px (K:St->Prop) (Q:jW->St->Prop):jW->St->Prop
 | .normal,L=>K L
 | e,L=>Q e L
def ss (id:Nat) (Q:jW->St->Prop):jW->St->Prop
 | .exit i,L=>if i=id then Q .normal L else Q (.exit i) L
 | e,L=>Q e L
def lf (n:Nat):Code->Bool
 | .region _ ops _=>ops.toList.all fun o=>match o.dst with | some t=>decide (t<n) | none=>true
 | .seq x y=>lf n x && lf n y
 | .cond _ x y=>lf n x && lf n y
 | .block _ c=>lf n c
 | .loop c=>lf n c
 | _=>true
def acH (n:Nat) (W:World) (X:XS) (Z0:Nat->Prop) (Q:jW->St->Prop):Exit->Act->World->Prop
 | .normal,a,w=>∃ L,Q .normal L/\fV n W X Z0 L a w
 | .exit id,a,w=>∃ L,Q (.exit id) L/\fV n W X Z0 L a w
 | .ret,a,w=>∃ L,Q .ret L/\fV n W X Z0 L a w
 | _,_,_=>False
def cP (P:Program):Code->(jW->St->Prop)->St->Prop
 | .skip,Q,L=>Q .normal L
 | .region _ ops d,Q,L=>∃ L0,az L L0/\(((d=true->∃ m fr,yT ops m fr=true)/\opsL P d ops ops.toList L0 (Q .normal))\/(d=true/\jl P ops ops.size (qT ops.size false) L0 (Q .normal)) \/
   ∀ n W X Z0 a w,fV n W X Z0 L0 a w->lf n (.region 0 ops d)=true->∀ id,(Code.region id ops d).wp P (acH n W X Z0 Q) a w)
 | .seq x y,Q,L=>cP P x (px (cP P y Q) Q) L
 | .cond c x y,Q,L=>∃ t,L.ev c=.v (.bool t)/\(t=true->cP P x Q L)/\(t=false->cP P y Q L)
 | .block id c,Q,L=>cP P c (ss id Q) L
 | .loop c,Q,L=>∀ I:St->Prop,(∀ L,cP P c (px (fun L'=>∃ L'',az L' L''/\I L'') Q) L->I L)->∃ L0,az L L0/\I L0
 | .exit id,Q,L=>Q (.exit id) L
 | .ret,Q,L=>Q .ret L
 | _,_,_=>False
section
variable {P:Program} {W w w':World} {X:XS} {Z0 Z:Nat->Prop} {μ:Nat->Option Nat} {H:bW} {a:Act} {L L':St} {n:Nat}
def ahm (P:Program) (c:Code) (Q:Exit->Act->World->Prop) (a:Act) (w:World):Prop :=
 ∀ b k cs,∃ e a' w',Q e a' w'/\Arrives P (lone (b.at a (.code c :: .inLoop c :: k)) cs w) b k cs e a' w'
theorem aA8 {c:Code} {Q:Exit->Act->World->Prop} {a:Act} {w:World} (h:c.wp P (Exit.then (ahm P c Q) Q) a w):ahm P c Q a w:=by
 intro b k cs
 obtain⟨e,aev,aet,hq,abk⟩:=h b (.inLoop c :: k) cs
 cases e with
 | normal =>
  obtain⟨aIJ,aJb,aGX,aDE,aII⟩:=hq b k cs
  exact⟨aIJ,aJb,aGX,aDE,.of_steps (Steps.trans abk (.one step_inLoop)) aII⟩
 | exit id=>exact⟨_,aev,aet,hq,.pass (x:=.inLoop c) rfl (fun _ _=>.inl aT) abk⟩
 | goto l=>exact⟨_,aev,aet,hq,.pass (x:=.inLoop c) rfl (fun _ _=>.inl aT) abk⟩
 | ret=>exact⟨_,aev,aet,hq,.pass (x:=.inLoop c) rfl (fun _ _=>.inl aT) abk⟩
 | panic ch=>exact⟨_,aev,aet,hq,.pass (x:=.inLoop c) rfl (fun _ _=>.inl aT) abk⟩
 | outgrown=>exact⟨_,aev,aet,hq,.pass (x:=.inLoop c) rfl (fun _ _=>.inl aT) abk⟩
theorem aG1 {c:Code} {Q:Exit->Act->World->Prop} {a:Act} {w:World} (h:ahm P c Q a w):(Code.loop c).wp P Q a w:=by
 intro b k cs
 obtain⟨e,a',w',hq,abk⟩:=h b k cs
 exact⟨e,a',w',hq,.of_steps (.one step_loop) abk⟩
theorem aah (iH:P.follows .mixedOrders=true):∀ (c:Code) (Q:jW->St->Prop) (L:St) (a:Act) (w:World),fV n W X Z0 L a w->cP P c Q L->lf n c=true ->
  c.wp P (acH n W X Z0 Q) a w
 | .skip,Q,L,a,w,hs,h,_=>wp_skip ⟨L,h,hs⟩
 | .region id ops d,Q,L,a,w,hs,h,hd=>by
   obtain⟨L0,hw,hdL⟩:=h
   have iE:∀ o∈ops.toList,∀ t,o.dst=some t->t<n:=fun o ho t ht=>by
    simp only [lf,oR] at hd
    have:=hd o ho
    rw [ht] at this
    simpa using this
   rcases hdL with⟨gX,hL⟩ | ⟨rfl,hL⟩ | hL
   case inr.inr=>exact hL _ _ _ _ _ _ (hw _ _ _ _ _ _ hs) hd id
   case inr.inl=>exact aCN iH (hw _ _ _ _ _ _ hs) hL iE (fun L' a' w' hk l8=>⟨L',hk,l8⟩)
   cases d with
   | true =>
    obtain⟨m,_,hm⟩:=gX rfl
    exact aCM iH hm (hw _ _ _ _ _ _ hs) hL iE (fun L' a' w' hk l8=>⟨L',hk,l8⟩)
   | false=>exact wp_region_list (as1 _ _ _ _ (hw _ _ _ _ _ _ hs) hL iE (fun L' a' w' hk l8=>⟨L',hk,l8⟩))
 | .seq x y,Q,L,a,w,hs,h,hd=>by
   simp only [lf,jq] at hd
   refine wp_seq (wp_mono (aah iH x _ L a w hs h hd.1) fun e a' w' q=>?_)
   cases e with
   | normal=>obtain⟨L',q1,q2⟩:=q;exact aah iH y Q L' a' w' q2 q1 hd.2
   | exit id=>exact q
   | ret=>exact q
   | _=>exact q.elim
 | .cond c x y,Q,L,a,w,hs,h,hd=>by
   simp only [lf,jq] at hd
   obtain⟨t,h1,h2,h3⟩:=h
   have hc:a.eval c=.bool t:=by
    obtain⟨_,_,μ,Z,hc,hr⟩:=hs
    have:=lF (L:=L) hr c
    rw [h1] at this
    exact this.eu
   exact wp_cond_split hc (fun e=>aah iH x Q L a w hs (h2 e) hd.1) (fun e=>aah iH y Q L a w hs (h3 e) hd.2)
 | .block id c,Q,L,a,w,hs,h,hd=>by
   refine wp_block (wp_mono (aah iH c _ L a w hs h hd) fun e a' w' q=>?_)
   cases e with
   | normal=>exact q
   | exit i =>
    obtain⟨L',q1,q2⟩:=q
    simp only [ss] at q1
    simp only [Exit.inBlock]
    split
    ·rename_i e;rw [if_pos e] at q1;exact⟨L',q1,q2⟩
    ·rename_i e;rw [if_neg e] at q1;exact⟨L',q1,q2⟩
   | ret=>exact q
   | _=>exact q.elim
 | .loop c,Q,L,a,w,hs,h,hd=>by
   obtain⟨L0,hw,h0⟩:=h (fun L=>∀ a w,fV n W X Z0 L a w->ahm P c (acH n W X Z0 Q) a w) (fun L hL a w hs=>by
    refine aA8 (wp_mono (aah iH c _ L a w hs hL hd) fun e a' w' q=>?_)
    cases e with
    | normal =>
     obtain⟨L',⟨L'',k1,k2⟩,k4⟩:=q
     exact k2 _ _ (k1 _ _ _ _ _ _ k4)
    | exit id=>exact q
    | ret=>exact q
    | _=>exact q.elim)
   exact aG1 (h0 a w (hw _ _ _ _ _ _ hs))
 | .exit id,Q,L,a,w,hs,h,_=>wp_exit ⟨L,h,hs⟩
 | .ret,Q,L,a,w,hs,h,_=>wp_ret ⟨L,h,hs⟩
 | .rangeFunc ..,_,_,_,_,_,h,_=>h.elim
 | .scope _,_,_,_,_,_,h,_=>h.elim
 | .label _,_,_,_,_,_,h,_=>h.elim
 | .goto _,_,_,_,_,_,h,_=>h.elim
 | .refuse _,_,_,_,_,_,h,_=>h.elim
end
def an0 (P:Program) (L:St):ResultVar->LV->Prop
 | .tmp t,x=>L.slot t=x
 | .cell a T,x=>∃ b sz i o blk y n ag,L.slot a=.aB b sz i o/\L.heap b=some blk/\blk.sz=sz/\blk.vals[i]?=some y/\y.aw=sz/\y.at o n ag=some x/\bC P T n ag
inductive zh (P:Program) (L:St):List ResultVar->List LV->Prop
 | nil:zh P L [] []
 | cons {v x vs xs} (h:an0 P L v x) (t:zh P L vs xs):zh P L (v :: vs) (x :: xs)
inductive zY (H:bW) (own:List Nat):LV->LV->Prop
 | cE {x y} (h:cV H x y):zY H own x y
 | ref {b sz off len k} (hk:own[k]?=some b):zY H own (.ref b sz off len) (.ref (k+1) sz off len)
 | ptr {b sz i o k} (hk:own[k]?=some b):zY H own (.aB b sz i o) (.aB (k+1) sz i o)
 | net {x y x' y' b sz off len k} (h1:cV H x x') (h2:cV H y y') (hk:own[k]?=some b):zY H own (.agg [x,y,.ref b sz off len]) (.agg [x',y',.ref (k+1) sz off len])
inductive aeU (H:bW) (own:List Nat):List LV->List LV->Prop
 | nil:aeU H own [] []
 | cons {x y xs ys} (h:zY H own x y) (t:aeU H own xs ys):aeU H own (x :: xs) (y :: ys)
def ag7:List LV->LV
 | [y]=>y
 | ys=>.bf ys
def pn (P:Program) (rs:List ResultVar) (L:St) (r:LV) (bs:List bh):Prop :=
 ∃ (xs ys:List LV) (H1:bW) (own:List Nat),zh P L rs xs/\L.heap.le H1/\aeU H1 own xs ys/\own.Nodup/\own.length=bs.length /\
  (∀ (k b:Nat),own[k]?=some b->∃ blk:bh,H1 b=some blk/\bs[k]?=some blk/\aN blk.vals=true)/\r=ag7 ys
def zF (args:List LV):St:=⟨fun t=>args.getD t .any,fun _=>none⟩
section
variable {P:Program} {W w w':World} {X:XS} {Z0 Z:Nat->Prop} {μ:Nat->Option Nat} {H:bW} {a:Act} {L L':St} {n:Nat}
def zQ (tmps:Array Value) (v:ResultVar):Sem Value :=
 match v with
 | .tmp t=>pure (tmps.getD t undef)
 | .cell p T=>do loadVar T (<-asAddr (tmps.getD p undef))
theorem akr (fn:Func) (tmps:Array Value):results fn tmps=(do let vs <-fn.results.mapM (zQ tmps);pure (if h:vs.size=1 then vs[0] else .tuple vs)):=by
 rfl
theorem alI {v:ResultVar} {x:LV} (hc:Core W X Z0 μ Z L.heap w) (hr:∀ t,bj Z μ w (L.slot t) (a.tmps.getD t undef)) (h:an0 P L v x) (hx:x≠.any/\∀ l,x≠.bf l) :
  ∃ u,(zQ a.tmps v).run P w=.ok u w/\fM Z μ w x u:=by
 cases v with
 | tmp t =>
  simp only [an0] at h
  have:=hr t
  rw [h] at this
  exact⟨_,rfl,bj.yU hx.2 hx.1 this⟩
 | cell p T =>
  obtain⟨b,sz,i,o,blk,y,m,ag,h1,h2,h3,h4,h5,h6,h7⟩:=h
  have e1:=hr p
  rw [h1] at e1
  have hl:aE P L.heap L.ev (.load T (.tmp p)) x:=.fU (b:=b) (sz:=sz) h1 h2 h3 h4 h5 h6 h7
  obtain⟨u,r1,r2⟩:=hl.sound (a:=a) (fun y hy=>lF (L:=L) hr y) hc.heap none 0 "" #[] none
  have e2:=e1.2 rfl
  simp only [aC] at e2
  obtain⟨id,q1,q2⟩:=e2
  simp only [fJ,and_true] at q1
  have gG:a.eval (.tmp p)=a.tmps.getD p undef:=rfl
  refine⟨u,?_,bj.yU hx.2 hx.1 r2⟩
  simp only [execOp,gG,q1,Instr.loadAt,Instr.sureAddr,Sem.run_bind,Sem.run_pure,Result.andThen_ok] at r1
  simp only [zQ,q1,asAddr,Sem.run_bind,Sem.run_pure,Result.andThen_ok]
  cases hq:(loadVar T ⟨id,i*sz+o,none⟩).run P w with
  | ok v' w'' =>
   rw [hq] at r1
   simp only [Result.andThen_ok,Result.ok.injEq,Next.value.injEq] at r1
   rw [r1.1,r1.2]
  | halt x' w''=>rw [hq] at r1;simp at r1
theorem zY.ne {own:List Nat} {x y:LV} (h:zY H own x y):x≠.any/\∀ l,x≠.bf l:=by
 cases h with
 | cE h=>exact h.ne
 | ref _=>exact⟨by simp,by simp⟩
 | ptr _=>exact⟨by simp,by simp⟩
 | net _ _ _=>exact⟨by simp,by simp⟩
def zP (μ:Nat->Option Nat) (own:List Nat):Nat->Option Nat:=fun k=>if k=0 then none else(own[k-1]?).bind μ
theorem zY.sound {own:List Nat} {x y:LV} {u:Value} (hc:Core W X Z0 μ Z H w) (h:zY H own x y) (hu:fM Z μ w x u):fM Z (zP μ own) w y u:=by
 cases h with
 | cE h=>exact cV.abE hc h (bj.sN h.ne.2 hu)
 | @ref b sz off len k hk =>
  have:=hu.2 rfl
  refine⟨by simp [LV.isAgg],fun _=>?_⟩
  simp only [aC] at this ⊢
  rcases this with h | ⟨id,cap,c,T,fz,h1,h2,h3⟩
  ·exact qj
  exact .inr ⟨id,cap,c,T,fz,h1,by simp [zP,hk,h2],h3⟩
 | @ptr b sz i o k hk =>
  have:=hu.2 rfl
  refine⟨by simp [LV.isAgg],fun _=>?_⟩
  simp only [aC] at this ⊢
  obtain⟨id,h1,h2⟩:=this
  exact⟨id,h1,by simp [zP,hk,h2]⟩
 | @net x y x' y' b sz off len k hx hy hk =>
  obtain⟨cs,rfl,hr⟩:=hu.1 rfl
  refine⟨fun _=>⟨cs,rfl,?_⟩,by simp [LV.isAgg]⟩
  simp only [aC,cA] at hr ⊢
  obtain⟨c1,d1,e1,l1,r1,c2,d2,e2,l2,r2,c3,d3,e3,l3,r3,r4⟩:=hr
  refine⟨c1,d1,e1,by rw [l1,hx.lay.2.1],cV.sound hc hx r1,c2,d2,e2,by rw [l2,hy.lay.2.1],cV.sound hc hy r2,c3,d3,e3,l3,?_,r4⟩
  rcases r3 with h | ⟨id,cap,c,T,fz,h1,h2,h3⟩
  ·exact qj
  exact .inr ⟨id,cap,c,T,fz,h1,by simp [zP,hk,h2],h3⟩
theorem aqk {own:List Nat} (hc:Core W X Z0 μ Z L.heap w) (hr:∀ t,bj Z μ w (L.slot t) (a.tmps.getD t undef)) {Z1:Nat->Prop} {H1:bW} (wm:Core W X Z0 μ Z1 H1 w) (hz:∀ id,Z id->Z1 id) :
  ∀ (rs:List ResultVar) (xs ys:List LV),zh P L rs xs->aeU H1 own xs ys ->
  ∃ us,(rs.mapM (zQ a.tmps)).run P w=.ok us w/\fY Z1 (zP μ own) w ys us
 | _,_,_,.nil,.nil=>⟨[],rfl,rfl⟩
 | _,_,_,.cons (vs:=vs) (xs:=xs) h t,.cons (ys:=ys) h' t'=>by
   obtain⟨u,q1,q2⟩:=alI hc hr h h'.ne
   obtain⟨us,q3,q4⟩:=aqk hc hr wm hz _ _ _ t t'
   refine⟨u :: us,?_,u,us,rfl,h'.sound wm (q2.mono hz (fun _ _ h=>h) ⟨fun _ _=>rfl,(Frame.refl Z μ w).m⟩),q4⟩
   rw [avR,Sem.run_bind,q1]
   simp only [Result.andThen_ok,Sem.run_bind,q3,Sem.run_pure]
theorem ajh:∀ (args:List LV) (vs us:List Value),fY Z μ w args vs->∀ t,bj Z μ w ((zF args).slot t) ((vs++us).toArray.getD t undef)
 | [],_,us,h,t=>by simp only [zF,List.getD_nil];trivial
 | x :: xs,_,us,⟨v,jT,e,h1,h2⟩,t=>by
   subst e
   cases t with
   | zero =>
    have:∀ l,x≠.bf l:=fun l e=>by subst e;have:=h1.2 rfl;simp [aC] at this
    simpa [zF] using bj.sN this h1
   | succ t =>
    have:=ajh xs jT us h2 t
    simpa [zF] using this
theorem abW:∀ (args:List LV) (vs:List Value),fY Z μ w args vs->vs.length=args.length
 | [],_,h=>by cases h;rfl
 | _ :: xs,_,⟨v,jT,e,_,h2⟩=>by subst e;simp [abW xs jT h2]
theorem ayk {f:FuncId} {fn:Func} {c:Code} {args:List LV} {r:LV} {bs:List bh} (iH:P.follows .mixedOrders=true) (hf:P.funcs[f]?=some fn) (hb:fn.body=some c)
  (hn:(fn.name== "runtime.NumGoroutine")=false) (hd:lf fn.ntmps c=true) (hlen:args.length<=fn.ntmps)
  (h:cP P c (fun e L=>match e with | .exit _=>False | _=>pn P fn.results.toList L r bs) (zF args)):o6 P f args r bs:=by
 refine⟨⟨fn,hf,by rw [hb];rfl,hn⟩,fun W Z0 vs hz hargs=>?_⟩
 have r7:=abW _ _ hargs
 refine calls_of_wp hf hb ?_
 have o5:fV fn.ntmps W XS.no Z0 (zF args) ⟨vs.toArray++qT (fn.ntmps-vs.toArray.size) undef,[]⟩ W:=by
  have jb:∀ {p:Prop} (b id:Nat),(fun _:Nat=>(none:Option Nat)) b=some id->p:=fun b id h=>by cases h
  refine⟨rfl,by simp;omega,fun _=>none,Z0,⟨Kept.refl _ _,hz,fun _ h=>h,fun _ h=>.inl h,fun b _ id h _=>jb b id h,fun b id h=>jb b id h,fun b id h _=>jb b id h,fun _ h=>(XS.aeF h).elim,fun _ h=>False.elim h,
   fun b id _ h _ _=>jb b id h,fun b id _ h _ _=>jb b id h,fun b id h=>jb b id h⟩,fun t=>?_⟩
  have e:vs.toArray++qT (fn.ntmps-vs.toArray.size) undef=(vs++ay (fn.ntmps-vs.toArray.size) undef).toArray:=by apply u9;simp
  show bj Z0 (fun _=>none) W ((zF args).slot t) ((vs.toArray++qT (fn.ntmps-vs.toArray.size) undef).getD t undef)
  rw [e]
  exact ajh (Z:=Z0) (μ:=fun _=>none) (w:=W) args vs _ hargs t
 refine wp_mono (aah iH c _ _ _ _ o5 h hd) fun e a w q=>?_
 have main:∀ L,pn P fn.results.toList L r bs->fV fn.ntmps W XS.no Z0 L a w ->
   a.defers=[]/\∃ v,(results fn a.tmps).run P w=.ok v w/\∃ v' μ Z,Ending.returned v=.returned v'/\Core W XS.no Z0 μ Z (pg bs) w/\bj Z μ w r v':=by
  rintro L ⟨xs,ys,H1,own,h1,h2,h3,h4,h5,h6,h7⟩ ⟨ec,bJ,μ,Z,hc,hr⟩
  obtain⟨Z1,k1,k2⟩:=hc.xl h2
  obtain⟨us,q1,q2⟩:=aqk hc hr k1 k2 _ _ _ h1 h3
  have hinv:∀ k id,zP μ own k=some id->∃ b,k≠0/\own[k-1]?=some b/\μ b=some id:=fun k id hk=>by
   unfold zP at hk
   split at hk
   ·cases hk
   ·rename_i h0
    rw [Option.bind_eq_some_iff] at hk
    obtain⟨b,g1,g2⟩:=hk
    exact⟨b,h0,g1,g2⟩
  have amP:∀ k b,k≠0->own[k-1]?=some b->∃ blk,H1 b=some blk/\pg bs k=some blk/\aN blk.vals=true:=fun k b h0 hb=>by
   obtain⟨blk,g1,g2,g3⟩:=h6 _ b hb
   exact⟨blk,g1,by simp [pg,h0,g2],g3⟩
  have ann:Core W XS.no Z0 (zP μ own) Z1 (pg bs) w:=by
   refine⟨k1.cC,k1.lI,k1.jG,k1.lK,?_,?_,fun _ _ _ h=>h.elim,fun _ h=>(XS.aeF h).elim,fun _ h=>h.elim,?_,?_,?_⟩
   ·intro k k' id hk mH
    obtain⟨b,g0,g1,g2⟩:=hinv k id hk
    obtain⟨b',g0',g1',g2'⟩:=hinv k' id mH
    have:=k1.inj b b' id g2 g2'
    subst this
    obtain⟨l1,e1⟩:=oC.1 g1
    obtain⟨l2,e2⟩:=oC.1 g1'
    have hp:=List.pairwise_iff_getElem.1 h4
    rcases Nat.lt_trichotomy (k-1) (k'-1) with h | h | h
    ·exact absurd (e1.trans e2.symm) (hp _ _ l1 l2 h)
    ·omega
    ·exact absurd (e2.trans e1.symm) (hp _ _ l2 l1 h)
   ·intro k id hk
    obtain⟨b,g0,g1,g2⟩:=hinv k id hk
    exact k1.own b id g2
   ·intro k id blk hk hb hm
    obtain⟨b,g0,g1,g2⟩:=hinv k id hk
    obtain⟨blk',j1,j2,_⟩:=amP k b g0 g1
    rw [hb] at j2;cases j2
    exact k1.jx b id blk g2 j1 hm
   ·intro k id blk hk hb hm
    obtain⟨b,g0,g1,g2⟩:=hinv k id hk
    obtain⟨blk',j1,j2,_⟩:=amP k b g0 g1
    rw [hb] at j2;cases j2
    exact k1.b9 b id blk g2 j1 hm
   ·intro k id hk
    obtain⟨b,g0,g1,g2⟩:=hinv k id hk
    obtain⟨blk',j1,j2,j3⟩:=amP k b g0 g1
    obtain⟨bk,l1,cc,T,part,rest,l2,l3,l4⟩:=k1.heap b id g2
    rw [j1] at l1;cases l1
    exact⟨_,j2,cc,T,part,rest,l2,l3,aR.kv (fun _ h=>h) (fun _ _=>rfl) _ _ _ j3 l4⟩
  have pZ:(fn.results.mapM (zQ a.tmps)).run P w=.ok us.toArray w:=by
   rw [awu,Sem.run_map,q1];rfl
  refine⟨ec,(if h:us.toArray.size=1 then us.toArray[0] else .tuple us.toArray),?_,_,zP μ own,Z1,rfl,ann,?_⟩
  ·rw [akr,Sem.run_bind,pZ]
   rfl
  ·subst h7
   have zx:=abW _ _ q2
   match ys,us,q2,zx with
   | [y],[u],q2,_ =>
    obtain⟨v,jT,e,g1,g2⟩:=q2
    simp only [fJ] at e
    obtain⟨rfl,_⟩:=e
    have hnt:∀ l,y≠.bf l:=fun l e=>by subst e;have:=g1.2 rfl;simp [aC] at this
    exact bj.sN hnt g1
   | [],[],q2,_=>exact⟨_,rfl,by simpa using q2⟩
   | y :: y' :: ys,u :: u' :: us,q2,_ =>
    refine⟨(u :: u' :: us).toArray,by simp,by simpa using q2⟩
 cases e with
 | normal=>obtain⟨L,q1,q2⟩:=q;exact main L q1 q2
 | ret=>obtain⟨L,q1,q2⟩:=q;exact main L q1 q2
 | exit id=>obtain⟨L,q1,q2⟩:=q;exact q1.elim
 | _=>exact q.elim
def StM (args:List LV) (blk:bh):St:=⟨fun t=>args.getD t .any,fun n=>if n=0 then some blk else none⟩
def yQ (P:Program) (rs:List ResultVar) (L:St) (r:LV) (blk':bh):Prop :=
 ∃ (xs ys:List LV) (H1:bW),zh P L rs xs/\L.heap.le H1/\xq H1 0 xs ys/\H1 0=some blk'/\blk'.mt=true/\aN blk'.vals=true/\r=ag7 ys
theorem asa {i0:Nat} (hc:Core W X Z0 μ Z L.heap w) (hr:∀ t,bj Z μ w (L.slot t) (a.tmps.getD t undef)) {Z1:Nat->Prop} {H1:bW} (wm:Core W X Z0 μ Z1 H1 w) (hz:∀ id,Z id->Z1 id) (h0:μ 0=some i0) :
  ∀ (rs:List ResultVar) (xs ys:List LV),zh P L rs xs->xq H1 0 xs ys ->
  ∃ us,(rs.mapM (zQ a.tmps)).run P w=.ok us w/\fY Z1 (vO i0) w ys us
 | _,_,_,.nil,.nil=>⟨[],rfl,rfl⟩
 | _,_,_,.cons (vs:=vs) (xs:=xs) h t,.cons (ys:=ys) h' t'=>by
   obtain⟨u,q1,q2⟩:=alI hc hr h h'.ne
   obtain⟨us,q3,q4⟩:=asa hc hr wm hz h0 _ _ _ t t'
   refine⟨u :: us,?_,u,us,rfl,h'.sound wm h0 (bj.sN h'.ne.2 (q2.mono hz (fun _ _ h=>h) ⟨fun _ _=>rfl,(Frame.refl Z μ w).m⟩)),q4⟩
   rw [avR,Sem.run_bind,q1]
   simp only [Result.andThen_ok,Sem.run_bind,q3,Sem.run_pure]
theorem aFk {f:FuncId} {fn:Func} {c:Code} {args:List LV} {r:LV} {blk blk':bh} (iH:P.follows .mixedOrders=true) (hf:P.funcs[f]?=some fn) (hb:fn.body=some c)
  (hn:(fn.name== "runtime.NumGoroutine")=false) (hd:lf fn.ntmps c=true) (hlen:args.length<=fn.ntmps) (fj:blk.mt=true)
  (h:cP P c (fun e L=>match e with | .exit _=>False | _=>yQ P fn.results.toList L r blk') (StM args blk)):nc P f blk args r blk':=by
 refine⟨⟨fn,hf,by rw [hb];rfl,hn⟩,fun W Z0 vs i0 hz sn nW hargs=>?_⟩
 have r7:=abW _ _ hargs
 refine calls_of_wp hf hb ?_
 have ic:∀ b id,vO i0 b=some id->b=0/\id=i0:=fun b id h=>by
  unfold vO at h;split at h
  ·cases h;exact⟨by assumption,rfl⟩
  ·cases h
 have bM:i0<W.heap.size:=by
  obtain⟨c,T,part,rest,h1,_⟩:=nW
  exact(mN.1 h1).1
 have o5:fV fn.ntmps W (XS.one i0) Z0 (StM args blk) ⟨vs.toArray++qT (fn.ntmps-vs.toArray.size) undef,[]⟩ W:=by
  refine⟨rfl,by simp;omega,vO i0,Z0,⟨Kept.refl _ _,hz,fun _ h=>h,fun _ h=>.inl h,fun b b' id h h'=>(ic b id h).1.trans (ic b' id h').1.symm,fun b id h=>.inr (.inl (ic b id h).2),
   fun b id h _=>(ic b id h).1,fun id h=>by rw [XS.axM h];exact bM,fun id h=>by rw [show id=i0 from h];rfl,fun b id bk h _ _=>by rw [(ic b id h).2];exact sn,
   fun b id bk h g hm=>?_,fun b id h=>?_⟩,fun t=>?_⟩
  ·obtain⟨rfl,rfl⟩:=ic b id h
   simp only [StM,if_true] at g;cases g
   rw [fj] at hm;cases hm
  ·obtain⟨rfl,rfl⟩:=ic b id h
   exact⟨blk,rfl,nW⟩
  ·have e:vs.toArray++qT (fn.ntmps-vs.toArray.size) undef=(vs++ay (fn.ntmps-vs.toArray.size) undef).toArray:=by apply u9;simp
   show bj Z0 (vO i0) W ((zF args).slot t) ((vs.toArray++qT (fn.ntmps-vs.toArray.size) undef).getD t undef)
   rw [e]
   exact ajh args vs _ hargs t
 refine wp_mono (aah iH c _ _ _ _ o5 h hd) fun e a w q=>?_
 have main:∀ L,yQ P fn.results.toList L r blk'->fV fn.ntmps W (XS.one i0) Z0 L a w ->
   a.defers=[]/\∃ v,(results fn a.tmps).run P w=.ok v w/\∃ v' μ Z,Ending.returned v=.returned v'/\Core W (XS.one i0) Z0 μ Z (acA blk') w/\bj Z μ w r v':=by
  rintro L ⟨xs,ys,H1,h1,h2,h3,h4,h5,h6,h7⟩ ⟨ec,bJ,μ,Z,hc,hr⟩
  obtain⟨Z1,k1,k2⟩:=hc.xl h2
  have h0:=k1.x1 i0 rfl
  obtain⟨us,q1,q2⟩:=asa hc hr k1 k2 h0 _ _ _ h1 h3
  have ann:Core W (XS.one i0) Z0 (vO i0) Z1 (acA blk') w:=by
   refine⟨k1.cC,k1.lI,k1.jG,k1.lK,fun b b' id h h'=>(ic b id h).1.trans (ic b' id h').1.symm,fun b id h=>.inr (.inl (ic b id h).2),fun b id h _=>(ic b id h).1,k1.ov,fun id h=>by rw [show id=i0 from h];rfl,?_,?_,?_⟩
   ·intro b id bk h g hm
    obtain⟨rfl,rfl⟩:=ic b id h
    exact k1.jx 0 id blk' h0 h4 h5
   ·intro b id bk h g hm
    obtain⟨rfl,rfl⟩:=ic b id h
    simp only [acA,if_true] at g;cases g
    rw [h5] at hm;cases hm
   ·intro b id h
    obtain⟨rfl,rfl⟩:=ic b id h
    obtain⟨bk,l1,cc,T,part,rest,l2,l3,l4⟩:=k1.heap 0 id h0
    rw [h4] at l1;cases l1
    exact⟨_,rfl,cc,T,part,rest,l2,l3,aR.kv (fun _ h=>h) (fun _ _=>rfl) _ _ _ h6 l4⟩
  have pZ:(fn.results.mapM (zQ a.tmps)).run P w=.ok us.toArray w:=by
   rw [awu,Sem.run_map,q1];rfl
  refine⟨ec,(if h:us.toArray.size=1 then us.toArray[0] else .tuple us.toArray),?_,_,vO i0,Z1,rfl,ann,?_⟩
  ·rw [akr,Sem.run_bind,pZ]
   rfl
  ·subst h7
   have zx:=abW _ _ q2
   match ys,us,q2,zx with
   | [y],[u],q2,_ =>
    obtain⟨v,jT,e,g1,g2⟩:=q2
    simp only [fJ] at e
    obtain⟨rfl,_⟩:=e
    have hnt:∀ l,y≠.bf l:=fun l e=>by subst e;have:=g1.2 rfl;simp [aC] at this
    exact bj.sN hnt g1
   | [],[],q2,_=>exact⟨_,rfl,by simpa using q2⟩
   | y :: y' :: ys,u :: u' :: us,q2,_ =>
    refine⟨(u :: u' :: us).toArray,by simp,by simpa using q2⟩
 cases e with
 | normal=>obtain⟨L,q1,q2⟩:=q;exact main L q1 q2
 | ret=>obtain⟨L,q1,q2⟩:=q;exact main L q1 q2
 | exit id=>obtain⟨L,q1,q2⟩:=q;exact q1.elim
 | _=>exact q.elim
end
end Go.Lg
namespace Go.Lg
def St.b9 (L:St) (bs:List Nat):St:=⟨L.slot,fun c=>(L.heap c).map fun blk=>⟨blk.sz,blk.vals,blk.mt && !bs.contains c⟩⟩
section
variable {P:Program} {dr:Bool} {ops:Array Oper} {rest:List Oper} {L:St} {K:St->Prop} {dst:Option Tmp} {ty:TypeId} {pos:String} {af:Array Edge} {g:Option (Nat × Bool)}
theorem sw (bs:List Nat) (h0:bs.contains 0=false):L.heap.le (L.b9 bs).heap:=fun b blk h=>by
 refine⟨blk.mt && !bs.contains b,by simp [St.b9,h],fun e=>by simp [e],fun e1 e2=>?_⟩
 rintro rfl
 rw [e1,h0] at e2;cases e2
theorem ao {op:Op} {r:LV} (hg:dY ops L ⟨dst,op,ty,pos,af,g⟩ true) (h:aE P L.heap L.ev op r) (k:opsL P dr ops rest (L.put dst r) K) :
  opsL P dr ops (⟨dst,op,ty,pos,af,g⟩ :: rest) L K:=by
 refine⟨L.put dst r,.val hg (bW.le_refl _) (fr:=[]) (fun _ _ h=>by cases h) (.pure h) ?_,k⟩
 cases dst<;>rfl
theorem yM {op:Op} (hg:dY ops L ⟨dst,op,ty,pos,af,g⟩ false) (k:opsL P dr ops rest (L.put dst (.bf [])) K):opsL P dr ops (⟨dst,op,ty,pos,af,g⟩ :: rest) L K :=
 ⟨_,.skip hg rfl,k⟩
theorem at4 {op:Op} {L':St} (hg:dY ops L ⟨dst,op,ty,pos,af,g⟩ true) (hd:dr=false) (h:OpM P L dst op L') (k:opsL P dr ops rest L' K):opsL P dr ops (⟨dst,op,ty,pos,af,g⟩ :: rest) L K:=⟨L',.stM hd hg h,k⟩
theorem fG {op:Op} {d:Nat} {r:LV} {blk:bh} (hg:dY ops L ⟨some d,op,ty,pos,af,g⟩ true) (hd:L.heap d=none) (h:dA P L.ev d op r blk)
  (k:opsL P dr ops rest ((L.bO d (some blk)).put (some d) r) K):opsL P dr ops (⟨some d,op,ty,pos,af,g⟩ :: rest) L K:=by
 refine⟨_,.val hg (r:=r) (fr:=[(d,blk)]) (H1:=(L.bO d (some blk)).heap) ?_ ?_ (.alloc h) ?_,k⟩
 ·intro b bk hb
  have:b≠d:=by rintro rfl;rw [hd] at hb;cases hb
  exact⟨bk.mt,by simp only [St.bO,if_neg this];exact hb,fun h=>h,fun h1 h2=>by rw [h1] at h2;cases h2⟩
 ·intro b bk hb
  simp only [iM,afT] at hb
  obtain⟨rfl,rfl⟩:=hb
  exact⟨hd,bk.mt,by simp [St.bO],fun h=>h⟩
 ·rfl
theorem nY {op:Op} {r r':LV} (bs:List Nat) (hg:dY ops L ⟨dst,op,ty,pos,af,g⟩ true) (h0:bs.contains 0=false) (h:OpC P (L.b9 bs).heap L.ev (dst.getD 0) op r []) (hr:r=r')
  (k:opsL P dr ops rest ((L.b9 bs).put dst r') K):opsL P dr ops (⟨dst,op,ty,pos,af,g⟩ :: rest) L K:=by
 subst hr
 refine⟨(L.b9 bs).put dst r,.val hg (r:=r) (fr:=[]) (H1:=(L.b9 bs).heap) (sw bs h0) (fun _ _ h=>by cases h) (.call h) ?_,k⟩
 cases dst<;>rfl
theorem atu {f:FuncId} {xs:Array Operand} {as:Array TypeId} {args:List LV} {r:LV} (bs:List Nat) (hg:dY ops L ⟨dst,.call ⟨.value (.func f),xs,as⟩,ty,pos,af,g⟩ true) (h0:bs.contains 0=false)
  (ha:fT (L.b9 bs).heap (xs.toList.map L.ev) args) (hk:o6 P f args r []) (hr:r.bV (ef (dst.getD 0))=r)
  (k:opsL P dr ops rest ((L.b9 bs).put dst r) K):opsL P dr ops (⟨dst,.call ⟨.value (.func f),xs,as⟩,ty,pos,af,g⟩ :: rest) L K :=
 nY bs hg h0 (.func ha hk aT aT) hr k
theorem adg:L.b9 []=L:=by
 cases L
 simp only [St.b9,St.mk.injEq,true_and]
 funext c
 rename_i s h
 cases h c<;>simp
theorem aAL {f:FuncId} {xs:Array Operand} {as:Array TypeId} {args:List LV} {r:LV} (hg:dY ops L ⟨dst,.call ⟨.value (.func f),xs,as⟩,ty,pos,af,g⟩ true)
  (ha:fT L.heap (xs.toList.map L.ev) args) (hk:o6 P f args r []) (hr:r.bV (ef (dst.getD 0))=r)
  (k:opsL P dr ops rest (L.put dst r) K):opsL P dr ops (⟨dst,.call ⟨.value (.func f),xs,as⟩,ty,pos,af,g⟩ :: rest) L K :=
 atu [] hg rfl (by rw [adg];exact ha) hk hr (by rw [adg];exact k)
theorem aaV {f:FuncId} {xs:Array Operand} {as:Array TypeId} {args:List LV} {r:LV} {blk:bh} {d:Nat} (bs:List Nat) (hg:dY ops L ⟨some d,.call ⟨.value (.func f),xs,as⟩,ty,pos,af,g⟩ true) (h0:bs.contains 0=false)
  (ha:fT (L.b9 bs).heap (xs.toList.map L.ev) args) (hk:o6 P f args r [blk]) (hp:aN blk.vals=true) (hd:L.heap (ef d 1)=none)
  (k:opsL P dr ops rest (((L.b9 bs).bO (ef d 1) (some blk)).put (some d) (r.bV (ef d))) K):opsL P dr ops (⟨some d,.call ⟨.value (.func f),xs,as⟩,ty,pos,af,g⟩ :: rest) L K:=by
 have iE:(L.b9 bs).heap (ef d 1)=none:=by simp [St.b9,hd]
 refine⟨_,.val hg (r:=r.bV (ef d)) (fr:=[blk].mapIdx fun i blk=>(ef d (i+1),blk)) (H1:=((L.b9 bs).bO (ef d 1) (some blk)).heap) (bW.le_trans (sw bs h0) ?_) ?_
  (.call (.func (fT.le ?_ ha) hk aT (by simpa using hp))) ?_,k⟩
 ·exact ae3 iE
 ·intro b bk hb
  simp only [List.mapIdx_cons,List.mapIdx_nil,iM,afT] at hb
  obtain⟨rfl,rfl⟩:=hb
  exact⟨hd,bk.mt,by simp [St.bO],fun h=>h⟩
 ·exact ae3 iE
 ·rfl
theorem bU {op:Op} {L':St} (hg:dY ops L ⟨dst,op,ty,pos,af,g⟩ true) (h:gO P L dst op L') (k:opsL P dr ops rest L' K):opsL P dr ops (⟨dst,op,ty,pos,af,g⟩ :: rest) L K :=
 ⟨_,.st hg h,k⟩
theorem xD {f:FuncId} {xs:Array Operand} {as:Array TypeId} {args:List LV} {r:LV} {ops:Array Oper} (b:Nat) {blk blk':bh} (hg:dY ops L ⟨dst,.call ⟨.value (.func f),xs,as⟩,ty,pos,af,g⟩ true)
  (hb:L.heap b=some blk) (hm:blk.mt=true) (hp:aN blk.vals=true) (ha:xq L.heap b (xs.toList.map L.ev) args) (hn:Names b (xs.toList.map L.ev)) (hk:nc P f blk args r blk')
  (pQ:blk'.mt=true) (kO:aN blk'.vals=true) (k:opsL P false ops rest ((L.bO b (some blk')).put dst (r.bV fun _=>b)) K) :
  opsL P false ops (⟨dst,.call ⟨.value (.func f),xs,as⟩,ty,pos,af,g⟩ :: rest) L K :=
 ⟨_,.stM rfl hg (.call hb hm hp ha hn hk pQ kO),k⟩
theorem aJ (k:K L):opsL P dr ops [] L K:=k
end
structure iJ {α:Type} (e:α->LV) (sz:Nat) (ag:Bool):Prop where
 aw:∀ a,(e a).aw=sz
 isAgg:∀ a,(e a).isAgg=ag
 pure:∀ a,(e a).pure=true
theorem a7 {α:Type} {e:α->LV} {sz:Nat} {ag:Bool} (h:iJ e sz ag) (l:List α):aN (l.map e)=true:=by
 rw [yV];intro x hx
 obtain⟨a,_,rfl⟩:=da.1 hx
 exact h.pure a
theorem alN (x:LV) (h:x.pure=true):x.at 0 x.aw x.isAgg=some x:=by
 cases x<;>simp_all [LV.at,LV.aw,LV.isAgg,LV.pure]
theorem agd (x y:LV) (h1:x.aw=y.aw) (h2:x.isAgg=y.isAgg):x.put 0 y=some y:=by
 cases x<;>simp_all [LV.put,LV.aw,LV.isAgg]
section
variable {P:Program} {H:bW} {ρ:Operand->LV} {α:Type} {e:α->LV}
theorem aE.amb [Inhabited α] {T E:TypeId} {x i:Operand} {sz:Nat} {l:List α} {k:IntKind} {n:Int} {ag:Bool} (he:iJ e sz ag) (hx:ρ x=.list sz (l.map e)) (hT:P.underlying T=some (.slice E)) (hE:bC P E sz ag)
  (hi:ρ i=.v (.int k n)) (h0:0<=n) (hn:n<l.length):aE P H ρ (.indexAddr T x i) (.cm (e (l.getD n.toNat default))):=by
 have bM:n.toNat<l.length:=by omega
 refine .nx hx hT hE hi h0 ?_ (he.aw _)
 rw [iV,cq bM,bz,cq bM];rfl
theorem aE.ahD {T:TypeId} {p:Operand} {sz:Nat} {ag:Bool} {a:α} (he:iJ e sz ag) (hp:ρ p=.cm (e a)) (hT:bC P T sz ag):aE P H ρ (.load T p) (e a) :=
 .zH hp (by rw [he.aw,he.isAgg];exact hT) (he.pure a)
theorem aE.as9 [Inhabited α] {T:TypeId} {p:Operand} {b sz i:Nat} {l:List α} {m:Bool} {ag:Bool} (he:iJ e sz ag) (hp:ρ p=.aB b sz i 0) (hb:H b=some ⟨sz,l.map e,m⟩) (hT:bC P T sz ag)
  (hi:i<l.length):aE P H ρ (.load T p) (e (l.getD i default)):=by
 have hv:(l.map e)[i]?=some (e (l.getD i default)):=by
  rw [iV,cq hi,bz,cq hi];rfl
 refine .fU (blk:=⟨sz,l.map e,m⟩) (n:=sz) (ag:=ag) hp hb rfl hv (he.aw _) ?_ hT
 have:=alN (e (l.getD i default)) (he.pure _)
 rwa [he.aw,he.isAgg] at this
theorem gO.azh [Inhabited α] {L:St} {dst:Option Tmp} {T:TypeId} {p x:Operand} {b sz i:Nat} {l:List α} {ag:Bool} {a:α} (he:iJ e sz ag) (hp:L.ev p=.aB b sz i 0) (hb:L.heap b=some ⟨sz,l.map e,true⟩)
  (hx:L.ev x=e a) (hT:bC P T sz ag) (hi:i<l.length):gO P L dst (.store T p x) ((L.bO b (some ⟨sz,(l.set i a).map e,true⟩)).put dst .any):=by
 have hv:(l.map e)[i]?=some (e l[i]):=by rw [iV,cq hi];rfl
 have:=gO.store (P:=P) (L:=L) (dst:=dst) (T:=T) (p:=p) (x:=x) (y':=e a) hp hb rfl rfl hv (he.aw _) (by rw [hx];exact agd _ _ (by rw [he.aw,he.aw]) (by rw [he.isAgg,he.isAgg]))
  (by rw [hx,he.aw,he.isAgg];exact hT) (by rw [hx];exact⟨LV.fk (he.pure _),LV.eP (he.pure _)⟩)
 rwa [<-List.map_set] at this
theorem dA.an6 {T E:TypeId} {x c:Operand} {kl kc:IntKind} {d sz dN n m:Nat} {ag:Bool} {z:α} (he:iJ e sz ag) (hT:P.underlying T=some (.slice E)) (hz:dj P E (e z)) (hE:bC P E sz ag) (hb:mg P E dN)
  (hl:ρ x=.v (.int kl (n:Nat))) (hc:ρ c=.v (.int kc (m:Nat))) (kh:n<=m) (hm:dN*m<=281474976710656) (eO:m<=9223372036854775807) :
  dA P ρ d (.makeSlice T x c) (.ref d sz 0 n) ⟨sz,(ay n z).map e,true⟩:=by
 rw [List.map_replicate]
 exact .make hT hz (by rw [he.isAgg];exact hE) (he.aw z) hb hl hc kh hm eO
theorem dA.anB {T E:TypeId} {x:Operand} {d sz:Nat} {ag:Bool} {z a:α} (he:iJ e sz ag) (hT:P.underlying T=some (.slice E)) (hz:dj P E (e z)) (hE:bC P E sz ag) (hx:ρ x=e a) (dM:0<sz) (ku:sz<=1000) :
  dA P ρ d (.buildSlice T 1 #[(0,x)]) (.ref d sz 0 1) ⟨sz,[a].map e,true⟩:=by
 have:=dA.lit (P:=P) (ρ:=ρ) (d:=d) (T:=T) (n:=1) (ps:=#[(0,x)]) hT hz (by rw [he.isAgg];exact hE) (he.aw z) ae ae dM (by
  intro p hp
  simp only [iM] at hp
  subst hp
  refine⟨by simp,?_,by rw [hx];exact LV.fk (he.pure _),by rw [hx];exact LV.eP (he.pure _)⟩
  simp [lay,hx,he.aw,he.isAgg])
 simpa [jR,hx,ay] using this
end
section
variable {a b:Int}
theorem sf (h1:-9223372036854775808<=a+b) (h2:a+b<=9223372036854775807):dL .add .i64 a b=some (.int .i64 (a+b)):=by
 simp only [dL];rw [IntWalk.i64_in _ ⟨h1,h2⟩]
theorem aau (h1:-9223372036854775808<=a-b) (h2:a-b<=9223372036854775807):dL .sub .i64 a b=some (.int .i64 (a-b)):=by
 simp only [dL];rw [IntWalk.i64_in _ ⟨h1,h2⟩]
theorem ah4 (h1:-9223372036854775808<=a*b) (h2:a*b<=9223372036854775807):dL .mul .i64 a b=some (.int .i64 (a*b)):=by
 simp only [dL];rw [IntWalk.i64_in _ ⟨h1,h2⟩]
end
section
variable {P:Program} {L L0:St} {Q:jW->St->Prop} {K:St->Prop}
theorem aEV {l:List Oper} {id:Nat} (h:opsL P false l.toArray l L (Q .normal)):cP P (.region id l.toArray false) Q L:=⟨L,az.refl L,.inl ⟨fun e=>absurd e ak,h⟩⟩
theorem a8 {l:List Oper} {id:Nat} (m:Nat) (hm:yT l.toArray m []=true) (h:opsL P true l.toArray l L (Q .normal)):cP P (.region id l.toArray true) Q L:=⟨L,az.refl L,.inl ⟨fun _=>⟨m,[],hm⟩,h⟩⟩
theorem ie {l:List Oper} {id:Nat} (m:Nat) (fr:List Nat) (hm:yT l.toArray m fr=true) (h:opsL P true l.toArray l L (Q .normal)):cP P (.region id l.toArray true) Q L:=⟨L,az.refl L,.inl ⟨fun _=>⟨m,fr,hm⟩,h⟩⟩
theorem cy {l:List Oper} {id:Nat} (hw:az L L0) (h:opsL P false l.toArray l L0 (Q .normal)):cP P (.region id l.toArray false) Q L:=⟨L0,hw,.inl ⟨fun e=>absurd e ak,h⟩⟩
theorem aCb {l:List Oper} {id:Nat} (m:Nat) (hm:yT l.toArray m []=true) (hw:az L L0) (h:opsL P true l.toArray l L0 (Q .normal)):cP P (.region id l.toArray true) Q L:=⟨L0,hw,.inl ⟨fun _=>⟨m,[],hm⟩,h⟩⟩
theorem aaM {ops:Array Oper} {id:Nat} (h:jl P ops ops.size (qT ops.size false) L (Q .normal)):cP P (.region id ops true) Q L:=⟨L,az.refl L,.inr (.inl ⟨rfl,h⟩)⟩
theorem aiB {ops:Array Oper} {id:Nat} {d:Bool} (h:∀ n W X Z0 a w,fV n W X Z0 L a w->lf n (.region 0 ops d)=true->∀ id,(Code.region id ops d).wp P (acH n W X Z0 Q) a w):cP P (.region id ops d) Q L:=⟨L,az.refl L,.inr (.inr h)⟩
def arR (P:Program) (l:List Oper) (m b:Nat) (fr:List Nat) (x0:bh) (K:St->Prop) (Lm:St):Prop :=
 Lm.heap b=none/\(fr.all fun j=>match (l.toArray.getD j default).dst with | some d=>(Lm.heap (ef d 1)).isNone | none=>true)=true /\
  (∀ om,l.toArray[m]?=some om->∃ T p v i o,om.op=.store T p v/\Lm.ev p=.aB b x0.sz i o)/\opsL P true l.toArray (l.drop m) (Lm.bO b (some x0)) K
theorem aA2 {l:List Oper} {id:Nat} (iH:P.follows .mixedOrders=true) (m b:Nat) (fr:List Nat) {x0:bh} (hm:ak3 l.toArray m fr=true) (hb:L.heap b=some x0)
  (h:opsL P true l.toArray (l.take m) (L.bO b none) (arR P l m b fr x0 (Q .normal))):cP P (.region id l.toArray true) Q L:=by
 refine aiB fun n W X Z0 a w hs hd id=>?_
 have iE:∀ o∈l.toArray.toList,∀ t,o.dst=some t->t<n:=fun o ho t ht=>by
  simp only [lf,oR] at hd
  have:=hd o ho
  rw [ht] at this
  simpa using this
 exact aHd iH hm hs hb h iE (fun L' a' w' hk l8=>⟨L',hk,l8⟩)
theorem aHL {l:List Oper} {m b:Nat} {fr:List Nat} {x0:bh} {K:St->Prop} {ops:Array Oper} (h1:L.heap b=none) (h2:(fr.all fun j=>match (l.toArray.getD j default).dst with | some d=>(L.heap (ef d 1)).isNone | none=>true)=true)
  (h3:∀ om,l.toArray[m]?=some om->∃ T p v i o,om.op=.store T p v/\L.ev p=.aB b x0.sz i o) (h4:opsL P true l.toArray (l.drop m) (L.bO b (some x0)) K):opsL P true ops [] L (arR P l m b fr x0 K):=⟨h1,h2,h3,h4⟩
theorem aH1 {x y:Code} (h:cP P x (px (cP P y Q) Q) L):cP P (.seq x y) Q L:=h
theorem ald {c:Operand} {x y:Code} {t:Bool} (hc:L.ev c=.v (.bool t)) (h1:t=true->cP P x Q L) (h2:t=false->cP P y Q L):cP P (.cond c x y) Q L:=⟨t,hc,h1,h2⟩
theorem aAe {c:Code} {id:Nat} (h:cP P c (ss id Q) L):cP P (.block id c) Q L:=h
theorem aCw (h:Q .normal L):cP P .skip Q L:=h
theorem aES (h:Q .ret L):cP P .ret Q L:=h
theorem aAm {id:Nat} (h:Q (.exit id) L):cP P (.exit id) Q L:=h
theorem aEX (h:K L):px K Q .normal L:=h
theorem aFI {i:Nat} (h:Q (.exit i) L):px K Q (.exit i) L:=h
theorem aJm (h:Q .ret L):px K Q .ret L:=h
theorem azE {id:Nat} (h:Q .normal L):ss id Q .normal L:=h
theorem aAO {id:Nat} (h:Q .ret L):ss id Q .ret L:=h
theorem aFN {id:Nat} (h:Q .normal L):ss id Q (.exit id) L:=by simp only [ss,if_pos];exact h
theorem aDt {id i:Nat} (aX:i≠id) (h:Q (.exit i) L):ss id Q (.exit i) L:=by simp only [ss,if_neg aX];exact h
theorem ab0:∀ {c:Code} {Q Q':jW->St->Prop} {L:St},(∀ e L,Q e L->Q' e L)->cP P c Q L->cP P c Q' L:=by
 intro c
 induction c with
 | skip=>exact fun hq h=>hq _ _ h
 | region id ops d=>exact fun hq ⟨L0,a,h⟩=>⟨L0,a,h.imp (fun⟨b,h⟩=>⟨b,asV (hq _) _ _ h⟩) (fun h=>h.imp (fun⟨b,h⟩=>⟨b,aor (hq _) _ _ _ h⟩) (fun h n W X Z0 a w hs hd id=>wp_mono (h n W X Z0 a w hs hd id) fun e a w p=>by
  cases e with
  | normal=>obtain⟨L,q1,q2⟩:=p;exact⟨L,hq _ _ q1,q2⟩
  | exit i=>obtain⟨L,q1,q2⟩:=p;exact⟨L,hq _ _ q1,q2⟩
  | ret=>obtain⟨L,q1,q2⟩:=p;exact⟨L,hq _ _ q1,q2⟩
  | _=>exact p.elim))⟩
 | seq x y ihx ihy =>
  intro Q Q' L hq h
  refine ihx (fun e L h=>?_) h
  cases e with
  | normal=>exact ihy hq h
  | exit i=>exact hq _ _ h
  | ret=>exact hq _ _ h
 | cond c x y ihx ihy=>exact fun hq ⟨t,a,b,c⟩=>⟨t,a,fun e=>ihx hq (b e),fun e=>ihy hq (c e)⟩
 | block id c ih =>
  intro Q Q' L hq h
  refine ih (fun e L h=>?_) h
  cases e with
  | normal=>exact hq _ _ h
  | exit i =>
   simp only [ss] at h ⊢
   split
   ·rename_i e;rw [if_pos e] at h;exact hq _ _ h
   ·rename_i e;rw [if_neg e] at h;exact hq _ _ h
  | ret=>exact hq _ _ h
 | loop c ih =>
  intro Q Q' L hq h I hI
  refine h I fun L hL=>hI L (ih (fun e L h=>?_) hL)
  cases e with
  | normal=>exact h
  | exit i=>exact hq _ _ h
  | ret=>exact hq _ _ h
 | exit id=>exact fun hq h=>hq _ _ h
 | ret=>exact fun hq h=>hq _ _ h
 | rangeFunc=>exact fun _ h=>h.elim
 | scope=>exact fun _ h=>h.elim
 | label=>exact fun _ h=>h.elim
 | goto=>exact fun _ h=>h.elim
 | refuse=>exact fun _ h=>h.elim
theorem agH {c:Code} {α:Type} (S:α->St->St) (C:α->Prop) (μ:α->Nat) (a0:α) (hC:C a0) (h0:∃ L1,az L (S a0 L1))
  (hr:∀ a L1,C a->cP P c (px (fun L'=>∃ a' L2,C a'/\μ a'<μ a/\az L' (S a' L2)) Q) (S a L1)):cP P (.loop c) Q L:=by
 obtain⟨L1,h1⟩:=h0
 intro I hI
 have key:∀ n a L1,μ a=n->C a->I (S a L1):=by
  intro n
  induction n using abL with
  | _ n ih =>
   intro a L1 hn hCa
   refine hI _ (ab0 (fun e L h=>?_) (hr a L1 hCa))
   cases e with
   | normal =>
    obtain⟨a',L2,g1,g2,g3⟩:=h
    exact⟨_,g3,ih _ (hn ▸ g2) a' L2 rfl g1⟩
   | exit i=>exact h
   | ret=>exact h
 exact⟨_,h1,key _ a0 L1 rfl hC⟩
theorem bN {c:Code} (h:cP P c (px (cP P (.loop c) Q) Q) L):cP P (.loop c) Q L:=by
 intro I hI
 refine⟨L,az.refl L,hI L (ab0 (fun e L' h=>?_) h)⟩
 cases e with
 | normal=>exact h I hI
 | exit i=>exact h
 | ret=>exact h
theorem gY {c:Code} (K:St->Prop) (h:cP P c (px K Q) L) (hk:∀ L,K L->Q .normal L):cP P c Q L :=
 ab0 (fun e L h=>by cases e with | normal=>exact hk L h | exit i=>exact h | ret=>exact h) h
end
theorem azt {L:St} {t:Nat} {r:LV} (h:L.slot t=r):L.put (some t) r=L:=by
 cases L with
 | mk s hp =>
  simp only [St.put,St.mk.injEq,and_true]
  funext k
  have:=g8 ⟨s,hp⟩ t r k
  simp only [St.put] at this
  rw [this]
  split
  ·rename_i hk;subst hk;exact h.symm
  ·rfl
theorem aj {L L':St} {t:Nat} {r:LV} (h0:L'=L) (h:L.slot t=r):L'.put (some t) r=L:=by rw [h0];exact azt h
theorem az.of_eq {L L':St} (h:L'=L):az L L':=by subst h;exact az.refl _
theorem azT (L:St) (t:Nat) (r:LV) (s:Nat) (h:(s==t)=false):(L.put (some t) r).slot s=L.slot s:=by
 rw [g8,if_neg mW]
theorem aBo (L:St) (t:Nat) (r:LV):(L.put (some t) r).slot t=r:=by rw [g8,if_pos rfl]
section
variable {P:Program} {dr:Bool} {ops:Array Oper} {rest:List Oper} {L:St} {K:St->Prop} {dst:Option Tmp} {op:Op} {ty:TypeId} {pos:String} {af:Array Edge}
theorem bg {j d:Nat} {b v want res:Bool} (h1:(ops[j]?).bind (·.dst)=some d) (h2:L.slot d=.v (.bool b)) (h3:b=v) (h4:(v==want)=res) :
  dY ops L ⟨dst,op,ty,pos,af,some (j,want)⟩ res:=⟨d,h1,.inl ⟨b,h2,by rw [h3,h4]⟩⟩
theorem aDv {j d:Nat} {want:Bool} (h1:(ops[j]?).bind (·.dst)=some d) (h2:L.slot d=.bf []):dY ops L ⟨dst,op,ty,pos,af,some (j,want)⟩ false:=⟨d,h1,.inr ⟨h2,rfl⟩⟩
theorem tx {L':St} (h:L=L') (k:K L'):opsL P dr ops [] L K:=by subst h;exact k
end
section
variable {P:Program} {L:St}
theorem dT {t:Nat} {x y:LV} (h:L.slot t=x) (hi:cV L.heap x y):pn P [.tmp t] L y [] :=
 ⟨[x],[y],L.heap,[],.cons h .nil,bW.le_refl _,.cons (.cE hi) .nil,zq,rfl,fun k b h=>by simp at h,rfl⟩
theorem ow {t:Nat} {x y:LV} (bs:List Nat) (h0:bs.contains 0=false) (h:L.slot t=x) (hi:cV (L.b9 bs).heap x y):pn P [.tmp t] L y [] :=
 ⟨[x],[y],(L.b9 bs).heap,[],.cons h .nil,sw bs h0,.cons (.cE hi) .nil,zq,rfl,fun k b h=>by simp at h,rfl⟩
theorem wL {t u:Nat} {x y x' y':LV} (h:L.slot t=x) (hi:cV L.heap x y) (h':L.slot u=x') (nw:cV L.heap x' y'):pn P [.tmp t,.tmp u] L (.bf [y,y']) [] :=
 ⟨[x,x'],[y,y'],L.heap,[],.cons h (.cons h' .nil),bW.le_refl _,.cons (.cE hi) (.cons (.cE nw) .nil),zq,rfl,fun k b h=>by simp at h,rfl⟩
theorem ajP {t u:Nat} {x y x' y':LV} (bs:List Nat) (h0:bs.contains 0=false) (h:L.slot t=x) (hi:cV (L.b9 bs).heap x y) (h':L.slot u=x') (nw:cV (L.b9 bs).heap x' y'):pn P [.tmp t,.tmp u] L (.bf [y,y']) [] :=
 ⟨[x,x'],[y,y'],(L.b9 bs).heap,[],.cons h (.cons h' .nil),sw bs h0,.cons (.cE hi) (.cons (.cE nw) .nil),zq,rfl,fun k b h=>by simp at h,rfl⟩
theorem aca {t u s:Nat} {x y x' y' x'' y'':LV} (bs:List Nat) (h0:bs.contains 0=false) (h:L.slot t=x) (hi:cV (L.b9 bs).heap x y) (h':L.slot u=x') (nw:cV (L.b9 bs).heap x' y')
  (h'':L.slot s=x'') (aBm:cV (L.b9 bs).heap x'' y''):pn P [.tmp t,.tmp u,.tmp s] L (.bf [y,y',y'']) [] :=
 ⟨[x,x',x''],[y,y',y''],(L.b9 bs).heap,[],.cons h (.cons h' (.cons h'' .nil)),sw bs h0,.cons (.cE hi) (.cons (.cE nw) (.cons (.cE aBm) .nil)),zq,rfl,fun k b h=>by simp at h,rfl⟩
theorem age {t b sz len:Nat} {blk:bh} (h:L.slot t=.ref b sz 0 len) (hb:L.heap b=some blk) (hp:aN blk.vals=true):pn P [.tmp t] L (.ref 1 sz 0 len) [blk] :=
 ⟨[.ref b sz 0 len],[.ref 1 sz 0 len],L.heap,[b],.cons h .nil,bW.le_refl _,.cons (.ref (k:=0) rfl) .nil,by simp,rfl,fun k c hk=>by
  cases k with
  | zero=>simp at hk;subst hk;exact⟨blk,hb,rfl,hp⟩
  | succ k=>simp at hk,rfl⟩
theorem ij {a:Nat} {T:TypeId} {b sz:Nat} {x y:LV} {m:Bool} {n:Nat} {ag:Bool} (bs:List Nat) (h0:bs.contains 0=false) (h:L.slot a=.aB b sz 0 0) (hb:L.heap b=some ⟨sz,[x],m⟩)
  (hx:x.aw=sz) (cj:x.at 0 n ag=some x) (hT:bC P T n ag) (hi:cV (L.b9 bs).heap x y):pn P [.cell a T] L y [] :=
 ⟨[x],[y],(L.b9 bs).heap,[],.cons ⟨b,sz,0,0,_,x,n,ag,h,hb,rfl,rfl,hx,cj,hT⟩ .nil,sw bs h0,.cons (.cE hi) .nil,zq,rfl,fun k b h=>by simp at h,rfl⟩
theorem afv {bs:List Nat} {b sz off len:Nat} {vals:List LV} {m:Bool} (hb:L.heap b=some ⟨sz,vals,m⟩) (rP:bs.contains b=true) (hp:aN vals=true) (hl:off+len<=vals.length) :
  cV (L.b9 bs).heap (.ref b sz off len) (.list sz ((vals.drop off).take len)) :=
 cV.ref (blk:=⟨sz,vals,m && !bs.contains b⟩) (by simp [St.b9,hb]) rfl hp hl (by rw [rP];simp)
theorem fC {α:Type} {e:α->LV} {ag:Bool} {bs:List Nat} {b sz len:Nat} {l:List α} {m:Bool} (he:iJ e sz ag) (hb:L.heap b=some ⟨sz,l.map e,m⟩) (rP:bs.contains b=true) (hl:len=l.length) :
  cV (L.b9 bs).heap (.ref b sz 0 len) (.list sz (l.map e)):=by
 have:=afv (L:=L) (bs:=bs) (off:=0) (len:=len) hb rP (a7 he l) (by simp [hl])
 rwa [lQ,List.take_of_length_le (by simp [hl])] at this
end
section
variable {P:Program} {H:bW} {ρ:Operand->LV}
theorem aE.qh {c x y:Operand} {t:Bool} (h:ρ c=.v (.bool t)) (ht:t=true):aE P H ρ (.pick c x y) (ρ x):=by
 have:=aE.pick (P:=P) (H:=H) (x:=x) (y:=y) h
 rwa [if_pos ht] at this
theorem aE.sv {c x y:Operand} {t:Bool} (h:ρ c=.v (.bool t)) (ht:t=false):aE P H ρ (.pick c x y) (ρ y):=by
 have:=aE.pick (P:=P) (H:=H) (x:=x) (y:=y) h
 rwa [if_neg (by simp [ht])] at this
end
section
variable {P:Program} {dr:Bool} {ops:Array Oper} {rest:List Oper} {L:St} {K:St->Prop} {dst:Option Tmp} {ty:TypeId} {pos:String} {af:Array Edge} {x:Operand}
theorem mv (k:opsL P dr ops rest (L.put dst (L.ev x)) K):opsL P dr ops (⟨dst,.move x,ty,pos,af,none⟩ :: rest) L K:=ao rfl (.move _) k
theorem asg (k:opsL P dr ops rest (L.put dst (L.ev x)) K):opsL P dr ops (⟨dst,.assign x,ty,pos,af,none⟩ :: rest) L K:=ao rfl (.assign _) k
end
section
variable {P:Program} {H:bW} {ρ:Operand->LV} {α:Type} {e:α->LV} {sz:Nat} {ag:Bool} {T E:TypeId} {x y z:Operand} {l:List α} {a h:Nat} {k k':IntKind}
theorem aE.amc (_he:iJ e sz ag) (hx:ρ x=.list sz (l.map e)) (hT:P.underlying T=some (.slice E)) (hE:bC P E sz ag) (cd:ρ y=.v (.int k (a:Nat))) (iC:ρ z=.v (.int k' (h:Nat))) (h1:a<=h) (h2:h<=l.length) :
  aE P H ρ (.slice T x (some y) (some z) none) (.list sz (((l.take h).drop a).map e)):=by
 have:=aE.adH (P:=P) (H:=H) (ρ:=ρ) (la:=some y) (ha:=some z) (a:=a) (h:=h) hx hT hE (fun w hw=>by cases hw;exact⟨_,cd⟩) (fun h=>by cases h) (fun w hw=>by cases hw;exact⟨_,iC⟩) (fun h=>by cases h) h1 (by simpa using h2)
 rwa [<-xg,<-ael] at this
theorem aE.ab8 (_he:iJ e sz ag) (hx:ρ x=.list sz (l.map e)) (hT:P.underlying T=some (.slice E)) (hE:bC P E sz ag) (cd:ρ y=.v (.int k (a:Nat))) (h1:a<=l.length) :
  aE P H ρ (.slice T x (some y) none none) (.list sz ((l.drop a).map e)):=by
 have:=aE.adH (P:=P) (H:=H) (ρ:=ρ) (la:=some y) (ha:=none) (a:=a) (h:=(l.map e).length) hx hT hE (fun w hw=>by cases hw;exact⟨_,cd⟩) (fun h=>by cases h) (fun w hw=>by cases hw) (fun _=>rfl) (by simpa using h1) (bp _)
 rwa [List.take_length,<-ael] at this
theorem aE.aq5 (_he:iJ e sz ag) (hx:ρ x=.list sz (l.map e)) (hT:P.underlying T=some (.slice E)) (hE:bC P E sz ag) (iC:ρ z=.v (.int k' (h:Nat))) (h2:h<=l.length) :
  aE P H ρ (.slice T x none (some z) none) (.list sz ((l.take h).map e)):=by
 have:=aE.adH (P:=P) (H:=H) (ρ:=ρ) (la:=none) (ha:=some z) (a:=0) (h:=h) hx hT hE (fun w hw=>by cases hw) (fun _=>rfl) (fun w hw=>by cases hw;exact⟨_,iC⟩) (fun h=>by cases h) ae (by simpa using h2)
 rwa [lQ,<-xg] at this
theorem fh (he:iJ e sz ag) (n:Nat) (l:List α):(LV.list n (l.map e)).pure=true:=by simp only [LV.pure];exact a7 he l
end
theorem e1 (L:St) (t:Nat):L.ev (.tmp t)=L.slot t:=rfl
theorem e2 (L:St) (k:IntKind) (n:Int):L.ev (.const (.int k n))=.v (.int k n):=rfl
theorem e3 (L:St) (b:Bool):L.ev (.const (.bool b))=.v (.bool b):=rfl
theorem e4 (L:St):L.ev (.const (.slice none 0 0))=.v (.slice none 0 0):=rfl
theorem p1 (L:St) (t:Nat) (r:LV):(L.put (some t) r).slot t=r:=aBo L t r
theorem p2 (L:St) (t:Nat) (r:LV) (s:Nat) (h:(s==t)=false):(L.put (some t) r).slot s=L.slot s:=azT L t r s h
theorem p3 (L:St) (r:LV):L.put none r=L:=rfl
theorem q1 (L:St) (b:Nat) (x:Option bh) (s:Nat):(L.bO b x).slot s=L.slot s:=rfl
theorem q2 (L:St) (bs:List Nat) (s:Nat):(L.b9 bs).slot s=L.slot s:=rfl
theorem q3 (L:St) (b:Nat) (s:Nat):(L.kill b).slot s=(L.slot s).kill b:=rfl
theorem l1 {α β:Type} (f:α->β) (l:List α):(l.map f).length=l.length:=List.length_map f
theorem lE {P:Program} {dst:Option Tmp} {ty:TypeId} {pos:String} {af:Array Edge} {g:Option (Nat × Bool)} {rest:List Oper} {L:St} {K:St->Prop} {f:FuncId} {xs:Array Operand} {uC:Array TypeId} {args:List LV} {r:LV} {ops:Array Oper} (b:Nat) {blk blk':bh} (hg:dY ops L ⟨dst,.call ⟨.value (.func f),xs,uC⟩,ty,pos,af,g⟩ true)
  (hb:L.heap b=some blk) (hm:blk.mt=true) (hp:aN blk.vals=true) (ha:xq L.heap b (xs.toList.map L.ev) args) (hn:Names b (xs.toList.map L.ev)) (hk:nc P f blk args r blk')
  (pQ:blk'.mt=true) (kO:aN blk'.vals=true) (hr:r.pure=true) (k:opsL P false ops rest ((L.bO b (some blk')).put dst r) K) :
  opsL P false ops (⟨dst,.call ⟨.value (.func f),xs,uC⟩,ty,pos,af,g⟩ :: rest) L K :=
 xD b hg hb hm hp ha hn hk pQ kO (by rw [LV.df _ _ hr];exact k)
end Go.Lg
end
