/- Texts LgK, LgO of this proof, joined. -/
import Derived.Test.YthcadngkamjpdaaGreatQU1
import Derived.Deep.Upon
import Derived.Lib.Overlaps
set_option linter.unusedVariables false
set_option linter.unusedSimpArgs false
open Array renaming all_eq_true_iff_forall_mem->axF,ext'->wa,getD_eq_getD_getElem?->gH,getElem?_eq_getElem->sN,getElem?_eq_some_iff->nC,getElem?_modify->awo,getElem?_setIfInBounds_ne->qf,getElem?_setIfInBounds_self_of_lt->vW,length_toList->nM,map->afd,mapM_eq_mapM_toList->awR,mem_of_getElem?->axp,mem_toList_iff->afI,range->av2,replicate->rH,size_append->ahh,toList_append->alc
open Bool renaming and_eq_true->mR,false_eq_true->adn,not_eq_true'->zr,or_eq_true->qF
open Classical renaming byContradiction->se,not_forall->aC7,not_imp->aDT
open Int renaming natCast_mul->ac8
open List renaming all_eq_true->py,append_nil->qo,contains_iff_mem->qW,drop_drop->qL,drop_left->ade,drop_of_length_le->kB,drop_zero->ks,eq_nil_of_length_eq_zero->oC,ext_getElem->yf,flatten_append->arL,flatten_cons->acO,getD_eq_getElem?_getD->bE,getElem?_append_left->aeo,getElem?_append_right->aeP,getElem?_cons_succ->are,getElem?_cons_zero->sZ,getElem?_eq_getElem->bY,getElem?_eq_some_iff->oe,getElem?_map->gZ,getElem?_toArray->apY,length_append->jS,length_drop->ni,length_take->fQ,mapM_cons->awd,map_cons->lI,map_drop->aei,map_nil->wL,map_take->w5,map_toArray->acY,mem_append->oO,mem_filterMap->aaF,mem_map->ga,mem_mapIdx->awI,mem_of_getElem?->sQ,mem_range->wF,mem_replicate->uc,mem_singleton->fP,nil_append->afv,nodup_nil->yL,range->fe,replicate->aV,replicate_succ->anm,size_toArray->ab2,take_append_drop->xu,take_left->akn
open List.cons renaming injEq->gj
open Nat renaming add_mul->iw,add_zero->mg,beq->u7,le_refl->bF,le_trans->bb,lt_or_ge->kD,min_eq_left->nt,mod_eq_of_lt->ir,mul_assoc->fJ,mul_eq_zero->ajU,mul_le_mul_right->eT,strongRecOn->acP,sub_self->sM,succ_mul->iK,testBit_or->ayi,zero_add->fg,zero_le->bS,zero_mul->sb
open Option renaming getD_some->aaC,isNone_iff_eq_none->aaL,map_eq_some_iff->zc,map_some->rz,ne_none_iff_exists'->ak3
open Option.some renaming injEq->fv
open Prod.mk renaming injEq->afW
section
set_option linter.unusedVariables false
set_option linter.unusedSimpArgs false
namespace Go.Lg
mutual
def LV.b7 (f:Nat->Nat):LV->LV
 | .any=>.any
 | .v x=>.v x
 | .list sz l=>.list sz (dX f l)
 | .agg l=>.agg (dX f l)
 | .ref b sz off len=>.ref (f b) sz off len
 | .jY b sz off len cap=>.jY (f b) sz off len cap
 | .aF b sz i o=>.aF (f b) sz i o
 | .ba c=>.ba (c.b7 f)
 | .bQ g l=>.bQ g (dX f l)
 | .a9 l=>.a9 (dX f l)
def dX (f:Nat->Nat):List LV->List LV
 | []=>[]
 | x :: xs=>x.b7 f :: dX f xs
end
mutual
theorem LV.cQ (f:Nat->Nat):∀ (x:LV),x.pure=true->x.b7 f=x
 | .any,_=>rfl
 | .v _,_=>rfl
 | .list sz l,h=>by simp only [LV.b7,qy f l (by simpa [LV.pure] using h)]
 | .agg l,h=>by simp only [LV.b7,qy f l (by simpa [LV.pure] using h)]
 | .ref ..,h=>by simp [LV.pure] at h
 | .jY ..,h=>by simp [LV.pure] at h
 | .aF ..,h=>by simp [LV.pure] at h
 | .ba c,h=>by simp only [LV.b7,LV.cQ f c (by simpa [LV.pure] using h)]
 | .bQ g l,h=>by simp only [LV.b7,qy f l (by simpa [LV.pure] using h)]
 | .a9 l,h=>by simp [LV.pure] at h
theorem qy (f:Nat->Nat):∀ (l:List LV),aK l=true->dX f l=l
 | [],_=>rfl
 | x :: xs,h=>by simp only [dX,LV.cQ f x (pure_cons h).1,qy f xs (pure_cons h).2]
end
mutual
theorem LV.ai7 (f:Nat->Nat):∀ (x:LV),(x.b7 f).av=x.av
 | .any=>rfl | .v _=>rfl | .list ..=>rfl | .ref ..=>rfl | .jY ..=>rfl | .aF ..=>rfl | .ba _=>rfl | .bQ ..=>rfl | .a9 _=>rfl
 | .agg l=>by simp only [LV.b7,LV.av,apc f l]
theorem apc (f:Nat->Nat):∀ (l:List LV),cL (dX f l)=cL l
 | []=>rfl
 | x :: xs=>by simp only [dX,cL,LV.ai7 f x,apc f xs]
end
theorem LV.agS (f:Nat->Nat) (x:LV):(x.b7 f).isAgg=x.isAgg:=by cases x<;>rfl
section
variable {Z:Nat->Prop} {μ bD:Nat->Option Nat} {w:World}
mutual
theorem aJ.b7 (f:Nat->Nat) (hm:∀ b id,μ b=some id->bD (f b)=some id):∀ (lv:LV) (cs:List Value),aJ Z μ w lv cs->aJ Z bD w (lv.b7 f) cs
 | .any,_,h=>by simpa [aJ,LV.b7] using h
 | .v x,cs,h=>by simpa [aJ,LV.b7] using h
 | .list sz l,cs,h=>by
   simp only [aJ,LV.b7] at h ⊢
   obtain⟨a,len,cap,h1,h2,h3,h4,h9⟩:=h
   have hl:(dX f l).length=l.length:=by
    clear h2 h4 h9;induction l with
    | nil=>rfl
    | cons x xs ih=>simp [dX,ih]
   refine⟨a,len,cap,h1,by rw [hl];exact h2,h3,?_,by rw [qy f l h9];exact h9⟩
   rcases h4 with h4 | ⟨blk,off,c,T,fz,part,rest,e1,e2,e3,e4,e5⟩
   ·left;subst h4;rfl
   ·exact .inr ⟨blk,off,c,T,fz,part,rest,e1,e2,e3,e4,a6.b7 f hm sz l part e5⟩
 | .agg l,cs,h=>by
   simp only [aJ,LV.b7] at h ⊢
   exact cj.b7 f hm l cs h
 | .ref b sz off len,cs,h=>by
   simp only [aJ,LV.b7] at h ⊢
   rcases h with h | ⟨id,cap,c,T,fz,h1,h2,h3⟩
   ·exact oB
   exact .inr ⟨id,cap,c,T,fz,h1,hm _ _ h2,h3⟩
 | .jY b sz off len cap,cs,h=>by
   simp only [aJ,LV.b7] at h ⊢
   obtain⟨id,c,T,fz,h1,h2,h3⟩:=h
   exact⟨id,c,T,fz,h1,hm _ _ h2,h3⟩
 | .aF b sz i o,cs,h=>by
   simp only [aJ,LV.b7] at h ⊢
   obtain⟨id,h1,h2⟩:=h
   exact⟨id,h1,hm _ _ h2⟩
 | .ba c,cs,h=>by
   simp only [aJ,LV.b7] at h ⊢
   obtain⟨blk,off,cc,T,fz,part,rest,h1,h2,h3,h4,h5,h6,h7⟩:=h
   exact⟨blk,off,cc,T,fz,part,rest,h1,h2,h3,h4,by rw [LV.ai7];exact h5,aJ.b7 f hm c part h6,by rw [LV.cQ f c h7];exact h7⟩
 | .bQ g cap,cs,h=>by
   simp only [aJ,LV.b7] at h ⊢
   obtain⟨vs,h1,h2,h3⟩:=h
   exact⟨vs,h1,a6.b7 f hm 1 cap vs.toList h2,by rw [qy f cap h3];exact h3⟩
 | .a9 _,_,h=>by simp [aJ] at h
theorem a6.b7 (f:Nat->Nat) (hm:∀ b id,μ b=some id->bD (f b)=some id) (sz:Nat):∀ (l:List LV) (cs:List Value),a6 Z μ w sz l cs->a6 Z bD w sz (dX f l) cs
 | [],cs,h=>by simpa [a6,dX] using h
 | x :: xs,cs,h=>by
   simp only [a6,dX] at h ⊢
   obtain⟨c1,c2,h1,h2,h3,h4⟩:=h
   exact⟨c1,c2,h1,h2,aJ.b7 f hm x c1 h3,a6.b7 f hm sz xs c2 h4⟩
theorem cj.b7 (f:Nat->Nat) (hm:∀ b id,μ b=some id->bD (f b)=some id):∀ (l:List LV) (cs:List Value),cj Z μ w l cs->cj Z bD w (dX f l) cs
 | [],cs,h=>by simpa [cj,dX] using h
 | x :: xs,cs,h=>by
   simp only [cj,dX] at h ⊢
   obtain⟨c1,c2,h1,h2,h3,h4⟩:=h
   exact⟨c1,c2,h1,by rw [LV.ai7];exact h2,aJ.b7 f hm x c1 h3,cj.b7 f hm xs c2 h4⟩
end
theorem fN.b7 (f:Nat->Nat) (hm:∀ b id,μ b=some id->bD (f b)=some id) {lv:LV} {v:Value} (h:fN Z μ w lv v):fN Z bD w (lv.b7 f) v :=
 ⟨fun e=>let ⟨cs,h1,h2⟩:=h.1 (by rwa [LV.agS] at e);⟨cs,h1,aJ.b7 f hm _ _ h2⟩,fun e=>aJ.b7 f hm _ _ (h.2 (by rwa [LV.agS] at e))⟩
theorem fW.b7 (f:Nat->Nat) (hm:∀ b id,μ b=some id->bD (f b)=some id):∀ (l:List LV) (vs:List Value),fW Z μ w l vs->fW Z bD w (dX f l) vs
 | [],_,h=>h
 | _ :: xs,_,⟨v,jP,h1,h2,h3⟩=>⟨v,jP,h1,h2.b7 f hm,fW.b7 f hm xs jP h3⟩
theorem bu.b7 (f:Nat->Nat) (hm:∀ b id,μ b=some id->bD (f b)=some id) {lv:LV} {v:Value} (h:bu Z μ w lv v):bu Z bD w (lv.b7 f) v:=by
 cases lv with
 | a9 l=>obtain⟨vs,h1,h2⟩:=h;exact⟨vs,h1,fW.b7 f hm _ _ h2⟩
 | any=>trivial
 | _=>exact fN.b7 f hm h
end
def oM (bs:List bA):b9:=fun n=>if n=0 then none else bs[n-1]?
def aik (P:Program) (f:FuncId):Prop:=∃ fn,P.funcs[f]?=some fn/\fn.body.isNone=false/\(fn.name== "runtime.NumGoroutine")=false
def pC (P:Program) (f:FuncId) (args:List LV) (r:LV) (bs:List bA):Prop :=
 aik P f/\∀ (W:World) (Z0:Nat->Prop) (vs:List Value),(∀ id,Z0 id->id<W.heap.size)->fW Z0 (fun _=>none) W args vs ->
  Calls P f vs.toArray W fun e w'=>∃ v μ Z,e=.returned v/\Core W XS.no Z0 μ Z (oM bs) w'/\bu Z μ w' r v
def dZ (d k:Nat):Nat:=1000000+d*16+k
def wD (μ dV:Nat->Option Nat) (d:Nat):Nat->Option Nat:=fun b =>
 if 1000000+d*16<=b/\b<1000000+d*16+16 then(dV (b-(1000000+d*16))).or (μ b) else μ b
section
variable {W w w':World} {X:XS} {Z0 Z Zr:Nat->Prop} {μ dV:Nat->Option Nat} {H:b9} {bs:List bA} {d:Nat}
theorem Core.call (hc:Core W X Z0 μ Z H w) (hr:Core w XS.no Z dV Zr (oM bs) w') (hlen:bs.length<16) (kI:∀ blk∈bs,aK blk.vals=true)
  (hH:∀ i blk,bs[i]?=some blk->∃ m,H (dZ d (i+1))=some ⟨blk.sz,blk.vals,m⟩/\(blk.mt=false->m=false)/\μ (dZ d (i+1))=none) :
  ∃ Z',Core W X Z0 (wD μ dV d) Z' H w'/\(∀ id,Zr id->Z' id)/\(∀ id,Z id->Z' id)/\(∀ b id,μ b=some id->wD μ dV d b=some id)/\Frame Z μ w w' /\
   (∀ k id,dV k=some id->wD μ dV d (dZ d k)=some id):=by
 have hk:∀ k id,dV k=some id->∃ blk,1<=k/\k<=bs.length/\bs[k-1]?=some blk/\oM bs k=some blk:=fun k id h=>by
  obtain⟨blk,h1,_⟩:=hr.heap k id h
  have h0:k≠0:=by rintro rfl;simp [oM] at h1
  have h2:bs[k-1]?=some blk:=by simpa [oM,h0] using h1
  have:=(oe.1 h2).1
  exact⟨blk,J,J,h2,h1⟩
 have hHk:∀ k id,dV k=some id->∃ blk m,bs[k-1]?=some blk/\H (dZ d k)=some ⟨blk.sz,blk.vals,m⟩/\(blk.mt=false->m=false)/\μ (dZ d k)=none/\oM bs k=some blk/\k<16:=fun k id h=>by
  obtain⟨blk,h1,h2,h3,h4⟩:=hk k id h
  obtain⟨m,g1,g2,g3⟩:=hH (k-1) blk h3
  have:k-1+1=k:=by omega
  rw [this] at g1 g3
  exact⟨blk,m,h3,g1,g2,g3,h4,J⟩
 have mF:∀ k id,dV k=some id->wD μ dV d (dZ d k)=some id:=fun k id h=>by
  obtain⟨blk,m,_,_,_,_,_,h6⟩:=hHk k id h
  unfold wD dZ
  rw [if_pos J]
  have:1000000+d*16+k-(1000000+d*16)=k:=by omega
  rw [this,h];rfl
 have hinv:∀ b id,wD μ dV d b=some id->(∃ k,b=dZ d k/\dV k=some id)\/μ b=some id:=fun b id h=>by
  unfold wD at h
  split at h
  ·rename_i hb
   cases hq:dV (b-(1000000+d*16)) with
   | none=>rw [hq] at h;exact .inr nP
   | some id' =>
    rw [hq] at h
    simp only [Option.some_or,fv] at h
    subst h
    exact .inl ⟨b-(1000000+d*16),by unfold dZ;omega,hq⟩
  ·exact .inr h
 have hold:∀ b id,μ b=some id->wD μ dV d b=some id:=fun b id h=>by
  unfold wD
  split
  ·rename_i hb
   cases hq:dV (b-(1000000+d*16)) with
   | none=>simpa using h
   | some id' =>
    obtain⟨blk,m,_,_,_,g,_⟩:=hHk _ _ hq
    have:dZ d (b-(1000000+d*16))=b:=by unfold dZ;omega
    rw [this,h] at g;cases g
  ·exact h
 have cq:∀ k id,dV k=some id->w.heap.size<=id:=fun k id h=>(hr.own k id h).resolve_right XS.aeI
 have qT:∀ k,k<w.heap.size->w'.heap[k]?=w.heap[k]?:=fun k hk=>hr.cx.block k hk XS.aeI
 have dS:=hc.awf qT
 refine⟨fun id=>Zr id\/∃ k blk,dV k=some id/\H (dZ d k)=some blk/\blk.mt=false,⟨?_,?_,fun id h=>.inl (hr.jy id (hc.jy id h)),?_,?_,?_,?_,hc.nV,fun id h=>hold 0 id (hc.x1 id h),?_,?_,?_⟩,
  fun id h=>.inl h,fun id h=>.inl (hr.jy id h),hold,dS,mF⟩
 ·exact⟨hr.cx.os.trans hc.cx.os,hr.cx.tape.trans hc.cx.tape,hr.cx.output.trans hc.cx.output,bb hc.cx.size hr.cx.size,
   fun k hk hx=>(qT k (by have:=hc.cx.size;omega)).trans (hc.cx.block k hk hx),
   fun k hx c T fz h=>let ⟨c',g1,g2⟩:=hc.cx.vg k hx c T fz h;⟨c',(qT k (nC.1 g1).1).trans g1,g2⟩⟩
 ·rintro id (h | ⟨k,blk,h,_⟩)
  ·exact hr.lg id h
  ·exact hr.lt h
 ·rintro id (h | ⟨k,blk,h,_⟩)
  ·rcases hr.lh id h with h | h | h
   ·exact hc.lh id h
   ·exact .inr (.inl (bb hc.cx.size h))
   ·exact h.elim
  ·exact .inr (.inl (bb hc.cx.size (cq k id h)))
 ·intro b b' id h h'
  rcases hinv b id h with⟨k,rfl,h1⟩ | h1<;>rcases hinv b' id h' with⟨k',rfl,h2⟩ | h2
  ·rw [hr.inj k k' id h1 h2]
  ·have:=cq k id h1;have:=hc.lt h2;omega
  ·have:=cq k' id h2;have:=hc.lt h1;omega
  ·exact hc.inj b b' id h1 h2
 ·intro b id h
  rcases hinv b id h with⟨k,rfl,h1⟩ | h1
  ·exact .inl (bb hc.cx.size (cq k id h1))
  ·exact hc.own b id h1
 ·intro b id h hx
  rcases hinv b id h with⟨k,rfl,h1⟩ | h1
  ·have:=cq k id h1;have:=hc.nV id (.inl hx);have:=hc.cx.size;omega
  ·exact hc.x0 b id h1 hx
 ·intro b id blk h hb hm hz
  rcases hinv b id h with⟨k,rfl,h1⟩ | h1
  ·obtain⟨ui,m,_,g2,g3,_,g5,_⟩:=hHk k id h1
   rw [g2] at hb;cases hb
   simp only at hm;subst hm
   have iS:ui.mt=true:=by
    cases e:ui.mt with
    | true=>rfl
    | false=>exact absurd (g3 e) aW
   rcases hz with hz | ⟨k',blk',j1,j2,j3⟩
   ·exact hr.ja k id ui h1 g5 iS hz
   ·have:=hr.inj k k' id h1 j1
    subst this
    rw [g2] at j2;cases j2;simp at j3
  ·rcases hz with hz | ⟨k',blk',j1,j2,j3⟩
   ·rcases hr.lh id hz with h | h | h
    ·exact hc.ja b id blk h1 hb hm h
    ·have:=hc.lt h1;omega
    ·exact h.elim
   ·have:=cq k' id j1;have:=hc.lt h1;omega
 ·intro b id blk h hb hm
  rcases hinv b id h with⟨k,rfl,h1⟩ | h1
  ·exact .inr ⟨k,blk,h1,hb,hm⟩
  ·exact .inl (hr.jy id (hc.ca b id blk h1 hb hm))
 ·intro b id h
  rcases hinv b id h with⟨k,rfl,h1⟩ | h1
  ·obtain⟨ui,m,g1,g2,g3,_,g5,_⟩:=hHk k id h1
   obtain⟨aiv,j1,c,T,part,rest,j2,j3,j4⟩:=hr.heap k id h1
   rw [g5] at j1;cases j1
   exact⟨_,g2,c,T,part,rest,j2,j3,a6.kt (fun id h=>.inl h) (fun _ _=>rfl) _ _ _ (kI ui (sQ g1)) j4⟩
  ·obtain⟨blk,g1,g2⟩:=hc.heap b id h1
   exact⟨blk,g1,g2.mono (fun id h=>.inl (hr.jy id h)) hold dS (qT id (hc.lt h1))⟩
def ace (blk:bA):b9:=fun n=>if n=0 then some blk else none
def vI (id:Nat):Nat->Option Nat:=fun n=>if n=0 then some id else none
def uv (P:Program) (f:FuncId) (blk:bA) (args:List LV) (r:LV) (blk':bA):Prop :=
 aik P f/\∀ (W:World) (Z0:Nat->Prop) (vs:List Value) (i0:Nat),(∀ id,Z0 id->id<W.heap.size)->¬ Z0 i0->ug Z0 (vI i0) W blk i0->fW Z0 (vI i0) W args vs ->
  Calls P f vs.toArray W fun e w'=>∃ v μ Z,e=.returned v/\Core W (XS.one i0) Z0 μ Z (ace blk') w'/\bu Z μ w' r v
theorem Core.aCF {b i0:Nat} {blk blk':bA} (hc:Core W X Z0 μ Z H w) (hb:μ b=some i0) (hH:H b=some blk) (hm:blk.mt=true) (ta:blk'.mt=true) (l6:aK blk'.vals=true)
  (hr:Core w (XS.one i0) Z dV Zr (ace blk') w') :
  ∃ Z',Core W X Z0 μ Z' (fun k=>if k=b then some blk' else H k) w'/\(∀ id,Zr id->Z' id)/\(∀ id,Z id->Z' id)/\Frame Z μ w w'/\∀ k id,dV k=some id->k=0/\id=i0:=by
 have lE:=hr.x1 i0 rfl
 have lJ:∀ k id,dV k=some id->k=0/\id=i0:=fun k id h=>by
  obtain⟨aiv,h1,_⟩:=hr.heap k id h
  have:k=0:=by
   unfold ace at h1;split at h1
   ·assumption
   ·cases h1
  subst this
  rw [lE] at h;cases h
  exact⟨rfl,rfl⟩
 have aLq:=hc.lt hb
 have qT:∀ k,k<w.heap.size->k≠i0->w'.heap[k]?=w.heap[k]?:=fun k hk hx=>hr.cx.block k hk (fun e=>hx (XS.axY e))
 have rV:¬ Z i0:=hc.ja b i0 blk hb hH hm
 have dS:Frame Z μ w w':=by
  refine⟨fun id h=>qT id (hc.lg id h) (fun e=>rV (e ▸ h)),fun c id h cc T fz uX=>?_⟩
  by_cases e:id=i0
  ·subst e
   exact hr.cx.vg id (.inl rfl) cc T fz uX
  ·exact⟨cc,(qT id (hc.lt h) e).trans uX,rfl⟩
 refine⟨Zr,⟨?_,hr.lg,fun id h=>hr.jy id (hc.jy id h),?_,hc.inj,hc.own,hc.x0,hc.nV,hc.x1,?_,?_,?_⟩,fun _ h=>h,hr.jy,dS,lJ⟩
 ·refine⟨hr.cx.os.trans hc.cx.os,hr.cx.tape.trans hc.cx.tape,hr.cx.output.trans hc.cx.output,bb hc.cx.size hr.cx.size,fun k hk hx=>?_,fun k hx c T fz h=>?_⟩
  ·have:k≠i0:=by
    rintro rfl
    rcases hc.own b k hb with h | h
    ·omega
    ·exact hx h
   exact(qT k (by have:=hc.cx.size;omega) this).trans (hc.cx.block k hk hx)
  ·obtain⟨c',g1,g2⟩:=hc.cx.vg k hx c T fz h
   by_cases e:k=i0
   ·subst e
    obtain⟨c2,g3,g4⟩:=hr.cx.vg k (.inl rfl) c' T fz g1
    exact⟨c2,g3,g4.trans g2⟩
   ·exact⟨c',(qT k (nC.1 g1).1 e).trans g1,g2⟩
 ·intro id h
  rcases hr.lh id h with h | h | h
  ·exact hc.lh id h
  ·exact .inr (.inl (bb hc.cx.size h))
  ·exact h.elim
 ·intro c id bk h g fu hz
  rcases hr.lh id hz with hz' | hz' | hz'
  ·by_cases e:c=b
   ·subst e;rw [hb] at h;cases h;exact rV hz'
   ·rw [if_neg e] at g;exact hc.ja c id bk h g fu hz'
  ·have:=hc.lt h;omega
  ·exact hz'.elim
 ·intro c id bk h g fu
  by_cases e:c=b
  ·rw [if_pos e] at g;cases g;rw [ta] at fu;cases fu
  ·rw [if_neg e] at g;exact hr.jy id (hc.ca c id bk h g fu)
 ·intro c id h
  by_cases e:c=b
  ·subst e;rw [hb] at h;cases h
   obtain⟨bk,g1,cc,T,part,rest,g2,g3,g4⟩:=hr.heap 0 i0 lE
   simp only [ace,if_true] at g1
   cases g1
   exact⟨blk',if_pos rfl,cc,T,part,rest,g2,g3,a6.kt (fun _ h=>h) (fun _ _=>rfl) _ _ _ l6 g4⟩
  ·obtain⟨bk,g1,g2⟩:=hc.heap c id h
   have bj:id≠i0:=fun e'=>e (hc.inj c b id h (e' ▸ hb))
   exact⟨bk,by rw [if_neg e];exact g1,g2.mono hr.jy (fun _ _ h=>h) dS (qT id (hc.lt h) bj)⟩
end
end Go.Lg
namespace Go.Lg
def kZ (P:Program) (T:TypeId) (n:Nat):Prop:=∃ i,P.info? T=some i/\i.bytes=n
inductive dA (P:Program) (ρ:Operand->LV) (d:Nat):Op->LV->bA->Prop
 | make {T E l c kl kc z sz dN n m} (hT:P.underlying T=some (.slice E)) (hz:cF P E z) (hE:bK P E sz z.isAgg) (dP:z.av=sz) (hb:kZ P E dN)
   (hl:ρ l=.v (.int kl (n:Nat))) (hc:ρ c=.v (.int kc (m:Nat))) (ki:n<=m) (hm:dN*m<=281474976710656) (fc:m<=9223372036854775807) :
   dA P ρ d (.makeSlice T l c) (.ref d sz 0 n) ⟨sz,aV n z,true⟩
 | lit {T E n ps z sz} (hT:P.underlying T=some (.slice E)) (hz:cF P E z) (hE:bK P E sz z.isAgg) (dP:z.av=sz) (hn:n*sz<=16777216) (h0:0<n) (dx:0<sz)
   (hp:∀ p∈ps.toList,p.1<n/\lay (ρ p.2)=lay z/\ρ p.2≠.any/\∀ m,ρ p.2≠.a9 m) :
   dA P ρ d (.buildSlice T n ps) (.ref d sz 0 n) ⟨sz,jK (aV n z) (ps.toList.map fun p=>(p.1,ρ p.2)),true⟩
 | ain {T E sz ag} (hT:P.underlying T=some (.slice E)) (hE:bK P E sz ag):dA P ρ d (.buildSlice T 0 #[]) (.ref d sz 0 0) ⟨sz,[],true⟩
 | box {T x} (bj:ρ x≠.any/\∀ m,ρ x≠.a9 m):dA P ρ d (.box T x) (.aF d (ρ x).av 0 0) ⟨(ρ x).av,[ρ x],true⟩
 | alloc {T z} (hz:cF P T z):dA P ρ d (.alloc T) (.aF d z.av 0 0) ⟨z.av,[z],true⟩
inductive OpC (P:Program) (H:b9) (ρ:Operand->LV) (d:Nat):Op->LV->List bA->Prop
 | func {f xs as args r bs} (ha:fH H (xs.toList.map ρ) args) (hk:pC P f args r bs) (hlen:bs.length<16) (kI:∀ blk∈bs,aK blk.vals=true) :
   OpC P H ρ d (.call ⟨.value (.func f),xs,as⟩) (r.b7 (dZ d)) bs
 | bQ {t f cap xs as args r bs} (ht:ρ (.tmp t)=.bQ f cap) (ha:fH H (xs.toList.map ρ) args) (w8:aK cap=true/\∀ x∈cap,x.av=1/\x.isAgg=false) (hk:pC P f (args++cap) r bs)
   (hlen:bs.length<16) (kI:∀ blk∈bs,aK blk.vals=true) :
   OpC P H ρ d (.call ⟨.value (.tmp t),xs,as⟩) (r.b7 (dZ d)) bs
 | mk {f xs caps} (ha:fH H (xs.toList.map ρ) caps) (h1:∀ x∈caps,x.av=1/\x.isAgg=false):OpC P H ρ d (.makeFunc (.func f) #[] xs) (.bQ f caps) []
inductive lZ (P:Program) (H:b9) (ρ:Operand->LV) (d:Nat):Op->LV->List (Nat × bA)->Prop
 | pure {op r} (h:aN P H ρ op r):lZ P H ρ d op r []
 | alloc {op r blk} (h:dA P ρ d op r blk):lZ P H ρ d op r [(d,blk)]
 | call {op r bs} (h:OpC P H ρ d op r bs):lZ P H ρ d op r (bs.mapIdx fun i blk=>(dZ d (i+1),blk))
section
variable {P:Program} {W w:World} {X:XS} {Z0 Z:Nat->Prop} {μ:Nat->Option Nat} {H H':b9} {ρ:Operand->LV} {a:Act}
theorem aN.le {op:Op} {r:LV} (hle:H.le H') (h:aN P H ρ op r):aN P H' ρ op r:=by
 cases h with
 | dU hp hb hs hi hx hr hT =>
  obtain⟨m,g1,_⟩:=hle _ _ hb
  exact .dU (blk:=⟨_,_,m⟩) hp g1 hs hi hx hr hT
 | move x=>exact .move x
 | assign x=>exact .assign x
 | pick h=>exact .pick h
 | bin hx hy h=>exact .bin hx hy h
 | sh hx hy h=>exact .sh hx hy h
 | beq hx hy hT=>exact .beq hx hy hT
 | bne hx hy hT=>exact .bne hx hy hT
 | not hx=>exact .not hx
 | neg hx=>exact .neg hx
 | conv hS hD hx=>exact .conv hS hD hx
 | extract ht hr bj=>exact .extract ht hr bj
 | field hx hT hr bj=>exact .field hx hT hr bj
 | abt hp hT hr=>exact .abt hp hT hr
 | adC hp hT hk=>exact .adC hp hT hk
 | abz hp hT hc=>exact .abz hp hT hc
 | afb hx=>exact .afb hx
 | ahn hx hT hE hf hi h0 hr hp=>exact .ahn hx hT hE hf hi h0 hr hp
 | adZ hx hT hE hi h0 hm=>exact .adZ hx hT hE hi h0 hm
 | adJ hx hT hE hf hi h0 hr=>exact .adJ hx hT hE hf hi h0 hr
 | yT hT hE hf hz hp=>exact .yT hT hE hf hz hp
 | aeN hx=>exact .aeN hx
 | gD hx hT hE hi h0 hr hc=>exact .gD hx hT hE hi h0 hr hc
 | abp hx hT hE hi h0 hn=>exact .abp hx hT hE hi h0 hn
 | adA hx hT hE a b c d e f=>exact .adA hx hT hE a b c d e f
 | wj hx hT hE a b c d e f g=>exact .wj hx hT hE a b c d e f g
 | afJ hx hT hE a b c d e f g i=>exact .afJ hx hT hE a b c d e f g i
 | abK hx has hT=>exact .abK hx has hT
 | ac4 hx has hT=>exact .ac4 hx has hT
 | acK hx has hT=>exact .acK hx has hT
 | adg hx has hT=>exact .adg hx has hT
 | ad8 hx has hT=>exact .ad8 hx has hT
 | adN hx hT hE a b c d e f g=>exact .adN hx hT hE a b c d e f g
 | min2 hx hy=>exact .min2 hx hy
 | max2 hx hy=>exact .max2 hx hy
 | ahz hx hT hi h0 hb=>exact .ahz hx hT hi h0 hb
 | adq hf uE hb hn he hx hr h1 h2=>exact .adq hf uE hb hn he hx hr h1 h2
 | eqN hx hy hT=>exact .eqN hx hy hT
 | abX hx hy hT=>exact .abX hx hy hT
 | build hT hz hp=>exact .build hT hz hp
theorem lZ.le {op:Op} {r:LV} {d:Nat} {fr:List (Nat × bA)} (hle:H.le H') (h:lZ P H ρ d op r fr):lZ P H' ρ d op r fr:=by
 cases h with
 | pure h=>exact .pure (h.le hle)
 | alloc h=>exact .alloc h
 | call h =>
  refine .call ?_
  cases h with
  | func ha hk hlen kI=>exact .func (fH.le hle ha) hk hlen kI
  | bQ ht ha w8 hk hlen kI=>exact .bQ ht (fH.le hle ha) w8 hk hlen kI
  | mk ha h1=>exact .mk (fH.le hle ha) h1
theorem agP (hc:Core W X Z0 μ Z H w):∀ (xs:List Operand) (args:List LV),fH H (xs.map ρ) args->(∀ x∈xs,bu Z μ w (ρ x) (a.eval x)) ->
  fW Z (fun _=>none) w args (xs.map a.eval)
 | [],_,h,_=>by cases h;rfl
 | x :: xs,_,h,hr=>by
   cases h with
   | cons h t =>
    exact⟨_,_,rfl,da.abf hc h (hr x aW),agP hc xs _ t (fun y hy=>hr y (by simp [hy]))⟩
theorem fW.append:∀ (l m:List LV) (vs us:List Value),fW Z μ w l vs->fW Z μ w m us->fW Z μ w (l++m) (vs++us)
 | [],m,vs,us,h,h'=>by cases h;exact h'
 | x :: xs,m,_,us,⟨v,jP,e,h1,h2⟩,h'=>by
   subst e
   exact⟨v,jP++us,by simp,h1,fW.append xs m jP us h2 h'⟩
theorem awv {bD:Nat->Option Nat}:∀ (l:List LV) (cs:List Value),aK l=true->(∀ x∈l,x.av=1/\x.isAgg=false)->a6 Z μ w 1 l cs->fW Z bD w l cs
 | [],cs,_,_,h=>by simp only [a6] at h;exact h
 | x :: xs,cs,hp,h1,h=>by
   simp only [a6] at h
   obtain⟨c1,c2,rfl,h2,h3,h4⟩:=h
   match c1,h2 with
   | [y],_ =>
    refine⟨y,c2,rfl,⟨fun e=>?_,fun _=>aJ.kt (fun _ h=>h) (fun _ _=>rfl) _ _ (pure_cons hp).1 h3⟩,awv xs c2 (pure_cons hp).2 (fun z hz=>h1 z (by simp [hz])) h4⟩
    rw [(h1 x aW).2] at e;cases e
theorem avM {bD:Nat->Option Nat}:∀ (l:List LV) (vs:List Value),aK l=true->(∀ x∈l,x.av=1/\x.isAgg=false)->fW Z μ w l vs->a6 Z bD w 1 l vs
 | [],vs,_,_,h=>by simp only [a6];exact h
 | x :: xs,_,hp,h1,⟨v,jP,e,h2,h3⟩=>by
   subst e
   simp only [a6]
   exact⟨[v],jP,rfl,rfl,aJ.kt (fun _ h=>h) (fun _ _=>rfl) _ _ (pure_cons hp).1 (h2.2 (h1 x aW).2),avM xs jP (pure_cons hp).2 (fun z hz=>h1 z (by simp [hz])) h3⟩
theorem aim {f:FuncId} {args:Array Value} (h:aik P f):(callFunc f args).run P w=.ok (.enter f args) w:=by
 obtain⟨fn,h1,h2,h3⟩:=h
 simp only [callFunc,Sem.run_bind,run_program,Result.andThen_ok,h1,h3,adn,if_false,h2,Sem.run_pure]
theorem akA (z:Array Value) (hz:0<z.size):∀ n,(madeCells z (n*z.size)).toList=(aV n z.toList).flatten
 | 0=>by simp [madeCells]
 | n+1=>by
   have ih:=akA z hz n
   simp only [madeCells,Array.toList_map,Array.toList_range] at ih ⊢
   rw [iK,List.range_add,List.map_append,ih,List.replicate_succ',arL,List.map_map]
   congr 1
   simp only [acO,List.flatten_nil,qo]
   apply yf
   ·simp
   ·intro j h1 h2
    simp at h1
    simp [ir h1,h1]
theorem aGd {sz:Nat} {z:LV} {ch:List Value} (h:aJ Z μ w z ch) (hl:ch.length=sz) (n m:Nat) (ki:n<=m) :
  ∃ part rest,(aV m ch).flatten=part++rest/\a6 Z μ w sz (aV n z) part:=by
 refine⟨(aV n ch).flatten,(aV (m-n) ch).flatten,?_,a6.replicate h hl n⟩
 rw [<-arL,List.replicate_append_replicate,Nat.add_sub_cancel' ki]
theorem aCr {dV:Nat->Option Nat} {d:Nat} {b:Nat} (h:wD μ dV d b≠none):μ b≠none\/∃ k,b=dZ d k/\dV k≠none:=by
 unfold wD at h
 split at h
 ·cases hq:dV (b-(1000000+d*16)) with
  | none=>rw [hq] at h;exact .inl nP
  | some id=>exact .inr ⟨b-(1000000+d*16),by unfold dZ;omega,by rw [hq];simp⟩
 ·exact oB
structure ag6 (W:World) (X:XS) (Z0:Nat->Prop) (μ:Nat->Option Nat) (Z:Nat->Prop) (H:b9) (w:World) (r:LV) (fr:List (Nat × bA)) (v:Value) (w':World) (bD:Nat->Option Nat) (Z':Nat->Prop):Prop where
 core:Core W X Z0 bD Z' H w'
 hz:∀ id,Z id->Z' id
 hm:∀ b id,μ b=some id->bD b=some id
 hf:Frame Z μ w w'
 rep:bu Z' bD w' r v
 new:∀ b,bD b≠none->μ b≠none\/b∈fr.map (·.1)
theorem av1 {f:FuncId} {vs:Array Value} {d:Nat} {args:List LV} {r:LV} {bs:List bA} {o:Oper} {K:Act->World->Prop} {Q:Exit->Act->World->Prop}
  (hc:Core W X Z0 μ Z H w) (hk:pC P f args r bs) (hlen:bs.length<16) (kI:∀ blk∈bs,aK blk.vals=true)
  (hargs:fW Z (fun _=>none) w args vs.toList)
  (dS:∀ i blk,bs[i]?=some blk->∃ m,H (dZ d (i+1))=some ⟨blk.sz,blk.vals,m⟩/\(blk.mt=false->m=false)/\μ (dZ d (i+1))=none)
  (fI:(execOp a.eval o).run P w=.ok (.enter f vs) w)
  (hK:∀ v w' bD Z',ag6 W X Z0 μ Z H w (r.b7 (dZ d)) (bs.mapIdx fun i blk=>(dZ d (i+1),blk)) v w' bD Z'->K (a.put o.dst v) w'):o.wp P a w K Q:=by
 unfold Oper.wp
 rw [fI,Oper.upon_enter]
 have:=hk.2 w Z vs.toList hc.lg hargs
 rw [Array.toArray_toList] at this
 refine this.mono ?_
 rintro e w' ⟨v,dV,Zr,rfl,hr,hv⟩
 obtain⟨Z',h1,h2,h3,h4,h5,h6⟩:=hc.call hr hlen kI dS
 refine hK v w' _ Z' ⟨h1,h3,h4,h5,?_,?_⟩
 ·exact(hv.mono h2 (fun _ _ h=>h) ⟨fun _ _=>rfl,(Frame.refl Zr dV w').m⟩).b7 (dZ d) h6
 ·intro b hb
  rcases aCr hb with h | ⟨k,rfl,h⟩
  ·exact oB
  ·right
   obtain⟨id,hid⟩:=ak3.1 h
   obtain⟨blk,g1,_⟩:=hr.heap k id hid
   have h0:k≠0:=by rintro rfl;simp [oM] at g1
   have g2:bs[k-1]?=some blk:=by simpa [oM,h0] using g1
   simp only [ga,awI]
   refine⟨_,⟨k-1,(oe.1 g2).1,rfl⟩,?_⟩
   show dZ d (k-1+1)=dZ d k
   congr 1;omega
theorem asd {sz:Nat}:∀ (l:List LV) (cs:List Value),(∀ x∈l,x.av=sz)->a6 Z μ w sz l cs->cj Z μ w l cs
 | [],cs,_,h=>by simpa [a6,cj] using h
 | x :: xs,cs,hx,h=>by
   simp only [a6,cj] at h ⊢
   obtain⟨c1,c2,h1,h2,h3,h4⟩:=h
   exact⟨c1,c2,h1,by rw [h2,hx x aW],h3,asd xs c2 (fun y hy=>hx y (by simp [hy])) h4⟩
theorem aw7 {sz:Nat}:∀ (l:List LV) (cs:List Value),(∀ x∈l,x.av=sz)->cj Z μ w l cs->a6 Z μ w sz l cs
 | [],cs,_,h=>by simpa [a6,cj] using h
 | x :: xs,cs,hx,h=>by
   simp only [a6,cj] at h ⊢
   obtain⟨c1,c2,h1,h2,h3,h4⟩:=h
   exact⟨c1,c2,h1,by rw [h2,hx x aW],h3,aw7 xs c2 (fun y hy=>hx y (by simp [hy])) h4⟩
theorem atU (x:Nat × Bool):∀ n,nu (aV n x)=n*x.1
 | 0=>by simp [nu]
 | n+1=>by simp [anm,nu,atU x n,iK];omega
theorem apN:∀ (qs:List (Nat × LV)) (zs:List LV) (n:Nat × Bool),(∀ x∈zs,lay x=n)->(∀ q∈qs,lay q.2=n)->∀ x∈jK zs qs,lay x=n
 | [],zs,n,h,_=>h
 | q :: qs,zs,n,h,hq=>by
   refine apN qs (zs.set q.1 q.2) n (fun x hx=>?_) (fun q' h'=>hq q' (by simp [h']))
   rcases List.mem_or_eq_of_mem_set hx with hx | rfl
   ·exact h x hx
   ·exact hq q aW
theorem aEI {T E:TypeId} {n:Nat} {ps:Array (Nat × Operand)} {z:LV} {sz:Nat} (hT:P.underlying T=some (.slice E)) (hz:cF P E z) (hE:bK P E sz z.isAgg) (dP:z.av=sz)
  (hn:n*sz<=16777216) (h0:0<n) (dx:0<sz) (hp:∀ p∈ps.toList,p.1<n/\lay (ρ p.2)=lay z/\ρ p.2≠.any/\∀ m,ρ p.2≠.a9 m)
  (cO:∀ p∈ps.toList,bu Z μ w (ρ p.2) (a.eval p.2)) :
  ∃ cs,(Instr.buildSlice T n (ps.map fun(i,x)=>(i,a.eval x))).run P w=.ok (.slice (some ⟨w.heap.size,0,none⟩) n n) (w.alloc (.cells cs E)) /\
   a6 Z μ w sz (jK (aV n z) (ps.toList.map fun p=>(p.1,ρ p.2))) cs.toList:=by
 obtain⟨i,zv,z1,z2,z3,z4⟩:=hz
 have bj:=LV.dT z3
 have bT:i.size=sz:=by have:=hE.1;rw [z1] at this;simpa using this
 have nY:=aJ.len (z4 Z μ w) bj
 have ajO:zv.cells.size=sz:=by rw [<-nM,nY,dP]
 have aBd:(madeCells zv.cells (n*sz)).toList=(aV n zv.cells.toList).flatten:=by
  have:=akA zv.cells J n
  rwa [ajO] at this
 have gC:a6 Z μ w sz (aV n z) (madeCells zv.cells (n*sz)).toList:=by
  rw [aBd];exact a6.replicate (z4 Z μ w) (by rw [nY,dP]) n
 have hcz:∀ x∈aV n z,x.av=sz:=fun x hx=>by rw [(uc.1 hx).2,dP]
 obtain⟨cs,f1,f2⟩:=ais (Z:=Z) (μ:=μ) (w:=w) (ls:=aV n (lay z)) (fun k=>some (k*sz,sz))
  (fun k m hk=>by
   obtain⟨h1,h2⟩:=oe.1 hk
   simp at h1 h2
   subst h2
   rw [List.take_replicate,atU,nt J]
   simp [lay,dP])
  (ps.toList.map fun p=>(p.1,a.eval p.2)) (ps.toList.map fun p=>(p.1,ρ p.2)) (aV n z) (madeCells zv.cells (n*sz)) aW (asd _ _ hcz gC) aW
  (fun j p q ju tO=>by
   simp only [gZ,zc] at ju tO
   obtain⟨x,hx,rfl⟩:=ju
   obtain⟨y,hy,rfl⟩:=tO
   rw [hx] at hy;cases hy
   have hm:=sQ hx
   obtain⟨_,_,h3,h4⟩:=hp x hm
   exact⟨bu.yi h4 h3 (cO x hm),h3⟩)
  (fun q hq=>by
   simp only [ga] at hq
   obtain⟨x,hx,rfl⟩:=hq
   obtain⟨h1,h2,_⟩:=hp x hx
   exact⟨lay z,by simp [h1],h2⟩)
 refine⟨cs,?_,aw7 _ _ (fun x hx=>?_) f2⟩
 ·have zb:(zeroValue E).run P w=.ok zv w:=by simp [zeroValue,typeInfo,z1,z2]
  have hso:(sizeOf E).run P w=.ok sz w:=run_sizeOf hE
  have hns:¬ n*sz=0:=by
   intro h;rcases ajU.1 h with h | h<;>omega
  have hle:¬ 2 ^ 24<n*sz:=by
   have:(2:Nat) ^ 24=16777216:=by decide
   omega
  have oT:(afd (fun x=>match x with | (i,x)=>(i,a.eval x)) ps).toList=ps.toList.map fun p=>(p.1,a.eval p.2):=by simp
  simp only [Instr.buildSlice,Sem.run_bind,run_underlying hT,Result.andThen_ok,hso,gt_iff_lt,hle,if_false,Sem.run_ite,hns,zb,Sem.run_pure,oT]
  have hmk:(av2 (n*sz)).map (fun x=>zv.cells[x % zv.cells.size]!)=madeCells zv.cells (n*sz):=rfl
  rw [hmk,f1]
  rfl
 ·have hb:=apN (ps.toList.map fun p=>(p.1,ρ p.2)) (aV n z) (lay z) (fun x hx=>by rw [(uc.1 hx).2]) (fun q hq=>by
   simp only [ga] at hq
   obtain⟨y,hy,rfl⟩:=hq
   exact(hp y hy).2.1) x hx
  have:=congrArg Prod.fst hb
  simpa [lay,dP] using this
theorem amH (z:Array Value) (n:Nat):(Builtin.zeroCells z n).toList=(aV n z.toList).flatten:=by
 have hl:((aV n z.toList).flatten).length=n*z.size:=by
  induction n with
  | zero=>simp
  | succ n ih=>simp only [anm,acO,jS,ih,iK];simp;omega
 refine yf (by rw [hl];simp [Builtin.zeroCells]) (fun i h1 h2=>?_)
 have hi:i<n*z.size:=by rw [hl] at h2;exact h2
 have hz:0<z.size:=Nat.pos_of_ne_zero fun e=>by rw [e] at hi;simp at hi
 have key:∀ (n i:Nat),i<n*z.size->(aV n z.toList).flatten[i]?=z.toList[i % z.size]?:=by
  intro n
  induction n with
  | zero=>intro i h;simp at h
  | succ n ih =>
   intro i h
   rw [anm,acO]
   rcases kD i z.size with h3 | h3
   ·rw [aeo (by simpa using h3),ir h3]
   ·rw [aeP (by simpa using h3)]
    have e:z.toList.length=z.size:=by simp
    rw [e,ih (i-z.size) (by rw [iK] at h;omega),<-Nat.mod_eq_sub_mod h3]
 have h3:=key n i hi
 rw [bY h2] at h3
 have hm:i % z.size<z.size:=Nat.mod_lt _ hz
 rw [bY (by simpa using hm)] at h3
 simp only [fv] at h3
 rw [h3]
 simp [Builtin.zeroCells,hm]
theorem azw {P:Program} {w:World} (T U E ty:TypeId) (k kl:IntKind) (i:TypeInfo) (z:Value) (ht:P.underlying T=some (.slice E)) (hu:P.underlying U=some (.int k)) (hi:P.info? E=some i) (hz:i.zero=some z) (n:Nat)
  (h0:0<n) (dx:0<i.size) (gv:(n:Int)<=4611686018427387904) (je:n*i.bytes<=140737488355328) (qP:Builtin.nextslicecap n 0*i.bytes<=281474976710656) :
  (Builtin.append_ #[T,U] ty #[.slice none 0 0,.int kl (n:Int)]).run P w =
   .ok (.slice (some ⟨w.heap.size,0,none⟩) n (grownCap w n 0 E))
    (w.drew.alloc (.cells (Builtin.zeroCells z.cells n++Builtin.zeroCells z.cells (grownCap w n 0 E-n)) E)):=by
 have hn:¬ (n<=0):=by omega
 have iy:¬ n=0:=by omega
 have hw:IntKind.i64.wrap (n:Int)=(n:Int):=by simp [IntKind.wrap,show IntKind.i64.bits=64 from rfl];omega
 have h1:¬ ((n:Int)<0):=by omega
 have h2:¬ (281474976710656<(n:Int)*(i.bytes:Int)):=by
  have h5:((n*i.bytes:Nat):Int)<=140737488355328:=by omega
  rw [ac8] at h5
  omega
 have ali:¬ (9223372036854775807<(n:Int)):=by omega
 have amh:¬ (281474976710656<Builtin.nextslicecap n 0*i.bytes):=by omega
 have bT:¬ (i.size=0):=by omega
 simp [Builtin.append_,run_underlying ht,run_underlying hu,sizeOf,typeInfo,zeroValue,hi,hz,hn,iy,hw,h1,h2,ali,amh,asInt,asIntOf,Question.forced,Builtin.firstCells,newRow,grownCap]
 intro h
 rcases ajU.1 h with h | h<;>omega
theorem aDd {op:Op} {r:LV} {d:Nat} {blk:bA} (hc:Core W X Z0 μ Z H w) (ho:dA P ρ d op r blk) (cO:∀ x∈op.operands,bu Z μ w (ρ x) (a.eval x))
  {m:Bool} (hH:H d=some ⟨blk.sz,blk.vals,m⟩) (zG:μ d=none) (dst:Option Tmp) (ty:TypeId) (pos:String) (after:Array Edge) (g:Option (Nat × Bool)) :
  ∃ v w' bD Z',(execOp a.eval ⟨dst,op,ty,pos,after,g⟩).run P w=.ok (.value v) w'/\ag6 W X Z0 μ Z H w r [(d,blk)] v w' bD Z':=by
 have mF:∀ id b,pX μ d id b≠none->μ b≠none\/b∈[(d,blk)].map (·.1):=fun id b h=>by
  unfold pX at h
  split at h
  ·subst_vars;right;simp
  ·exact oB
 cases ho with
 | @make T E l c kl kc z sz dN n cp hT hz hE dP hb hl fx ki jI fc =>
  obtain⟨i,zv,z1,z2,z3,z4⟩:=hz
  have e1:=cO l ck;rw [hl] at e1;have e1:=e1.fk
  have e2:=cO c ck;rw [fx] at e2;have e2:=e2.fk
  have bj:=LV.dT z3
  have bT:i.size=sz:=by have:=hE.1;rw [z1] at this;simpa using this
  have je:i.bytes=dN:=by obtain⟨i',g1,g2⟩:=hb;rw [z1] at g1;cases g1;exact g2
  have nY:=aJ.len (z4 Z μ w) bj
  have ajO:zv.cells.size=sz:=by rw [<-nM,nY,dP]
  have hr:=run_make (P:=P) w T E i zv hT z1 z2 kl kc (n:Int) (cp:Int) J J (by rw [je];omega) J
  simp only [Int.toNat_natCast,bT] at hr
  obtain⟨part,rest,p1,p2⟩:=aGd (sz:=sz) (z4 Z μ w) (by rw [nY,dP]) n cp ki
  have akL:(madeCells zv.cells (cp*sz)).toList=part++rest:=by
   by_cases kp:0<zv.cells.size
   ·rw [<-ajO,akA _ kp,p1]
   ·have:sz=0:=by omega
    rw [<-p1,this]
    have h0:zv.cells.toList=[]:=by
     apply oC;rw [nM];omega
    simp [madeCells,h0]
  obtain⟨Z',h1,h2,h3,h4,h5,h6⟩:=hc.push hH zG (sf.alloc w (.cells (madeCells zv.cells (cp*sz)) E)) akL p2
  refine⟨_,_,_,Z',by simp only [execOp,e1,e2];rw [Sem.run_bind,hr];rfl,h1,h2,h3,h4,⟨by simp [LV.isAgg],fun _=>?_⟩,mF _⟩
  simp only [aJ]
  exact .inr ⟨w.heap.size,cp,_,E,(0,0),by simp,h5,ki,h6,by rw [size_madeCells];simp⟩
 | @lit T E n ps z sz hT hz hE dP hn h0 dx hp =>
  have hpm:∀ p∈ps.toList,bu Z μ w (ρ p.2) (a.eval p.2):=fun p hp=>cO p.2 (by simp [Op.operands];exact⟨p.1,by simpa using hp⟩)
  obtain⟨cs,r1,r2⟩:=aEI (P:=P) (Z:=Z) (μ:=μ) (w:=w) (a:=a) hT hz hE dP hn h0 dx hp hpm
  obtain⟨Z',h1,h2,h3,h4,h5,h6⟩:=hc.push hH zG (sf.alloc w (.cells cs E)) (qo _).symm r2
  refine⟨_,_,_,Z',by simp only [execOp];rw [Sem.run_bind,r1];rfl,h1,h2,h3,h4,⟨by simp [LV.isAgg],fun _=>?_⟩,mF _⟩
  simp only [aJ]
  have hl:=a6.length _ _ r2
  have oN:(jK (aV n z) (ps.toList.map fun p=>(p.1,ρ p.2))).length=n:=by
   have:∀ (qs:List (Nat × LV)) (zs:List LV),(jK zs qs).length=zs.length:=fun qs=>by
    induction qs with
    | nil=>intro zs;rfl
    | cons q qs ih=>intro zs;exact(ih _).trans aW
   rw [this];simp
  exact .inr ⟨w.heap.size,n,cs,E,(0,0),by simp,h5,bF _,h6,by rw [<-nM,hl,oN];simp⟩
 | @ain T E sz ag hT hE =>
  obtain⟨Z',h1,h2,h3,h4,h5,h6⟩:=hc.push hH zG (sf.alloc w (.cells #[] E)) (part:=[]) (rest:=[]) rfl (by simp [a6])
  refine⟨_,_,_,Z',by simp [execOp,Instr.buildSlice,run_underlying hT,run_sizeOf hE,Instr.fill,newRow,show (afd (fun _:Nat=>(default:Value)) (av2 0))=#[] from by apply wa;simp];exact rfl,h1,h2,h3,h4,⟨by simp [LV.isAgg],fun _=>?_⟩,mF _⟩
  simp only [aJ]
  exact .inr ⟨w.heap.size,0,#[],E,(0,0),by rw [sb],h5,bF _,h6,by simp⟩
 | @box T x bj =>
  have e1:=cO x ck
  obtain⟨c1,c2,_,_⟩:=(bu.yi bj.2 bj.1 e1).cells bj.1
  have wv:a6 Z μ w (ρ x).av [ρ x] (a.eval x).cells.toList:=by
   simp only [a6]
   exact⟨_,[],by simp,by simp [c2],c1,rfl⟩
  obtain⟨Z',h1,h2,h3,h4,h5,h6⟩:=hc.push (T:=T) (c:=(a.eval x).cells) hH zG (sf.alloc w _) (qo _).symm wv
  refine⟨_,_,_,Z',by simp only [execOp,Instr.box,newVar,newRow,Sem.run_bind,run_newObj,Result.andThen_ok,Sem.run_pure];rfl,h1,h2,h3,h4,⟨by simp [LV.isAgg],fun _=>?_⟩,mF _⟩
  simp only [aJ]
  exact⟨w.heap.size,by simp,h5⟩
 | @alloc T z hz =>
  obtain⟨i,zv,z1,z2,z3,z4⟩:=hz
  have bj:=LV.dT z3
  have nY:=aJ.len (z4 Z μ w) bj
  have wv:a6 Z μ w z.av [z] zv.cells.toList:=by
   simp only [a6]
   exact⟨_,[],by simp,by simpa using nY,z4 Z μ w,rfl⟩
  obtain⟨Z',h1,h2,h3,h4,h5,h6⟩:=hc.push (T:=T) (c:=zv.cells) hH zG (sf.alloc w _) (qo _).symm wv
  have zb:(zeroValue T).run P w=.ok zv w:=by simp [zeroValue,typeInfo,z1,z2]
  refine⟨_,_,_,Z',by simp only [execOp,Instr.alloc,newVar,newRow,Sem.run_bind,zb,run_newObj,Result.andThen_ok,Sem.run_pure];rfl,h1,h2,h3,h4,⟨by simp [LV.isAgg],fun _=>?_⟩,mF _⟩
  simp only [aJ]
  exact⟨w.heap.size,by simp,h5⟩
theorem aGt {op:Op} {r:LV} {d:Nat} {bs:List bA} (hc:Core W X Z0 μ Z H w) (ho:OpC P H ρ d op r bs) (cO:∀ x∈op.operands,bu Z μ w (ρ x) (a.eval x))
  (dS:∀ i blk,bs[i]?=some blk->∃ m,H (dZ d (i+1))=some ⟨blk.sz,blk.vals,m⟩/\(blk.mt=false->m=false)/\μ (dZ d (i+1))=none)
  (dst:Option Tmp) (ty:TypeId) (pos:String) (after:Array Edge) (g:Option (Nat × Bool)) {K:Act->World->Prop} {Q:Exit->Act->World->Prop}
  (hK:∀ v w' bD Z',ag6 W X Z0 μ Z H w r (bs.mapIdx fun i blk=>(dZ d (i+1),blk)) v w' bD Z'->K (a.put dst v) w') :
  (⟨dst,op,ty,pos,after,g⟩:Oper).wp P a w K Q:=by
 cases ho with
 | @func f xs as args r bs ha hk hlen kI =>
  have hargs:=agP (a:=a) hc xs.toList args ha (fun x hx=>cO x (by simp [Op.operands,Call.operands];right;simpa using hx))
  refine av1 (vs:=xs.map a.eval) hc hk hlen kI (by simpa using hargs) dS ?_ hK
  simp only [execOp,resolve,Act.eval,Deferred.ofValue,Sem.run_bind,Sem.run_pure,Result.andThen_ok,invoke]
  have:=aim (P:=P) (w:=w) (args:=xs.map a.eval) hk.1
  simpa using this
 | @bQ t f cap xs as args r bs ht ha w8 hk hlen kI =>
  have hargs:=agP (a:=a) hc xs.toList args ha (fun x hx=>cO x (by simp [Op.operands,Call.operands];right;simpa using hx))
  have e1:=cO (.tmp t) ll
  rw [ht] at e1
  have e2:=e1.2 rfl
  simp only [aJ] at e2
  obtain⟨cv,q1,q2,_⟩:=e2
  simp only [gj,and_true] at q1
  have tB:=awv (bD:=fun _=>none) cap cv.toList w8.1 w8.2 q2
  refine av1 (vs:=xs.map a.eval++cv) hc hk hlen kI (by simpa using fW.append _ _ _ _ hargs tB) dS ?_ hK
  have:=aim (P:=P) (w:=w) (args:=xs.map a.eval++cv) hk.1
  simp only [execOp,resolve,q1,Deferred.ofValue,Sem.run_bind,Sem.run_pure,Result.andThen_ok,invoke]
  simpa using this
 | @mk f xs caps ha h1 =>
  have hargs:=agP (a:=a) hc xs.toList caps ha (fun x hx=>cO x (by simp [Op.operands];simpa using hx))
  have hp:=(fH.lay ha).2
  have fI:(execOp a.eval ⟨dst,.makeFunc (.func f) #[] xs,ty,pos,after,g⟩).run P w=.ok (.value (.func (.func f) #[] (xs.map a.eval))) w:=by
   simp [execOp,Instr.makeFunc]
  unfold Oper.wp
  rw [fI,Oper.upon_value]
  refine hK _ w μ Z ⟨hc,fun _ h=>h,fun _ _ h=>h,Frame.refl _ _ _,⟨by simp [LV.isAgg],fun _=>?_⟩,fun b h=>.inl h⟩
  simp only [aJ]
  exact⟨_,rfl,avM caps _ hp h1 (by simpa using hargs),hp⟩
theorem lZ.sound {op:Op} {r:LV} {d:Nat} {fr:List (Nat × bA)} (hc:Core W X Z0 μ Z H w) (ho:lZ P H ρ d op r fr) (cO:∀ x∈op.operands,bu Z μ w (ρ x) (a.eval x))
  (dS:∀ b blk,(b,blk)∈fr->∃ m,H b=some ⟨blk.sz,blk.vals,m⟩/\(blk.mt=false->m=false)/\μ b=none)
  (dst:Option Tmp) (ty:TypeId) (pos:String) (after:Array Edge) (g:Option (Nat × Bool)) {K:Act->World->Prop} {Q:Exit->Act->World->Prop}
  (hK:∀ v w' bD Z',ag6 W X Z0 μ Z H w r fr v w' bD Z'->K (a.put dst v) w') :
  (⟨dst,op,ty,pos,after,g⟩:Oper).wp P a w K Q:=by
 cases ho with
 | pure h =>
  obtain⟨v,h1,h2⟩:=h.sound cO hc.heap dst ty pos after g
  unfold Oper.wp
  rw [h1,Oper.upon_value]
  exact hK v w μ Z ⟨hc,fun _ h=>h,fun _ _ h=>h,Frame.refl _ _ _,h2,fun b h=>.inl h⟩
 | @alloc blk h =>
  obtain⟨m,g1,_,g3⟩:=dS d blk aW
  obtain⟨v,w',bD,Z',h1,h2⟩:=aDd hc h cO g1 g3 dst ty pos after g
  unfold Oper.wp
  rw [h1,Oper.upon_value]
  exact hK v w' bD Z' h2
 | @call bs h =>
  refine aGt hc h cO (fun i blk hb=>dS _ blk ?_) dst ty pos after g hK
  rw [awI]
  obtain⟨h1,h2⟩:=oe.1 hb
  exact⟨i,h1,by rw [h2]⟩
end
end Go.Lg
namespace Go.Lg
mutual
def LV.kill (b:Nat):LV->LV
 | .ref c sz off len=>if c=b then .any else .ref c sz off len
 | .jY c sz off len cap=>if c=b then .any else .jY c sz off len cap
 | .aF c sz i o=>if c=b then .any else .aF c sz i o
 | .agg l=>.agg (bH b l)
 | .a9 l=>.a9 (bH b l)
 | .any=>.any
 | .v x=>.v x
 | .list sz l=>.list sz l
 | .ba c=>.ba c
 | .bQ f l=>.bQ f l
def bH (b:Nat):List LV->List LV
 | []=>[]
 | x :: xs=>x.kill b :: bH b xs
end
mutual
theorem LV.atM (b:Nat):∀ (x:LV),(x.kill b).av=x.av
 | .any=>rfl | .v _=>rfl | .list ..=>rfl | .ba _=>rfl | .bQ ..=>rfl
 | .a9 _=>rfl
 | .ref c sz off len=>by simp only [LV.kill];split<;>rfl
 | .jY c sz off len cap=>by simp only [LV.kill];split<;>rfl
 | .aF c sz i o=>by simp only [LV.kill];split<;>rfl
 | .agg l=>by simp only [LV.kill,LV.av,ap3 b l]
theorem ap3 (b:Nat):∀ (l:List LV),cL (bH b l)=cL l
 | []=>rfl
 | x :: xs=>by simp only [bH,cL,LV.atM b x,ap3 b xs]
end
theorem LV.aqv (b:Nat) (x:LV):(x.kill b).isAgg=x.isAgg:=by
 cases x with
 | ref c sz off len=>simp only [LV.kill];split<;>rfl
 | jY c sz off len cap=>simp only [LV.kill];split<;>rfl
 | aF c sz i o=>simp only [LV.kill];split<;>rfl
 | _=>rfl
mutual
theorem LV.nz (b:Nat):∀ (x:LV),x.pure=true->x.kill b=x
 | .any,_=>rfl
 | .v _,_=>rfl
 | .list sz l,_=>rfl
 | .agg l,h=>by simp only [LV.kill,akq b l (by simpa [LV.pure] using h)]
 | .ref ..,h=>by simp [LV.pure] at h
 | .jY ..,h=>by simp [LV.pure] at h
 | .aF ..,h=>by simp [LV.pure] at h
 | .ba c,_=>rfl
 | .bQ g l,_=>rfl
 | .a9 l,h=>by simp [LV.pure] at h
theorem akq (b:Nat):∀ (l:List LV),aK l=true->bH b l=l
 | [],_=>rfl
 | x :: xs,h=>by simp only [bH,LV.nz b x (pure_cons h).1,akq b xs (pure_cons h).2]
end
section
variable {Z Z':Nat->Prop} {μ bD:Nat->Option Nat} {w w':World} {b:Nat}
mutual
theorem aJ.kill (hz:∀ id,Z id->Z' id) (hm:∀ c id,c≠b->μ c=some id->bD c=some id) (hf:Frame Z μ w w') :
  ∀ (lv:LV) (cs:List Value),aJ Z μ w lv cs->aJ Z' bD w' (lv.kill b) cs
 | .any,_,h=>by simpa [aJ,LV.kill] using h
 | .v x,cs,h=>by simpa [aJ,LV.kill] using h
 | .list sz l,cs,h=>by
   have hp:(LV.list sz l).pure=true:=by
    simp only [aJ] at h
    obtain⟨a,len,cap,_,_,_,_,h9⟩:=h
    simpa [LV.pure] using h9
   exact aJ.kt hz hf.z _ _ hp h
 | .agg l,cs,h=>by
   simp only [aJ,LV.kill] at h ⊢
   exact cj.kill hz hm hf l cs h
 | .ref c sz off len,cs,h=>by
   simp only [LV.kill]
   split
   ·exact fun u hu=>aJ.one _ _ h u hu
   ·rename_i bj
    simp only [aJ] at h ⊢
    rcases h with h | ⟨id,cap,c',T,fz,h1,h2,h3,h4,h5⟩
    ·exact oB
    obtain⟨c2,h6,h7⟩:=hf.m c id h2 c' T fz h4
    exact .inr ⟨id,cap,c2,T,fz,h1,hm _ _ bj h2,h3,h6,J⟩
 | .jY c sz off len cap,cs,h=>by
   simp only [LV.kill]
   split
   ·exact fun u hu=>aJ.one _ _ h u hu
   ·rename_i bj
    simp only [aJ] at h ⊢
    obtain⟨id,c',T,fz,h1,h2,h3,h4,h5⟩:=h
    obtain⟨c2,h6,h7⟩:=hf.m c id h2 c' T fz h4
    exact⟨id,c2,T,fz,h1,hm _ _ bj h2,h3,h6,J⟩
 | .aF c sz i o,cs,h=>by
   simp only [LV.kill]
   split
   ·exact fun u hu=>aJ.one _ _ h u hu
   ·rename_i bj
    simp only [aJ] at h ⊢
    obtain⟨id,h1,h2⟩:=h
    exact⟨id,h1,hm _ _ bj h2⟩
 | .ba c,cs,h=>by
   have hp:(LV.ba c).pure=true:=by
    simp only [aJ] at h
    obtain⟨blk,off,cc,T,fz,part,rest,_,_,_,_,_,_,h7⟩:=h
    simpa [LV.pure] using h7
   exact aJ.kt hz hf.z _ _ hp h
 | .bQ f cap,cs,h=>by
   have hp:(LV.bQ f cap).pure=true:=by
    simp only [aJ] at h
    obtain⟨vs,_,_,h3⟩:=h
    simpa [LV.pure] using h3
   exact aJ.kt hz hf.z _ _ hp h
 | .a9 _,_,h=>by simp [aJ] at h
theorem cj.kill (hz:∀ id,Z id->Z' id) (hm:∀ c id,c≠b->μ c=some id->bD c=some id) (hf:Frame Z μ w w') :
  ∀ (l:List LV) (cs:List Value),cj Z μ w l cs->cj Z' bD w' (bH b l) cs
 | [],cs,h=>by simpa [cj,bH] using h
 | x :: xs,cs,h=>by
   simp only [cj,bH] at h ⊢
   obtain⟨c1,c2,h1,h2,h3,h4⟩:=h
   exact⟨c1,c2,h1,by rw [LV.atM];exact h2,aJ.kill hz hm hf x c1 h3,cj.kill hz hm hf xs c2 h4⟩
end
theorem a6.kill {sz:Nat} (hz:∀ id,Z id->Z' id) (hm:∀ c id,c≠b->μ c=some id->bD c=some id) (hf:Frame Z μ w w') :
  ∀ (l:List LV) (cs:List Value),a6 Z μ w sz l cs->a6 Z' bD w' sz (bH b l) cs
 | [],cs,h=>by simpa [a6,bH] using h
 | x :: xs,cs,h=>by
   simp only [a6,bH] at h ⊢
   obtain⟨c1,c2,h1,h2,h3,h4⟩:=h
   exact⟨c1,c2,h1,h2,aJ.kill hz hm hf x c1 h3,a6.kill hz hm hf xs c2 h4⟩
theorem fN.kill (hz:∀ id,Z id->Z' id) (hm:∀ c id,c≠b->μ c=some id->bD c=some id) (hf:Frame Z μ w w') {lv:LV} {v:Value}
  (h:fN Z μ w lv v):fN Z' bD w' (lv.kill b) v :=
 ⟨fun e=>let ⟨cs,h1,h2⟩:=h.1 (by rwa [LV.aqv] at e);⟨cs,h1,aJ.kill hz hm hf _ _ h2⟩,fun e=>aJ.kill hz hm hf _ _ (h.2 (by rwa [LV.aqv] at e))⟩
theorem fW.kill (hz:∀ id,Z id->Z' id) (hm:∀ c id,c≠b->μ c=some id->bD c=some id) (hf:Frame Z μ w w') :
  ∀ (l:List LV) (vs:List Value),fW Z μ w l vs->fW Z' bD w' (bH b l) vs
 | [],_,h=>h
 | _ :: xs,_,⟨v,jP,h1,h2,h3⟩=>⟨v,jP,h1,h2.kill hz hm hf,fW.kill hz hm hf xs jP h3⟩
theorem bu.kill (hz:∀ id,Z id->Z' id) (hm:∀ c id,c≠b->μ c=some id->bD c=some id) (hf:Frame Z μ w w') {lv:LV} {v:Value}
  (h:bu Z μ w lv v):bu Z' bD w' (lv.kill b) v:=by
 cases lv with
 | a9 l=>obtain⟨vs,h1,h2⟩:=h;exact⟨vs,h1,fW.kill hz hm hf _ _ h2⟩
 | any=>trivial
 | _ =>
  refine bu.sn (fun l e=>?_) (fN.kill hz hm hf h)
  simp only [LV.kill] at e
  first
   | cases e
   | (split at e<;>cases e)
end
structure St where
 slot:Nat->LV
 heap:b9
def St.ev (L:St):Operand->LV
 | .tmp t=>L.slot t
 | .const v=>if v.oneCell' then .v v else .any
 | .func f=>.bQ f []
 | .global _=>.any
def St.put (L:St) (d:Option Nat) (r:LV):St :=
 match d with
 | some t=>⟨fun s=>bif u7 s t then r else L.slot s,L.heap⟩
 | none=>L
theorem iI (L:St) (t:Nat) (r:LV) (s:Nat):(L.put (some t) r).slot s=if s=t then r else L.slot s:=by
 show (bif u7 s t then r else L.slot s)=_
 by_cases h:s=t
 ·subst h;simp
 ·have:u7 s t=false:=by rw [<-Bool.not_eq_true,Nat.beq_eq];exact h
  rw [this,if_neg h];rfl
def St.bU (L:St) (b:Nat) (x:Option bA):St:=⟨L.slot,fun c=>if c=b then x else L.heap c⟩
def St.kill (L:St) (b:Nat):St :=
 ⟨fun t=>(L.slot t).kill b,fun c=>if c=b then none else(L.heap c).map fun blk=>⟨blk.sz,bH b blk.vals,blk.mt⟩⟩
def fT (n:Nat) (W:World) (X:XS) (Z0:Nat->Prop) (L:St) (a:Act) (w:World):Prop :=
 a.defers=[]/\a.tmps.size=n/\∃ μ Z,Core W X Z0 μ Z L.heap w/\∀ t,bu Z μ w (L.slot t) (a.tmps.getD t undef)
inductive wy (H:b9) (b:Nat):LV->LV->Prop
 | eF {x y} (h:da H x y):wy H b x y
 | ref {sz off len}:wy H b (.ref b sz off len) (.ref 0 sz off len)
 | ptr {sz i o}:wy H b (.aF b sz i o) (.aF 0 sz i o)
inductive yt (H:b9) (b:Nat):List LV->List LV->Prop
 | nil:yt H b [] []
 | cons {x y xs ys} (h:wy H b x y) (t:yt H b xs ys):yt H b (x :: xs) (y :: ys)
inductive Names (b:Nat):List LV->Prop
 | ref {sz off len xs} (h:0<len):Names b (.ref b sz off len :: xs)
 | ptr {sz i o xs}:Names b (.aF b sz i o :: xs)
 | tl {x xs} (h:Names b xs):Names b (x :: xs)
inductive OpM (P:Program) (L:St) (dst:Option Tmp):Op->St->Prop
 | call {f xs as args r b blk blk'} (hb:L.heap b=some blk) (hm:blk.mt=true) (hp:aK blk.vals=true) (ha:yt L.heap b (xs.toList.map L.ev) args) (hn:Names b (xs.toList.map L.ev)) (hk:uv P f blk args r blk')
   (ta:blk'.mt=true) (l6:aK blk'.vals=true) :
   OpM P L dst (.call ⟨.value (.func f),xs,as⟩) ((L.bU b (some blk')).put dst (r.b7 fun _=>b))
 | anG {T U E x y z k kl sz dN n d} (hT:P.underlying T=some (.slice E)) (hU:P.underlying U=some (.int k)) (hz:cF P E z) (hE:bK P E sz z.isAgg) (dP:z.av=sz) (hb:kZ P E dN)
   (hx:L.ev x=.v (.slice none 0 0)) (hy:L.ev y=.v (.int kl (n:Nat))) (gX:L.heap d=none) (h0:0<n) (dx:0<sz) (hm:n*dN<=140737488355328) (gv:n<=4611686018427387904) :
   OpM P L dst (.call ⟨.builtin .append,#[x,y],#[T,U]⟩) ((L.bU d (some ⟨sz,aV n z,true⟩)).put dst (.ref d sz 0 n))
 | ajj {T U E x y z k kl sz dN len cp n d b blk} (hT:P.underlying T=some (.slice E)) (hU:P.underlying U=some (.int k)) (hz:cF P E z) (hE:bK P E sz z.isAgg) (dP:z.av=sz) (hb:kZ P E dN)
   (hx:L.ev x=.jY b sz 0 len cp) (lY:L.heap b=some blk) (hs:blk.sz=sz) (hlen:len<=blk.vals.length) (hy:L.ev y=.v (.int kl (n:Nat))) (gX:L.heap d=none) (hg:cp<len+n) (dx:0<sz) (hm:(len+n)*dN<=140737488355328) (gv:len+n<=4611686018427387904) :
   OpM P L dst (.call ⟨.builtin .append,#[x,y],#[T,U]⟩) ((L.bU d (some ⟨sz,blk.vals.take len++aV n z,true⟩)).put dst (.ref d sz 0 (len+n)))
 | ovl {f x y Tx Ty fn b c sz o1 n1 o2 n2 ag tS tR e} (hf:P.funcs[f]?=some fn) (uE:(fn.name== "runtime.NumGoroutine")=false) (hb:fn.body.isNone=true) (hn:Extern.findNext fn=none) (he:Extern.find fn=some (Extern.SlicesOverlaps.overlaps #[tS,tS] #[tR]))
   (ht:P.underlying tS=some (.slice e)) (hE:bK P e sz ag) (hx:L.ev x=.ref b sz o1 n1) (hy:L.ev y=.ref c sz o2 n2) (xm:b≠c) (h1:0<n1) (h2:0<n2) (dx:0<sz) :
   OpM P L dst (.call ⟨.value (.func f),#[x,y],#[Tx,Ty]⟩) (L.put dst (.v (.bool false)))
inductive gR (P:Program) (L:St) (dst:Option Tmp):Op->St->Prop
 | store {T p x b sz i o blk y y'} (hp:L.ev p=.aF b sz i o) (hb:L.heap b=some blk) (hs:blk.sz=sz) (hm:blk.mt=true) (hi:blk.vals[i]?=some y) (hy:y.av=sz)
   (pJ:y.put o (L.ev x)=some y') (hT:bK P T (L.ev x).av (L.ev x).isAgg) (bj:L.ev x≠.any/\∀ l,L.ev x≠.a9 l) :
   gR P L dst (.store T p x) ((L.bU b (some ⟨sz,blk.vals.set i y',true⟩)).put dst .any)
 | fV {T U E E' d b sz len blk x y news z dN} (hx:L.ev x=.ref b sz 0 len) (hb:L.heap b=some blk) (hs:blk.sz=sz) (hm:blk.mt=true) (hlen:len<=blk.vals.length) (gX:d=b\/L.heap d=none) (gJ:b≠0)
   (hT:P.underlying T=some (.slice E)) (hU:P.underlying U=some (.slice E')) (hz:cF P E z) (hE:bK P E sz z.isAgg) (dP:z.av=sz) (je:kZ P E dN)
   (hy:(∃ c off fh,L.ev y=.ref c sz off news.length/\c≠b/\L.heap c=some fh/\fh.sz=sz/\off+news.length<=fh.vals.length/\news=(fh.vals.drop off).take news.length/\aK news=true) \/
    L.ev y=.list sz news\/(L.ev y=.v (.slice none 0 0)/\news=[]))
   (bT:(len+news.length)*dN<=140737488355328) (gv:len+news.length<=4611686018427387904) (dx:0<sz) :
   gR P L dst (.call ⟨.builtin .append,#[x,y],#[T,U]⟩) (((L.kill b).bU d (some ⟨sz,bH b (blk.vals.take len++news),true⟩)).put dst (.ref d sz 0 (len+news.length)))
 | xG {T U E E' d sz x y news z dN} (hx:L.ev x=.v (.slice none 0 0)) (gX:L.heap d=none)
   (hT:P.underlying T=some (.slice E)) (hU:P.underlying U=some (.slice E')) (hz:cF P E z) (hE:bK P E sz z.isAgg) (dP:z.av=sz) (je:kZ P E dN)
   (hy:(∃ c off fh,L.ev y=.ref c sz off news.length/\L.heap c=some fh/\fh.sz=sz/\off+news.length<=fh.vals.length/\news=(fh.vals.drop off).take news.length/\aK news=true) \/
    L.ev y=.list sz news)
   (hn:0<news.length) (bT:news.length*dN<=140737488355328) (gv:news.length<=4611686018427387904) (dx:0<sz) :
   gR P L dst (.call ⟨.builtin .append,#[x,y],#[T,U]⟩) ((L.bU d (some ⟨sz,news,true⟩)).put dst (.ref d sz 0 news.length))
 | clr {T E x b sz off n blk z} (hx:L.ev x=.ref b sz off n) (hb:L.heap b=some blk) (hs:blk.sz=sz) (hm:blk.mt=true) (hl:off+n<=blk.vals.length) (hT:P.underlying T=some (.slice E)) (hz:cF P E z) (dP:z.av=sz) :
   gR P L dst (.call ⟨.builtin .clear,#[x],#[T]⟩) ((L.bU b (some ⟨sz,blk.vals.take off++aV n z++blk.vals.drop (off+n),true⟩)).put dst .any)
 | acS {T U E E' x y b sz off n1 blk c off2 n2 fh news ag} (hx:L.ev x=.ref b sz off n1) (hb:L.heap b=some blk) (hs:blk.sz=sz) (hm:blk.mt=true) (hl:off<=blk.vals.length) (hT:P.underlying T=some (.slice E)) (hU:P.underlying U=some (.slice E')) (hE:bK P E sz ag)
   (hy:L.ev y=.ref c sz off2 n2) (hc:L.heap c=some fh) (zn:fh.sz=sz) (hn:news.length=Nat.min n2 n1) (h0:0<news.length) (nN:off2+news.length<=fh.vals.length) (tN:news=(fh.vals.drop off2).take news.length) :
   gR P L dst (.call ⟨.builtin .copy,#[x,y],#[T,U]⟩) ((L.bU b (some ⟨sz,blk.vals.take off++news++blk.vals.drop (off+news.length),true⟩)).put dst .any)
theorem gR.app {P:Program} {L:St} {dst:Option Tmp} {T:TypeId} {U:TypeId} {E:TypeId} {E':TypeId} {d:Nat} {b:Nat} {sz:Nat} {len:Nat} {blk:bA} {x:Operand} {y:Operand} {news:List LV} {z:LV} {dN:Nat} (hd:dst=some d) (hx:L.ev x=.ref b sz 0 len) (hb:L.heap b=some blk) (hs:blk.sz=sz) (hm:blk.mt=true) (hlen:len<=blk.vals.length) (gX:d=b\/L.heap d=none) (gJ:b≠0)
   (hT:P.underlying T=some (.slice E)) (hU:P.underlying U=some (.slice E')) (hz:cF P E z) (hE:bK P E sz z.isAgg) (dP:z.av=sz) (je:kZ P E dN)
   (hy:(∃ c off fh,L.ev y=.ref c sz off news.length/\c≠b/\L.heap c=some fh/\fh.sz=sz/\off+news.length<=fh.vals.length/\news=(fh.vals.drop off).take news.length/\aK news=true) \/
    L.ev y=.list sz news\/(L.ev y=.v (.slice none 0 0)/\news=[]))
   (bT:(len+news.length)*dN<=140737488355328) (gv:len+news.length<=4611686018427387904) (dx:0<sz) :
  gR P L dst (.call ⟨.builtin .append,#[x,y],#[T,U]⟩) (((L.kill b).bU d (some ⟨sz,bH b (blk.vals.take len++news),true⟩)).put dst (.ref d sz 0 (len+news.length))):=.fV hx hb hs hm hlen gX gJ hT hU hz hE dP je hy bT gv dx
section
variable {P:Program} {W w w':World} {X:XS} {Z0 Z:Nat->Prop} {μ:Nat->Option Nat} {H:b9} {a:Act} {L L':St} {n:Nat}
theorem lG (h:∀ t,bu Z μ w (L.slot t) (a.tmps.getD t undef)) (x:Operand):bu Z μ w (L.ev x) (a.eval x):=by
 cases x with
 | tmp t=>exact h t
 | const v =>
  simp only [St.ev,Act.eval]
  split
  ·exact bu.v (by assumption)
  ·trivial
 | func f =>
  simp only [St.ev,Act.eval]
  exact⟨by simp [LV.isAgg],fun _=>by simp [aJ,a6,aK]⟩
 | global g=>simp only [St.ev];trivial
theorem rY {d:Option Nat} {r:LV} {v:Value} (hd:∀ t,d=some t->t<a.tmps.size) (h:∀ t,bu Z μ w (L.slot t) (a.tmps.getD t undef)) (hv:bu Z μ w r v) :
  ∀ t,bu Z μ w ((L.put d r).slot t) ((a.put d v).tmps.getD t undef):=by
 intro t
 cases d with
 | none=>exact h t
 | some s =>
  rw [iI]
  simp only [Act.put]
  by_cases hts:t=s
  ·subst hts
   have:=hd t rfl
   simp [this]
   exact hv
  ·have:=h t
   simp only [hts,if_false,gH,qf (Ne.symm hts)] at this ⊢
   exact this
theorem rW (a:Act) (d:Option Nat) (v:Value):(a.put d v).tmps.size=a.tmps.size:=by cases d<;>simp [Act.put]
theorem put_defers (a:Act) (d:Option Nat) (v:Value):(a.put d v).defers=a.defers:=by cases d<;>rfl
theorem mz (L:St) (d:Option Nat) (r:LV):(L.put d r).heap=L.heap:=by cases d<;>rfl
end
end Go.Lg
namespace Go.Lg
section
variable {P:Program} {W w w':World} {X:XS} {Z0 Z:Nat->Prop} {μ:Nat->Option Nat} {H:b9} {a:Act} {L L':St} {n:Nat}
theorem Core.rewrite {b id:Nat} {blk blk':bA} {c c':Array Value} {T:TypeId} {part rest:List Value} (hc:Core W X Z0 μ Z H w) (hb:μ b=some id) (hH:H b=some blk) (hm:blk.mt=true) (ta:blk'.mt=true)
  (u6:w.heap[id]?=some (.cells c T (0,0))) (bT:c'.size=c.size) (h1:c'.toList=part++rest) (h2:a6 Z μ w blk'.sz blk'.vals part)
  (hw:w'=w.setRow id c') :
  Core W X Z0 μ Z (fun k=>if k=b then some blk' else H k) w'/\Frame Z μ w w':=by
 subst hw
 have abA:(w.setRow id c').heap[id]?=some (.cells c' T (0,0)):=setRow_heap w id c c' T (0,0) u6
 have wV:∀ k,k≠id->(w.setRow id c').heap[k]?=w.heap[k]?:=fun k hk=>by
  simp only [World.setRow,awo,if_neg (Ne.symm hk)]
 have ae7:(w.setRow id c').heap.size=w.heap.size:=by simp [World.setRow]
 have rV:¬ Z id:=hc.ja b id blk hb hH hm
 have dS:Frame Z μ w (w.setRow id c'):=by
  refine⟨fun k hk=>wV k (fun e=>rV (e ▸ hk)),fun b' k hk cc T' fz uX=>?_⟩
  by_cases e:k=id
  ·subst e
   rw [u6] at uX;cases uX
   exact⟨c',abA,bT⟩
  ·exact⟨cc,(wV k e).trans uX,rfl⟩
 refine⟨⟨?_,fun k hk=>by rw [ae7];exact hc.lg k hk,hc.jy,hc.lh,hc.inj,hc.own,hc.x0,hc.nV,hc.x1,?_,?_,?_⟩,dS⟩
 ·refine⟨hc.cx.os,hc.cx.tape,hc.cx.output,by rw [ae7];exact hc.cx.size,fun k hk hx=>?_,fun k hx c0 T0 p9 h0=>?_⟩
  have:k≠id:=by
   rintro rfl
   rcases hc.own b k hb with h | h
   ·omega
   ·exact hx h
  exact(wV k this).trans (hc.cx.block k hk hx)
  obtain⟨c1,g1,g2⟩:=hc.cx.vg k hx c0 T0 p9 h0
  by_cases e:k=id
  ·subst e
   rw [u6] at g1;cases g1
   exact⟨c',abA,bT.trans g2⟩
  ·exact⟨c1,(wV k e).trans g1,g2⟩
 ·intro b' k bk h g fu
  by_cases e:b'=b
  ·subst e;rw [hb] at h;cases h;exact rV
  ·rw [if_neg e] at g;exact hc.ja b' k bk h g fu
 ·intro b' k bk h g fu
  by_cases e:b'=b
  ·subst e;rw [if_pos rfl] at g;cases g;rw [ta] at fu;cases fu
  ·rw [if_neg e] at g;exact hc.ca b' k bk h g fu
 ·intro b' k h
  by_cases e:b'=b
  ·subst e;rw [hb] at h;cases h
   exact⟨blk',if_pos rfl,c',T,part,rest,abA,h1,h2.mono (fun _ h=>h) (fun _ _ h=>h) dS⟩
  ·obtain⟨bk,g1,g2⟩:=hc.heap b' k h
   have bj:k≠id:=fun e'=>e (hc.inj b' b k h (e' ▸ hb))
   exact⟨bk,by rw [if_neg e];exact g1,g2.mono (fun _ h=>h) (fun _ _ h=>h) dS (wV k bj)⟩
theorem aAg {T:TypeId} {id off:Nat} {c:Array Value} {U:TypeId} {v:Value} {sz:Nat} {ag:Bool} (hT:bK P T sz ag) (u6:w.heap[id]?=some (.cells c U (0,0)))
  (hv:v.cells.size=sz) (h1:∀ u∈v.cells.toList,u.oneCell'=true) (qP:off+sz<=c.size) :
  (storeVar T ⟨id,off,none⟩ v).run P w=.ok () (w.setRow id (c.toList.take off++v.cells.toList++c.toList.drop (off+sz)).toArray):=by
 have:=run_storeCells_at P id off U v.cells.toList 0 c w u6 bq h1
 simp only [storeVar,Sem.run_bind,run_sizeOf hT,Result.andThen_ok,hv,ne_eq,not_true_eq_false,if_false,Sem.run_ite]
 simpa [hv] using this
theorem aFl {T:TypeId} {p x:Operand} {b sz i o:Nat} {blk:bA} {y y':LV} (hc:Core W X Z0 μ Z L.heap w) (hr:∀ t,bu Z μ w (L.slot t) (a.tmps.getD t undef))
  (hp:L.ev p=.aF b sz i o) (hb:L.heap b=some blk) (hs:blk.sz=sz) (hm:blk.mt=true) (hi:blk.vals[i]?=some y) (hy:y.av=sz)
  (pJ:y.put o (L.ev x)=some y') (hT:bK P T (L.ev x).av (L.ev x).isAgg) (bj:L.ev x≠.any/\∀ l,L.ev x≠.a9 l)
  (dst:Option Tmp) (ty:TypeId) (pos:String) (after:Array Edge) (g:Option (Nat × Bool)) :
  ∃ w',(execOp a.eval ⟨dst,.store T p x,ty,pos,after,g⟩).run P w=.ok .skip w'/\Core W X Z0 μ Z (L.bU b (some ⟨sz,blk.vals.set i y',true⟩)).heap w'/\Frame Z μ w w':=by
 have e1:=lG (L:=L) hr p
 rw [hp] at e1
 have e2:=e1.2 rfl
 simp only [aJ] at e2
 obtain⟨id,h1,h2⟩:=e2
 simp only [gj,and_true] at h1
 obtain⟨blk',yY,c,U,part,rest,q1,q2,q3⟩:=hc.heap b id h2
 rw [hb] at yY;cases yY
 obtain⟨c1,c2,c3,_⟩:=(bu.yi bj.2 bj.1 (lG (L:=L) hr x)).cells bj.1
 obtain⟨pre,ch,post,g1,g2,g3,g4,g5⟩:=a6.get blk.vals part i y q3 hi
 obtain⟨yK,vp,vL,j1,j2,j3,j4,j5⟩:=LV.atL (L.ev x) (a.eval x).cells.toList c1 (by simpa using c2) y o y' ch pJ g4 (by rw [g3,hs,hy])
 have mE:=g5 y' _ j4 (by
  have:=congrArg List.length j1
  simp only [jS] at this ⊢
  omega)
 have hlen:c.toList.length=pre.length+(yK.length+(vp.length+vL.length)+post.length)+rest.length:=by
  rw [q2,g1,j1];simp;omega
 have qP:i*sz+o+(L.ev x).av<=c.size:=by
  rw [<-nM,hlen]
  rw [hs] at g2
  have:vp.length=(L.ev x).av:=by rw [j3];simpa using c2
  omega
 have fI:=aAg (P:=P) (id:=id) (off:=i*sz+o) hT q1 c2 c3 qP
 have mF:(c.toList.take (i*sz+o)++(a.eval x).cells.toList++c.toList.drop (i*sz+o+(L.ev x).av))=(pre++((yK++((a.eval x).cells.toList++vL))++post))++rest:=by
  rw [q2,g1,j1]
  have kN:i*sz+o=(pre++yK).length:=by rw [hs] at g2;simp;omega
  have nN:(L.ev x).av=vp.length:=by rw [j3];simpa using c2.symm
  rw [kN,nN]
  have e:(pre++(yK++(vp++vL)++post))++rest=(pre++yK)++(vp++(vL++(post++rest))):=by simp
  rw [e,akn]
  have e2:List.drop ((pre++yK).length+vp.length) ((pre++yK)++(vp++(vL++(post++rest))))=vL++(post++rest):=by
   rw [<-qL,ade,ade]
  rw [e2];simp
 rw [mF] at fI
 have jB:c.size=c.toList.length:=nM.symm
 have hA:(a.eval x).cells.toList.length=vp.length:=j3.symm
 obtain⟨k1,k2⟩:=Core.rewrite (w':=w.setRow id ((pre++((yK++((a.eval x).cells.toList++vL))++post))++rest).toArray) (blk':=⟨sz,blk.vals.set i y',true⟩)
  (part:=pre++((yK++((a.eval x).cells.toList++vL))++post)) (rest:=rest) hc h2 hb hm rfl q1
  (by rw [jB,hlen];simp only [ab2,jS,hA]) aW (by rw [<-hs];exact mE) rfl
 exact⟨_,by simp only [execOp,h1,Instr.storeAt,Instr.sureAddr,Sem.run_bind,Sem.run_pure,Result.andThen_ok,fI],k1,k2⟩
theorem wy.sound {b i0:Nat} (hc:Core W X Z0 μ Z H w) (hb:μ b=some i0) {x y:LV} {v:Value} (h:wy H b x y) (hr:bu Z μ w x v):fN Z (vI i0) w y v:=by
 cases h with
 | eF h=>exact da.abf hc h hr
 | ref =>
  have:=hr.2 rfl
  refine⟨by simp [LV.isAgg],fun _=>?_⟩
  simp only [aJ] at this ⊢
  rcases this with h | ⟨id,cap,c,T,fz,h1,h2,h3⟩
  ·exact oB
  rw [hb] at h2;cases h2
  exact .inr ⟨i0,cap,c,T,fz,h1,rfl,h3⟩
 | ptr =>
  have:=hr.2 rfl
  refine⟨by simp [LV.isAgg],fun _=>?_⟩
  simp only [aJ] at this ⊢
  obtain⟨id,h1,h2⟩:=this
  rw [hb] at h2;cases h2
  exact⟨i0,h1,rfl⟩
theorem wy.ne {b:Nat} {x y:LV} (h:wy H b x y):(x≠.any/\∀ m,x≠.a9 m):=by
 cases h with
 | eF h=>exact h.ne
 | ref=>exact⟨by simp,by simp⟩
 | ptr=>exact⟨by simp,by simp⟩
theorem asT {b i0:Nat} (hc:Core W X Z0 μ Z H w) (hb:μ b=some i0) {ρ:Operand->LV}:∀ (xs:List Operand) (args:List LV),yt H b (xs.map ρ) args->(∀ x∈xs,bu Z μ w (ρ x) (a.eval x)) ->
  fW Z (vI i0) w args (xs.map a.eval)
 | [],_,h,_=>by cases h;rfl
 | x :: xs,_,h,hr=>by
   cases h with
   | cons h t=>exact⟨_,_,rfl,h.sound hc hb (hr x aW),asT hc hb xs _ t (fun y hy=>hr y (by simp [hy]))⟩
theorem Names.mu {b:Nat} {ρ:Operand->LV}:∀ (xs:List Operand),Names b (xs.map ρ)->(∀ x∈xs,bu Z μ w (ρ x) (a.eval x))->∃ id,μ b=some id
 | [],h,_=>by cases h
 | x :: xs,h,hr=>by
   have h1:=hr x aW
   generalize hq:ρ x=q at h h1
   simp only [lI,hq] at h
   cases h with
   | ref hl =>
    have:=h1.2 rfl
    simp only [aJ] at this
    rcases this with⟨_,h⟩ | ⟨id,_,_,_,_,_,h2,_⟩
    ·omega
    exact⟨id,h2⟩
   | ptr =>
    have:=h1.2 rfl
    simp only [aJ] at this
    obtain⟨id,_,h2⟩:=this
    exact⟨id,h2⟩
   | tl h=>exact Names.mu xs h (fun y hy=>hr y (by simp [hy]))
theorem aIi {f:FuncId} {xs:Array Operand} {as:Array TypeId} {args:List LV} {r:LV} {b:Nat} {blk blk':bA} {dst:Option Tmp} {ty:TypeId} {pos:String} {af:Array Edge} {g:Option (Nat × Bool)}
  {K:Act->World->Prop} {Q:Exit->Act->World->Prop}
  (hc:Core W X Z0 μ Z L.heap w) (hr:∀ t,bu Z μ w (L.slot t) (a.tmps.getD t undef)) (hb:L.heap b=some blk) (hm:blk.mt=true) (hp:aK blk.vals=true)
  (ha:yt L.heap b (xs.toList.map L.ev) args) (hn:Names b (xs.toList.map L.ev)) (hk:uv P f blk args r blk') (ta:blk'.mt=true) (l6:aK blk'.vals=true)
  (hK:∀ v w' Z',Core W X Z0 μ Z' (L.bU b (some blk')).heap w'->(∀ t,bu Z' μ w' (L.slot t) (a.tmps.getD t undef))->bu Z' μ w' (r.b7 fun _=>b) v->K (a.put dst v) w') :
  (Oper.mk dst (.call ⟨.value (.func f),xs,as⟩) ty pos af g).wp P a w K Q:=by
 obtain⟨i0,pk⟩:=Names.mu (μ:=μ) (Z:=Z) (w:=w) (a:=a) xs.toList hn (fun x _=>lG (L:=L) hr x)
 have hargs:=asT (a:=a) hc pk xs.toList args ha (fun x _=>lG (L:=L) hr x)
 have fI:(execOp a.eval (Oper.mk dst (.call ⟨.value (.func f),xs,as⟩) ty pos af g)).run P w=.ok (.enter f (xs.map a.eval)) w:=by
  have:=aim (P:=P) (w:=w) (args:=xs.map a.eval) hk.1
  simp only [execOp,resolve,Act.eval,Deferred.ofValue,Sem.run_bind,Sem.run_pure,Result.andThen_ok,invoke]
  simpa using this
 unfold Oper.wp
 rw [fI,Oper.upon_enter]
 obtain⟨aiv,g1,g2⟩:=hc.heap b i0 pk
 rw [hb] at g1;cases g1
 have nF:ug Z (vI i0) w blk i0:=by
  obtain⟨c,T,part,rest,q1,q2,q3⟩:=g2
  exact⟨c,T,part,rest,q1,q2,a6.kt (fun _ h=>h) (fun _ _=>rfl) _ _ _ hp q3⟩
 have:=hk.2 w Z (xs.toList.map a.eval) i0 hc.lg (hc.ja b i0 blk pk hb hm) nF hargs
 rw [show (xs.toList.map a.eval).toArray=xs.map a.eval from by apply wa;simp] at this
 refine this.mono ?_
 rintro e w' ⟨v,dV,Zr,rfl,hrr,hv⟩
 obtain⟨Z',h1,h2,h3,h4,h5⟩:=hc.aCF pk hb hm ta l6 hrr
 refine hK v w' Z' h1 (fun t=>(hr t).mono h3 (fun _ _ h=>h) h4) ?_
 exact(hv.mono h2 (fun _ _ h=>h) ⟨fun _ _=>rfl,(Frame.refl Zr dV w').m⟩).b7 (fun _=>b) (fun k id h=>by obtain⟨rfl,rfl⟩:=h5 k id h;exact pk)
end
end Go.Lg
namespace Go.Lg
section
variable {P:Program} {W w w':World} {X:XS} {Z0 Z:Nat->Prop} {μ:Nat->Option Nat} {H:b9} {a:Act} {L L':St} {n:Nat}
def ko (μ:Nat->Option Nat) (b:Nat):Nat->Option Nat:=fun c=>if c=b then none else μ c
theorem Core.kill (b:Nat) (gJ:b≠0) (hc:Core W X Z0 μ Z L.heap w):Core W X Z0 (ko μ b) Z (L.kill b).heap w:=by
 have hinv:∀ c id,ko μ b c=some id->c≠b/\μ c=some id:=fun c id h=>by
  unfold ko at h;split at h
  ·cases h
  ·exact⟨by assumption,h⟩
 have hH:∀ c blk,(L.kill b).heap c=some blk->c≠b->∃ bk,L.heap c=some bk/\blk=⟨bk.sz,bH b bk.vals,bk.mt⟩:=fun c blk h bj=>by
  simp only [St.kill,if_neg bj,zc] at h
  obtain⟨bk,h1,h2⟩:=h
  exact⟨bk,h1,h2.symm⟩
 refine⟨hc.cx,hc.lg,hc.jy,hc.lh,?_,?_,?_,hc.nV,fun id h=>by simp only [ko,if_neg (Ne.symm gJ)];exact hc.x1 id h,?_,?_,?_⟩
 ·intro c c' id h h'
  exact hc.inj c c' id (hinv c id h).2 (hinv c' id h').2
 ·intro c id h;exact hc.own c id (hinv c id h).2
 ·intro c id h;exact hc.x0 c id (hinv c id h).2
 ·intro c id blk h g hm
  obtain⟨bk,g1,rfl⟩:=hH c blk g (hinv c id h).1
  exact hc.ja c id bk (hinv c id h).2 g1 hm
 ·intro c id blk h g hm
  obtain⟨bk,g1,rfl⟩:=hH c blk g (hinv c id h).1
  exact hc.ca c id bk (hinv c id h).2 g1 hm
 ·intro c id h
  obtain⟨bj,h1⟩:=hinv c id h
  obtain⟨bk,g1,cc,T,part,rest,g2,g3,g4⟩:=hc.heap c id h1
  refine⟨⟨bk.sz,bH b bk.vals,bk.mt⟩,by simp [St.kill,bj,g1],cc,T,part,rest,g2,g3,?_⟩
  exact a6.kill (fun _ h=>h) (fun k id hk h=>by simp [ko,hk,h]) (Frame.refl _ _ _) _ _ g4
theorem aef (b:Nat) (hr:∀ t,bu Z μ w (L.slot t) (a.tmps.getD t undef)):∀ t,bu Z (ko μ b) w ((L.kill b).slot t) (a.tmps.getD t undef):=fun t =>
 bu.kill (fun _ h=>h) (fun k id hk h=>by simp [ko,hk,h]) (Frame.refl _ _ _) (hr t)
theorem Core.attach {d id:Nat} {blk:bA} {c c':Array Value} {T:TypeId} {part rest:List Value} (hc:Core W X Z0 μ Z H w) (hd:μ d=none) (hm:blk.mt=true)
  (my:∀ k,μ k≠some id) (rV:¬ Z id) (cq:W.heap.size<=id\/X.y id) (bT:c'.size=c.size)
  (u6:w.heap[id]?=some (.cells c T (0,0))) (h1:c'.toList=part++rest) (h2:a6 Z μ w blk.sz blk.vals part)
  (hw:w'=w.setRow id c') :
  Core W X Z0 (pX μ d id) Z (fun k=>if k=d then some blk else H k) w'/\Frame Z μ w w'/\(∀ b k,μ b=some k->pX μ d id b=some k)/\w'.heap[id]?=some (.cells c' T (0,0)):=by
 subst hw
 have abA:(w.setRow id c').heap[id]?=some (.cells c' T (0,0)):=setRow_heap w id c c' T (0,0) u6
 have wV:∀ k,k≠id->(w.setRow id c').heap[k]?=w.heap[k]?:=fun k hk=>by
  simp only [World.setRow,awo,if_neg (Ne.symm hk)]
 have ae7:(w.setRow id c').heap.size=w.heap.size:=by simp [World.setRow]
 have dS:Frame Z μ w (w.setRow id c') :=
  ⟨fun k hk=>wV k (fun e=>rV (e ▸ hk)),fun b' k hk cc T' fz uX=>⟨cc,(wV k (fun e=>my b' (e ▸ hk))).trans uX,rfl⟩⟩
 have zN:∀ b k,μ b=some k->pX μ d id b=some k:=fun b k h=>by
  unfold pX;split
  ·subst_vars;rw [hd] at h;cases h
  ·exact h
 have hinv:∀ b k,pX μ d id b=some k->(b=d/\k=id)\/(b≠d/\μ b=some k):=fun b k h=>by
  unfold pX at h;split at h
  ·cases h;exact .inl ⟨by assumption,rfl⟩
  ·exact .inr ⟨by assumption,h⟩
 refine⟨⟨?_,fun k hk=>by rw [ae7];exact hc.lg k hk,hc.jy,hc.lh,?_,?_,?_,hc.nV,fun k h=>zN 0 k (hc.x1 k h),?_,?_,?_⟩,dS,zN,abA⟩
 ·exact⟨hc.cx.os,hc.cx.tape,hc.cx.output,by rw [ae7];exact hc.cx.size,fun k hk hx=>(wV k (by
    rintro rfl
    rcases cq with h | h
    ·omega
    ·exact hx (.inr h))).trans (hc.cx.block k hk hx),
   fun k hx c0 T0 p9 h0=>by
    obtain⟨c1,g1,g2⟩:=hc.cx.vg k hx c0 T0 p9 h0
    by_cases e:k=id
    ·subst e
     rw [u6] at g1;cases g1
     exact⟨c',abA,bT.trans g2⟩
    ·exact⟨c1,(wV k e).trans g1,g2⟩⟩
 ·intro b b' k h h'
  rcases hinv b k h with⟨rfl,rfl⟩ | ⟨n1,h3⟩<;>rcases hinv b' _ h' with⟨rfl,e⟩ | ⟨n2,h4⟩
  ·rfl
  ·exact absurd h4 (my b')
  ·exact absurd (e ▸ h3) (my b)
  ·exact hc.inj b b' k h3 h4
 ·intro b k h
  rcases hinv b k h with⟨rfl,rfl⟩ | ⟨n1,h3⟩
  ·exact cq.imp (fun h=>h) .inr
  ·exact hc.own b k h3
 ·intro b k h hx
  rcases hinv b k h with⟨rfl,rfl⟩ | ⟨n1,h3⟩
  ·exact absurd (hc.x1 _ hx) (my 0)
  ·exact hc.x0 b k h3 hx
 ·intro b k bk h g fu
  rcases hinv b k h with⟨rfl,rfl⟩ | ⟨n1,h3⟩
  ·exact rV
  ·rw [if_neg n1] at g;exact hc.ja b k bk h3 g fu
 ·intro b k bk h g fu
  rcases hinv b k h with⟨rfl,rfl⟩ | ⟨n1,h3⟩
  ·rw [if_pos rfl] at g;cases g;rw [hm] at fu;cases fu
  ·rw [if_neg n1] at g;exact hc.ca b k bk h3 g fu
 ·intro b k h
  rcases hinv b k h with⟨rfl,rfl⟩ | ⟨n1,h3⟩
  ·exact⟨blk,if_pos rfl,c',T,part,rest,abA,h1,h2.mono (fun _ h=>h) zN dS⟩
  ·obtain⟨bk,g1,g2⟩:=hc.heap b k h3
   exact⟨bk,by rw [if_neg n1];exact g1,g2.mono (fun _ h=>h) zN dS (wV k (fun e=>my b (e ▸ h3)))⟩
theorem ao3 {U E':TypeId} {y:Operand} {news:List LV} {sz:Nat} (hc:Core W X Z0 μ Z L.heap w) (hr:∀ t,bu Z μ w (L.slot t) (a.tmps.getD t undef)) (hU:P.underlying U=some (.slice E'))
  (hy:(∃ c off fh,L.ev y=.ref c sz off news.length/\L.heap c=some fh/\fh.sz=sz/\off+news.length<=fh.vals.length/\news=(fh.vals.drop off).take news.length) \/
    L.ev y=.list sz news\/(L.ev y=.v (.slice none 0 0)/\news=[])) :
  ∃ cells,Src P sz U (a.eval y) news.length cells w/\a6 Z μ w sz news cells:=by
 have e1:=lG (L:=L) hr y
 have one:∀ (l:List LV) (cs:List Value),a6 Z μ w sz l cs->∀ u∈cs,u.oneCell'=true:=by
  intro l
  induction l with
  | nil=>intro cs h;simp only [a6] at h;simp [h]
  | cons x xs ih =>
   intro cs h u hu
   simp only [a6] at h
   obtain⟨c1,c2,rfl,h2,h3,h4⟩:=h
   rcases oO.1 hu with hu | hu
   ·exact aJ.one _ _ h3 u hu
   ·exact ih c2 h4 u hu
 rcases hy with⟨cc,off,fh,h1,h2,h3,h4,h5⟩ | h1 | ⟨h1,rfl⟩
 ·rw [h1] at e1
  have e2:=e1.2 rfl
  simp only [aJ] at e2
  rcases e2 with⟨q1,q2⟩ | ⟨id,cap,c,T,fz,q1,q2,q3,q4,q5⟩
  ·simp only [gj,and_true] at q1
   have aob:=oC q2
   subst aob
   refine⟨[],?_,by simp [a6]⟩
   rw [q1]
   exact Src.ofNil w hU 0
  simp only [gj,and_true] at q1
  obtain⟨bk,g1,c',T',part,rest,g2,g3,g4⟩:=hc.heap cc id q2
  rw [h2] at g1;cases g1
  rw [q4] at g2;cases g2
  obtain⟨c1,c2,d1,d2,d3⟩:=a6.split (fh.vals.take off) (fh.vals.drop off) part acg
  obtain⟨c3,c4,d4,d5,d6⟩:=a6.split ((fh.vals.drop off).take news.length) ((fh.vals.drop off).drop news.length) c2 (by rw [xu];exact d3)
  rw [<-h5,h3] at d5
  have kN:=a6.length _ _ d2
  rw [fQ,nt J,h3] at kN
  have zt:=adb (w:=w) (off:=off*sz) (part:=c3) (rest:=c4++rest) q4 (by rw [g3,d1,d4,<-kN];simp)
  refine⟨c3,?_,d5⟩
  rw [q1]
  exact Src.ofSlice w hU _ _ _ c3 (a6.length _ _ d5) (fun j u hj=>by rw [Addr.add_mid];exact zt j u hj) (one _ _ d5)
 ·rw [h1] at e1
  have e2:=e1.2 rfl
  simp only [aJ] at e2
  obtain⟨ad,len,cap,q1,q2,q3,q4,_⟩:=e2
  simp only [gj,and_true] at q1
  rcases q4 with q4 | ⟨blk,off,c,T,fz,part,rest,g1,g2,g3,g4,g5⟩
  ·subst q4
   simp at q2;subst q2
   refine⟨[],?_,rfl⟩
   rw [q1]
   cases ad with
   | none=>exact Src.ofNil w hU cap
   | some ad=>exact Src.ofSlice w hU ad 0 cap [] aW aW aW
  ·subst g1
   have zt:=adb (w:=w) (part:=part) (rest:=rest) g3 g4
   refine⟨part,?_,g5⟩
   rw [q1,q2]
   exact Src.ofSlice w hU _ _ _ part (a6.length _ _ g5) (fun j u hj=>by rw [Addr.add_mid];exact zt j u hj) (one _ _ g5)
 ·rw [h1] at e1
  have e2:=e1.fk
  refine⟨[],?_,rfl⟩
  rw [e2]
  exact Src.ofNil w hU 0
theorem ae3 {d:Nat} {blk:bA} {H:b9} (hd:H d=none):H.le (fun k=>if k=d then some blk else H k):=fun b bk h=>by
 have:b≠d:=by rintro rfl;rw [hd] at h;cases h
 exact⟨bk.mt,by simp only [if_neg this];exact h,fun h=>h,fun h1 h2=>by rw [h1] at h2;cases h2⟩
theorem anP {g o:Nat} {T:TypeId} {vs:List Value} {cur:Array Value} (hg:w.heap[g]?=some (.cells cur T (0,0))) (hl:o+vs.length<=cur.size) (h1:∀ v∈vs,v.oneCell'=true) :
  w.setCells g o vs=w.setRow g (cur.toList.take o++vs++cur.toList.drop (o+vs.length)).toArray:=by
 have a:=run_storeCells_at (default:Program) g o T vs 0 cur w hg (by simpa using hl) h1
 have hc:∀ j,j<vs.length->(w.cell? ⟨g,o+j,none⟩).isSome=true:=fun j hj=>by
  rw [cell_of_row w g (o+j) cur T (0,0) hg,sN J];rfl
 have hf:∀ j,j<vs.length->w.frozen? ⟨g,o+j,none⟩=false:=fun j hj=>by simp [World.frozen?,hg]
 have b:=run_storeCells_cells (P:=(default:Program)) g o vs 0 w (by simpa using hc) (by simpa using hf) h1
 rw [b] at a
 simp only [mg,Result.ok.injEq,true_and] at a
 exact a
theorem anu {T U E ty:TypeId} {d sz:Nat} {news olds:List LV} {z:LV} {dN:Nat} {oldc gu:List Value} {base:Option Addr} {sLen sCap:Nat} {xv yv:Value}
  (hc:Core W X Z0 μ Z H w) (hd:H d=none) (hT:P.underlying T=some (.slice E)) (hz:cF P E z) (hE:bK P E sz z.isAgg) (dP:z.av=sz) (je:kZ P E dN)
  (hx:xv=.slice base sLen sCap) (hold:(Builtin.firstCells sz sLen (.slice base sLen sCap)).run P w.drew=.ok oldc.toArray w.drew)
  (hs:Src P sz U yv news.length gu w) (ho:a6 Z μ w sz olds oldc) (dj:olds.length=sLen) (hn:a6 Z μ w sz news gu)
  (hg:sCap<sLen+news.length) (bT:(sLen+news.length)*dN<=140737488355328) (gv:sLen+news.length<=4611686018427387904) :
  ∃ v w' bD Z',(Builtin.append_ #[T,U] ty #[xv,yv]).run P w=.ok v w'/\Core W X Z0 bD Z' (fun k=>if k=d then some ⟨sz,olds++news,true⟩ else H k) w' /\
   (∀ id,Z id->Z' id)/\(∀ b id,μ b=some id->bD b=some id)/\Frame Z μ w w'/\bu Z' bD w' (.ref d sz 0 (sLen+news.length)) v:=by
 obtain⟨i,zv,z1,z2,z3,z4⟩:=hz
 have vB:i.size=sz:=by have:=hE.1;rw [z1] at this;simpa using this
 have tt:i.bytes=dN:=by obtain⟨i',g1,g2⟩:=je;rw [z1] at g1;cases g1;exact g2
 have w8:=nextslicecap_le hg
 have qP:Builtin.nextslicecap (sLen+news.length) sCap*i.bytes<=281474976710656:=by
  rw [tt]
  calc Builtin.nextslicecap (sLen+news.length) sCap*dN<=(2*(sLen+news.length))*dN:=eT _ w8
   _=2*((sLen+news.length)*dN):=by rw [fJ]
   _<=281474976710656:=by omega
 subst hx
 have fI:=run_append_grow_src (P:=P) w T U ty E i zv hT z1 z2 base sLen sCap oldc (by rw [vB];exact hold) yv news.length gu (by rw [vB];exact hs) hg J qP
 have ab4:μ d=none:=by
  cases hq:μ d with
  | none=>rfl
  | some id=>obtain⟨bk,g,_⟩:=hc.heap d id hq;rw [hd] at g;cases g
 have hcz:zv.cells.size=sz:=by
  have h1:=aJ.len (z4 Z μ w) (LV.dT z3)
  rw [<-nM,h1,dP]
 have gC:=a6.append _ _ _ _ ho hn
 have hlen:=a6.length _ _ gC
 obtain⟨Z1,k1,k2⟩:=hc.v7 (ae3 (blk:=⟨sz,olds++news,true⟩) hd)
 have ay4:sf w (w.drew.alloc (.cells ((oldc++gu).toArray++Builtin.zeroCells zv.cells (grownCap w (sLen+news.length) sCap E-(sLen+news.length))) E)) _:=⟨rfl,rfl,rfl,rfl⟩
 obtain⟨Z2,h1,h2,h3,h4,h5,h6⟩:=k1.push (d:=d) (blk:=⟨sz,olds++news,true⟩) (part:=oldc++gu) (rest:=(Builtin.zeroCells zv.cells (grownCap w (sLen+news.length) sCap E-(sLen+news.length))).toList)
  aW ab4 ay4 aW (gC.mono k2 (fun _ _ h=>h) ⟨fun _ _=>rfl,(Frame.refl Z μ w).m⟩)
 refine⟨_,_,_,Z2,fI,h1,fun id h=>h2 id (k2 id h),h3,⟨fun id h=>h4.z id (k2 id h),h4.m⟩,⟨by simp [LV.isAgg],fun _=>?_⟩⟩
 simp only [aJ]
 have kP:=grownCap_ge w (sLen+news.length) sCap E
 refine .inr ⟨w.heap.size,_,_,E,(0,0),by simp,h5,kP,h6,?_⟩
 rw [ahh,ab2,hlen,size_zeroCells,hcz,jS,dj,fg,<-iw]
 exact eT _ J
theorem vF (hc:Core W X Z0 μ Z H w) {d:Nat} (hd:H d=none):μ d=none:=by
 cases hq:μ d with
 | none=>rfl
 | some id=>obtain⟨bk,g,_⟩:=hc.heap d id hq;rw [hd] at g;cases g
theorem a6.aep {sz b:Nat} (l:List LV) (cs:List Value) (h:a6 Z μ w sz l cs):a6 Z (ko μ b) w sz (bH b l) cs :=
 a6.kill (fun _ h=>h) (fun k id hk h=>by simp [ko,hk,h]) (Frame.refl _ _ _) _ _ h
theorem agK (b:Nat):∀ l:List LV,(bH b l).length=l.length
 | []=>rfl
 | x :: xs=>by simp [bH,agK b xs]
theorem ah8 (b:Nat):∀ l m:List LV,bH b (l++m)=bH b l++bH b m
 | [],m=>rfl
 | x :: xs,m=>by simp [bH,ah8 b xs m]
theorem Core.aiq {H':b9} (hc:Core W X Z0 μ Z H w) (hh:∀ b id,μ b=some id->H' b=H b):Core W X Z0 μ Z H' w :=
 ⟨hc.cx,hc.lg,hc.jy,hc.lh,hc.inj,hc.own,hc.x0,hc.nV,hc.x1,fun b id blk h g=>hc.ja b id blk h ((hh b id h).symm.trans g),fun b id blk h g=>hc.ca b id blk h ((hh b id h).symm.trans g),
  fun b id h=>let ⟨blk,g1,g2⟩:=hc.heap b id h;⟨blk,(hh b id h).trans g1,g2⟩⟩
theorem aEb {T U E E' ty:TypeId} {d b sz len:Nat} {blk:bA} {x y:Operand} {news:List LV} {z:LV} {dN:Nat} (hc:Core W X Z0 μ Z L.heap w) (hr:∀ t,bu Z μ w (L.slot t) (a.tmps.getD t undef))
  (hx:L.ev x=.ref b sz 0 len) (hb:L.heap b=some blk) (hs:blk.sz=sz) (hm:blk.mt=true) (hlen:len<=blk.vals.length) (gX:d=b\/L.heap d=none) (gJ:b≠0)
  (hT:P.underlying T=some (.slice E)) (hU:P.underlying U=some (.slice E')) (hz:cF P E z) (hE:bK P E sz z.isAgg) (dP:z.av=sz) (je:kZ P E dN)
  (hy:(∃ c off fh,L.ev y=.ref c sz off news.length/\c≠b/\L.heap c=some fh/\fh.sz=sz/\off+news.length<=fh.vals.length/\news=(fh.vals.drop off).take news.length/\aK news=true) \/
    L.ev y=.list sz news\/(L.ev y=.v (.slice none 0 0)/\news=[]))
  (bT:(len+news.length)*dN<=140737488355328) (gv:len+news.length<=4611686018427387904) :
  ∃ v w' bD Z',(Builtin.append_ #[T,U] ty #[a.eval x,a.eval y]).run P w=.ok v w' /\
   Core W X Z0 bD Z' ((L.kill b).bU d (some ⟨sz,bH b (blk.vals.take len++news),true⟩)).heap w' /\
   (∀ t,bu Z' bD w' ((L.kill b).slot t) (a.tmps.getD t undef))/\bu Z' bD w' (.ref d sz 0 (len+news.length)) v:=by
 obtain⟨gu,yy,tN⟩:=ao3 (P:=P) hc hr hU (y:=y) (news:=news) (sz:=sz) (by
  rcases hy with⟨c,off,b2,q1,_,q3,q4,q5,q6,_⟩ | h | h
  ·exact .inl ⟨c,off,b2,q1,q3,q4,q5,q6⟩
  ·exact .inr (.inl h)
  ·exact .inr (.inr h))
 have e1:=lG (L:=L) hr x
 rw [hx] at e1
 have e2:=e1.2 rfl
 simp only [aJ] at e2
 have hkd:(L.kill b).heap d=none:=by
  rcases gX with rfl | h
  ·simp [St.kill]
  ·simp only [St.kill];split
   ·rfl
   ·rw [h];rfl
 rcases e2 with⟨q1,rfl⟩ | ⟨id,cap,c,U',fz,q1,q2,q3,q4,q5⟩
 ·simp only [gj,and_true] at q1
  have hk:=hc.kill b gJ
  have xn:=aef b hr
  have jb:(bH b news).length=news.length:=agK b news
  cases hnw:news with
  | nil =>
   subst hnw
   obtain⟨i,zv,z1,z2,z3,z4⟩:=hz
   have vB:i.size=sz:=by have:=hE.1;rw [z1] at this;simpa using this
   have akL:gu=[]:=by simpa [a6] using tN
   subst akL
   have fI:=run_append_nothing (P:=P) w T U ty E i hT z1 none 0 0 (bF _) (a.eval y) (vB ▸ yy)
   refine⟨_,w,ko μ b,Z,by rw [q1];exact fI,?_,xn,⟨by simp [LV.isAgg],fun _=>by simp [aJ]⟩⟩
   exact hk.aiq fun c id hcd=>by
    have:c≠d:=by rintro rfl;rw [vF hk hkd] at hcd;cases hcd
    simp [St.bU,this]
  | cons x0 xs0 =>
   rw [<-hnw]
   have kp:0<news.length:=by rw [hnw];simp
   obtain⟨v,w',bD,Z',r1,r2,r3,r4,r5,r6⟩:=anu (P:=P) (ty:=ty) (U:=U) (olds:=[]) (news:=bH b news) (oldc:=[]) (sLen:=0) (sCap:=0) hk hkd hT hz hE dP je q1 (by simp [Builtin.firstCells]) (by rw [jb];exact yy)
    (by simp [a6]) rfl (a6.aep _ _ tN) (by rw [jb];omega) (by rw [jb];exact bT) (by rw [jb];exact gv)
   rw [afv] at r2
   rw [jb] at r6
   exact⟨v,w',bD,Z',r1,by simpa [St.bU] using r2,fun t=>(xn t).mono r3 r4 r5,r6⟩
 simp only [gj,and_true,sb] at q1
 obtain⟨bk,g1,c',T',part,rest,g2,g3,g4⟩:=hc.heap b id q2
 rw [hb] at g1;cases g1
 rw [q4] at g2;cases g2
 simp only [fg] at q5
 obtain⟨p1,p2,d1,d2,d3⟩:=a6.split (blk.vals.take len) (blk.vals.drop len) part acg
 rw [hs] at d2
 have ju:=a6.length _ _ d2
 rw [fQ,nt hlen] at ju
 have hk:=hc.kill b gJ
 have xn:=aef b hr
 have my:∀ k,ko μ b k≠some id:=fun k h=>by
  unfold ko at h;split at h
  ·cases h
  ·rename_i bj;exact bj (hc.inj k b id h q2)
 have cq:W.heap.size<=id\/X.y id:=by
  rcases hc.own b id q2 with h | h | h
  ·exact oB
  ·exact absurd (hc.x0 b id q2 h) gJ
  ·exact .inr h
 have rV:=hc.ja b id blk q2 hb hm
 have rK:=a6.length _ _ tN
 by_cases al8:len+news.length<=cap
 ·have qP:len*sz+gu.length<=c.size:=by
   rw [rK,<-iw]
   exact bb (eT _ al8) q5
  have tA:∀ j,j<gu.length->(w.cell? ⟨id,0+len*sz+j,none⟩).isSome=true:=fun j hj=>by
   rw [cell_of_row w id _ c _ _ q4,sN J];rfl
  have x9:∀ j,j<gu.length->w.frozen? ⟨id,0+len*sz+j,none⟩=false:=fun j hj=>by simp [World.frozen?,q4]
  obtain⟨i,zv,z1,z2,z3,z4⟩:=hz
  have vB:i.size=sz:=by have:=hE.1;rw [z1] at this;simpa using this
  have fI:=run_append_room_src (P:=P) w T U ty E i hT z1 id 0 len cap (a.eval y) news.length gu (by rw [vB];exact yy) al8 (by rw [vB];exact tA) (by rw [vB];exact x9)
  rw [vB,fg,anP q4 qP yy.one] at fI
  have hold:=(a6.aep (b:=b) _ _ d2)
  have mF:=(a6.aep (b:=b) _ _ tN)
  have gC:=a6.append _ _ _ _ hold mF
  rw [<-ah8] at gC
  have azn:c.toList.take (len*sz)++gu++c.toList.drop (len*sz+gu.length)=(p1++gu)++c.toList.drop (len*sz+gu.length):=by
   rw [g3,d1,<-ju];simp
  rw [azn] at fI
  obtain⟨k1,k2,k3,k4⟩:=hk.attach (d:=d) (id:=id) (blk:=⟨sz,bH b (blk.vals.take len++news),true⟩) (c':=((p1++gu)++c.toList.drop (len*sz+gu.length)).toArray)
   (part:=p1++gu) (rest:=c.toList.drop (len*sz+gu.length)) (vF hk hkd) rfl my rV cq (by
    simp only [ab2,jS,ju,ni,nM]
    omega) q4 aW gC rfl
  refine⟨_,_,_,Z,by rw [q1];exact fI,k1,fun t=>(xn t).mono (fun _ h=>h) k3 k2,⟨by simp [LV.isAgg],fun _=>?_⟩⟩
  simp only [aJ]
  refine .inr ⟨id,cap,_,U',(0,0),by simp,by simp [pX],al8,k4,?_⟩
  rw [fg]
  simp only [ab2,jS,ju,ni,nM]
  omega
 ·have hold:(Builtin.firstCells sz len (.slice (some ⟨id,0,none⟩) len cap)).run P w.drew=.ok p1.toArray w.drew:=by
   refine run_firstCells_some w.drew sz len ⟨id,0,none⟩ len cap p1 ju (fun j v hj=>?_)
   rw [Addr.add_mid]
   have zt:=adb (w:=w) (off:=0) (part:=p1) (rest:=p2++rest) q4 (by rw [ks,g3,d1];simp)
   exact zt j v hj
  have jb:(bH b news).length=news.length:=agK b news
  obtain⟨v,w',bD,Z',r1,r2,r3,r4,r5,r6⟩:=anu (P:=P) (ty:=ty) (U:=U) (olds:=bH b (blk.vals.take len)) (news:=bH b news) hk hkd hT hz hE dP je q1 hold (by rw [jb];exact yy)
   (a6.aep _ _ d2) (by rw [agK,fQ];omega) (a6.aep _ _ tN) (by rw [jb];omega) (by rw [jb];exact bT) (by rw [jb];exact gv)
  rw [<-ah8] at r2
  rw [jb] at r6
  exact⟨v,w',bD,Z',r1,r2,fun t=>(xn t).mono r3 r4 r5,r6⟩
theorem aBi {T U E ty:TypeId} {d sz n:Nat} {x y:Operand} {z:LV} {dN:Nat} {k kl:IntKind} (hc:Core W X Z0 μ Z L.heap w) (hr:∀ t,bu Z μ w (L.slot t) (a.tmps.getD t undef))
  (hT:P.underlying T=some (.slice E)) (hU:P.underlying U=some (.int k)) (hz:cF P E z) (hE:bK P E sz z.isAgg) (dP:z.av=sz) (hb:kZ P E dN)
  (hx:L.ev x=.v (.slice none 0 0)) (hy:L.ev y=.v (.int kl (n:Nat))) (gX:L.heap d=none) (h0:0<n) (dx:0<sz) (hm:n*dN<=140737488355328) (gv:n<=4611686018427387904) :
  ∃ v w' bD Z',(Builtin.append_ #[T,U] ty #[a.eval x,a.eval y]).run P w=.ok v w'/\Core W X Z0 bD Z' (L.bU d (some ⟨sz,aV n z,true⟩)).heap w' /\
   (∀ t,bu Z' bD w' (L.slot t) (a.tmps.getD t undef))/\bu Z' bD w' (.ref d sz 0 n) v:=by
 obtain⟨i,zv,z1,z2,z3,z4⟩:=hz
 have e1:=lG (L:=L) hr x
 rw [hx] at e1
 have e1:=e1.fk
 have e2:=lG (L:=L) hr y
 rw [hy] at e2
 have e2:=e2.fk
 have bj:=LV.dT z3
 have vB:i.size=sz:=by have:=hE.1;rw [z1] at this;simpa using this
 have tt:i.bytes=dN:=by obtain⟨i',g1,g2⟩:=hb;rw [z1] at g1;cases g1;exact g2
 have nY:=aJ.len (z4 Z μ w) bj
 have hcz:zv.cells.size=sz:=by rw [<-nM,nY,dP]
 have w8:=nextslicecap_le (show 0<n from h0)
 have qP:Builtin.nextslicecap n 0*i.bytes<=281474976710656:=by
  rw [tt]
  calc Builtin.nextslicecap n 0*dN<=(2*n)*dN:=eT _ w8
   _=2*(n*dN):=by rw [fJ]
   _<=281474976710656:=by omega
 have fI:=azw (P:=P) (w:=w) T U E ty k kl i zv hT hU z1 z2 n h0 J J (by rw [tt];exact hm) qP
 have ab4:=vF hc gX
 obtain⟨Z1,k1,k2⟩:=hc.v7 (ae3 (blk:=⟨sz,aV n z,true⟩) gX)
 have gC:=a6.replicate (sz:=sz) (z4 Z1 μ w) (by rw [nY,dP]) n
 obtain⟨Z2,h1,h2,h3,h4,h5,h6⟩:=k1.push (d:=d) (blk:=⟨sz,aV n z,true⟩) (part:=(aV n zv.cells.toList).flatten) (rest:=(Builtin.zeroCells zv.cells (grownCap w n 0 E-n)).toList) aW ab4
  (⟨rfl,rfl,rfl,rfl⟩:sf w (w.drew.alloc (.cells (Builtin.zeroCells zv.cells n++Builtin.zeroCells zv.cells (grownCap w n 0 E-n)) E)) _) (by rw [alc,amH]) gC
 have dS:Frame Z μ w (w.drew.alloc (.cells (Builtin.zeroCells zv.cells n++Builtin.zeroCells zv.cells (grownCap w n 0 E-n)) E)):=⟨fun id h=>h4.z id (k2 id h),h4.m⟩
 refine⟨_,_,_,Z2,by rw [e1,e2];exact fI,h1,fun t=>(hr t).mono (fun id h=>h2 id (k2 id h)) h3 dS,⟨by simp [LV.isAgg],fun _=>?_⟩⟩
 simp only [aJ]
 have kP:=grownCap_ge w n 0 E
 refine .inr ⟨w.heap.size,_,_,E,(0,0),by simp,h5,kP,h6,?_⟩
 rw [ahh,size_zeroCells,size_zeroCells,hcz,fg,<-iw]
 exact eT _ J
theorem aCu {T U E E' ty:TypeId} {d sz:Nat} {x y:Operand} {news:List LV} {z:LV} {dN:Nat} (hc:Core W X Z0 μ Z L.heap w) (hr:∀ t,bu Z μ w (L.slot t) (a.tmps.getD t undef))
  (hx:L.ev x=.v (.slice none 0 0)) (gX:L.heap d=none)
  (hT:P.underlying T=some (.slice E)) (hU:P.underlying U=some (.slice E')) (hz:cF P E z) (hE:bK P E sz z.isAgg) (dP:z.av=sz) (je:kZ P E dN)
  (hy:(∃ c off fh,L.ev y=.ref c sz off news.length/\L.heap c=some fh/\fh.sz=sz/\off+news.length<=fh.vals.length/\news=(fh.vals.drop off).take news.length/\aK news=true) \/
    L.ev y=.list sz news)
  (hn:0<news.length) (bT:news.length*dN<=140737488355328) (gv:news.length<=4611686018427387904) :
  ∃ v w' bD Z',(Builtin.append_ #[T,U] ty #[a.eval x,a.eval y]).run P w=.ok v w'/\Core W X Z0 bD Z' (L.bU d (some ⟨sz,news,true⟩)).heap w' /\
   (∀ t,bu Z' bD w' (L.slot t) (a.tmps.getD t undef))/\bu Z' bD w' (.ref d sz 0 news.length) v:=by
 obtain⟨gu,yy,tN⟩:=ao3 (P:=P) hc hr hU (y:=y) (news:=news) (sz:=sz) (by
  rcases hy with⟨c,off,b2,q1,q3,q4,q5,q6,_⟩ | h
  ·exact .inl ⟨c,off,b2,q1,q3,q4,q5,q6⟩
  ·exact .inr (.inl h))
 have e1:=lG (L:=L) hr x
 rw [hx] at e1
 have e2:=e1.fk
 obtain⟨v,w',bD,Z',r1,r2,r3,r4,r5,r6⟩:=anu (P:=P) (ty:=ty) (U:=U) (olds:=[]) (news:=news) (oldc:=[]) (sLen:=0) hc gX hT hz hE dP je e2 (by simp [Builtin.firstCells]) yy
  (by simp [a6]) rfl tN J (by rw [fg];exact bT) (by rw [fg];exact gv)
 rw [fg] at r6
 rw [afv] at r2
 exact⟨v,w',bD,Z',r1,r2,fun t=>(hr t).mono r3 r4 r5,r6⟩
end
end Go.Lg
namespace Go.Lg
def eE (ops:Array Oper) (L:St) (o:Oper) (res:Bool):Prop :=
 match o.guard with
 | none=>res=true
 | some (j,want)=>∃ d,(ops[j]?).bind (·.dst)=some d/\((∃ b,L.slot d=.v (.bool b)/\res=(b==want))\/(L.slot d=.a9 []/\res=false))
inductive Step (P:Program) (dr:Bool) (ops:Array Oper) (o:Oper) (L L':St):Prop
 | skip (hg:eE ops L o false) (h:L'=L.put o.dst (.a9 []))
 | val {r fr H1} (hg:eE ops L o true) (hle:L.heap.le H1) (dS:∀ b blk,(b,blk)∈fr->L.heap b=none/\∃ m,H1 b=some ⟨blk.sz,blk.vals,m⟩/\(blk.mt=false->m=false))
   (ho:lZ P H1 L.ev (o.dst.getD 0) o.op r fr) (h:L'=⟨(L.put o.dst r).slot,H1⟩)
 | st (hg:eE ops L o true) (ho:gR P L o.dst o.op L')
 | stM (iP:dr=false) (hg:eE ops L o true) (ho:OpM P L o.dst o.op L')
def opsL (P:Program) (dr:Bool) (ops:Array Oper):List Oper->St->(St->Prop)->Prop
 | [],L,K=>K L
 | o :: r,L,K=>∃ L',Step P dr ops o L L'/\opsL P dr ops r L' K
section
variable {P:Program} {W w w':World} {X:XS} {Z0 Z:Nat->Prop} {μ:Nat->Option Nat} {H:b9} {a:Act} {L L':St} {n:Nat} {dr:Bool} {ops:Array Oper}
theorem abY {o:Oper} {res:Bool} {L:St} (hr:∀ t,bu Z μ w (L.slot t) (a.tmps.getD t undef)) (hg:eE ops L o res):Region.wanted o (yielded ops a.tmps)=res:=by
 unfold eE at hg
 unfold Region.wanted
 split at hg
 ·rename_i h;rw [h];exact hg.symm
 ·rename_i j want h
  rw [h]
  obtain⟨d,h1,⟨b,h2,rfl⟩ | ⟨h2,rfl⟩⟩:=hg
  case inr =>
   have h3:=hr d
   rw [h2] at h3
   obtain⟨vs,h4,h5⟩:=h3
   have h5:vs=#[]:=by cases vs with | mk l=>exact congrArg Array.mk h5
   subst h5
   have h6:((ops[j]?).bind (·.dst)).bind (fun t=>a.tmps[t]?)=a.tmps[d]?:=by rw [h1];rfl
   rw [gH] at h4
   simp only [yielded,h6]
   cases hq:a.tmps[d]? with
   | none=>rfl
   | some u=>rw [hq] at h4;simp only [aaC] at h4;subst h4;rfl
  have h3:=hr d
  rw [h2] at h3
  have h4:=h3.fk
  have h5:a.tmps[d]?=some (.bool b):=by
   rw [gH] at h4
   cases hq:a.tmps[d]? with
   | none=>rw [hq] at h4;simp [undef] at h4
   | some u=>rw [hq] at h4;simpa using h4
  have h6:((ops[j]?).bind (·.dst)).bind (fun t=>a.tmps[t]?)=some (.bool b):=by rw [h1];simpa using h5
  simp only [yielded,h6]
  cases b<;>cases want<;>rfl
theorem atk {P:Program} {ops:Array Oper} {dr:Bool} {K K':St->Prop} (hk:∀ L,K L->K' L):∀ (l:List Oper) (L:St),opsL P dr ops l L K->opsL P dr ops l L K'
 | [],L,h=>hk L h
 | o :: r,L,⟨L',h1,h2⟩=>⟨L',h1,atk hk r L' h2⟩
theorem aHR {T E ty:TypeId} {x:Operand} {b sz off n:Nat} {blk:bA} {z:LV} (hc:Core W X Z0 μ Z L.heap w) (hr:∀ t,bu Z μ w (L.slot t) (a.tmps.getD t undef))
  (hx:L.ev x=.ref b sz off n) (hb:L.heap b=some blk) (hs:blk.sz=sz) (hm:blk.mt=true) (hl:off+n<=blk.vals.length) (hT:P.underlying T=some (.slice E)) (hz:cF P E z) (dP:z.av=sz) :
  ∃ w',(Builtin.clear_ #[T] ty #[a.eval x]).run P w=.ok (.tuple #[]) w' /\
   Core W X Z0 μ Z (L.bU b (some ⟨sz,blk.vals.take off++aV n z++blk.vals.drop (off+n),true⟩)).heap w'/\Frame Z μ w w':=by
 have e1:=lG (L:=L) hr x
 rw [hx] at e1
 have e2:=e1.2 rfl
 simp only [aJ] at e2
 have afN:n=0->(L.bU b (some ⟨sz,blk.vals.take off++aV n z++blk.vals.drop (off+n),true⟩)).heap=L.heap:=by
  rintro rfl
  funext c
  show (if c=b then _ else L.heap c)=_
  split
  ·rename_i e;subst e
   rw [hb]
   obtain⟨s,v,m⟩:=blk
   simp only at hs hm ⊢
   subst hs;subst hm
   simp
  ·rfl
 rcases e2 with⟨q1,rfl⟩ | ⟨id,cap,c,U',fz,q1,q2,q3,q4,q5⟩
 ·simp only [gj,and_true] at q1
  rw [afN rfl]
  exact⟨w,by rw [q1];simp [Builtin.clear_,run_underlying hT],hc,Frame.refl _ _ _⟩
 ·simp only [gj,and_true] at q1
  cases n with
  | zero =>
   rw [afN rfl]
   exact⟨w,by rw [q1];simp [Builtin.clear_,run_underlying hT],hc,Frame.refl _ _ _⟩
  | succ n =>
   obtain⟨bk,g1,c',T',part,rest,g2,g3,g4⟩:=hc.heap b id q2
   rw [hb] at g1;cases g1
   rw [q4] at g2;cases g2
   rw [hs] at g4
   obtain⟨i,zv,z1,z2,z3,z4⟩:=hz
   have zb:(zeroValue E).run P w=.ok zv w:=by simp [zeroValue,typeInfo,z1,z2]
   have bj:=LV.dT z3
   have nY:=aJ.len (z4 Z μ w) bj
   rw [dP] at nY
   have tN:=a6.replicate (z4 Z μ w) nY (n+1)
   have rK:=a6.length _ _ tN
   rw [List.length_replicate] at rK
   have aDq:blk.vals=blk.vals.take off++((blk.vals.drop off).take (n+1)++blk.vals.drop (off+(n+1))):=by
    rw [<-qL,xu,xu]
   rw [aDq] at g4
   obtain⟨p1,p2,d1,d2,d3⟩:=a6.split _ _ part g4
   obtain⟨p3,p4,d4,d5,d6⟩:=a6.split _ _ p2 d3
   have l1:=a6.length _ _ d2
   have l2:=a6.length _ _ d5
   rw [fQ,nt J] at l1
   rw [fQ,ni,nt J] at l2
   have hlen:c.toList.length=p1.length+(p3.length+p4.length)+rest.length:=by rw [g3,d1,d4];simp;omega
   have qP:off*sz+((aV (n+1) zv.cells.toList).flatten).length<=c.size:=by
    rw [<-nM,hlen,rK,l1,l2];omega
   have gC:=a6.append _ _ _ _ (a6.append _ _ _ _ d2 tN) d6
   have afD:∀ v∈(aV (n+1) zv.cells.toList).flatten,v.oneCell'=true:=fun v hv=>by
    simp only [List.mem_flatten] at hv
    obtain⟨l,kN,nN⟩:=hv
    rw [List.eq_of_mem_replicate kN] at nN
    exact aJ.one _ _ (z4 Z μ w) v nN
   have u6:∀ j,j<((aV (n+1) zv.cells.toList).flatten).length->(w.cell? ⟨id,off*sz+j,none⟩).isSome=true:=fun j hj=>by
    rw [cell_of_row w id _ c _ _ q4,sN J];rfl
   have ajR:∀ j,j<((aV (n+1) zv.cells.toList).flatten).length->w.frozen? ⟨id,off*sz+j,none⟩=false:=fun j hj=>by simp [World.frozen?,q4]
   have eI:=run_storeCells_cells (P:=P) id (off*sz) ((aV (n+1) zv.cells.toList).flatten) 0 w (by simpa using u6) (by simpa using ajR) afD
   simp only [mg] at eI
   rw [anP q4 qP afD] at eI
   have mF:c.toList.take (off*sz)++(aV (n+1) zv.cells.toList).flatten++c.toList.drop (off*sz+((aV (n+1) zv.cells.toList).flatten).length)=(p1++(aV (n+1) zv.cells.toList).flatten++p4)++rest:=by
    rw [g3,d1,d4,rK,<-l1,<-l2]
    have e:(p1++(p3++p4))++rest=p1++(p3++(p4++rest)):=by simp
    rw [e,akn,<-qL,ade,ade];simp
   rw [mF] at eI
   obtain⟨k1,k2⟩:=Core.rewrite (blk':=⟨sz,blk.vals.take off++aV (n+1) z++blk.vals.drop (off+(n+1)),true⟩)
    (c':=((p1++(aV (n+1) zv.cells.toList).flatten++p4)++rest).toArray) (part:=p1++(aV (n+1) zv.cells.toList).flatten++p4) (rest:=rest) hc q2 hb hm rfl q4
    (by rw [<-nM (xs:=c),hlen];simp only [ab2,jS,rK,l2];omega) aW gC rfl
   refine⟨_,?_,k1,k2⟩
   rw [q1]
   simp only [Builtin.clear_,apY,sZ,Sem.run_bind,Sem.run_pure,run_underlying hT,Result.andThen_ok,zb,amH,eI]
theorem aJU {T U E E' ty:TypeId} {x y:Operand} {b c sz off off2 n1 n2:Nat} {blk fh:bA} {news:List LV} {ag:Bool} (hc:Core W X Z0 μ Z L.heap w) (hr:∀ t,bu Z μ w (L.slot t) (a.tmps.getD t undef))
  (hx:L.ev x=.ref b sz off n1) (hb:L.heap b=some blk) (hs:blk.sz=sz) (hm:blk.mt=true) (hl:off<=blk.vals.length) (hT:P.underlying T=some (.slice E)) (hU:P.underlying U=some (.slice E')) (hE:bK P E sz ag)
  (hy:L.ev y=.ref c sz off2 n2) (oF:L.heap c=some fh) (zn:fh.sz=sz) (hn:news.length=Nat.min n2 n1) (h0:0<news.length) (nN:off2+news.length<=fh.vals.length) (aHL:news=(fh.vals.drop off2).take news.length) :
  ∃ v w',(Builtin.copy_ #[T,U] ty #[a.eval x,a.eval y]).run P w=.ok v w' /\
   Core W X Z0 μ Z (L.bU b (some ⟨sz,blk.vals.take off++news++blk.vals.drop (off+news.length),true⟩)).heap w'/\Frame Z μ w w':=by
 have jI:news.length<=n1:=by rw [hn];exact Nat.min_le_right _ _
 have fc:news.length<=n2:=by rw [hn];exact Nat.min_le_left _ _
 have e1:=lG (L:=L) hr x
 rw [hx] at e1
 have e2:=e1.2 rfl
 simp only [aJ] at e2
 have f1:=lG (L:=L) hr y
 rw [hy] at f1
 have f2:=f1.2 rfl
 simp only [aJ] at f2
 rcases e2 with⟨q1,q0⟩ | ⟨id,cap,cc,U',fz,q1,q2,q3,q4,q5⟩
 ·omega
 rcases f2 with⟨p1,p0⟩ | ⟨id2,aeT,cc2,U2,fz2,p1,p2,p3,p4,p5⟩
 ·omega
 simp only [gj,and_true] at q1 p1
 have one:∀ (l:List LV) (cs:List Value),a6 Z μ w sz l cs->∀ u∈cs,u.oneCell'=true:=by
  intro l
  induction l with
  | nil=>intro cs h;simp only [a6] at h;simp [h]
  | cons x xs ih =>
   intro cs h u hu
   simp only [a6] at h
   obtain⟨c1,c2,rfl,h2,h3,h4⟩:=h
   rcases oO.1 hu with hu | hu
   ·exact aJ.one _ _ h3 u hu
   ·exact ih c2 h4 u hu
 obtain⟨bk,g1,c',T',part,rest,g2,g3,g4⟩:=hc.heap c id2 p2
 rw [oF] at g1;cases g1
 rw [p4] at g2;cases g2
 obtain⟨c1,c2,d1,d2,d3⟩:=a6.split (fh.vals.take off2) (fh.vals.drop off2) part acg
 obtain⟨gu,c4,d4,d5,d6⟩:=a6.split ((fh.vals.drop off2).take news.length) ((fh.vals.drop off2).drop news.length) c2 (by rw [xu];exact d3)
 rw [<-aHL,zn] at d5
 have kN:=a6.length _ _ d2
 rw [fQ,nt J,zn] at kN
 have rK:=a6.length _ _ d5
 have zt:=adb (w:=w) (off:=off2*sz) (part:=gu) (rest:=c4++rest) p4 (by rw [g3,d1,d4,<-kN];simp)
 have yy:Src P sz U (.slice (some ⟨id2,off2*sz,none⟩) news.length aeT) news.length gu w:=Src.ofSlice w hU _ _ _ gu rK (fun j u hj=>by rw [Addr.add_mid];exact zt j u hj) (one _ _ d5)
 have mC:(Builtin.firstCells sz news.length (.slice (some ⟨id2,off2*sz,none⟩) n2 aeT)).run P w=.ok gu.toArray w:=yy.cells
 have afD:∀ v∈gu,v.oneCell'=true:=yy.one
 obtain⟨bk,g1,ct,T',part,rest,g2,g3,g4⟩:=hc.heap b id q2
 rw [hb] at g1;cases g1
 rw [q4] at g2;cases g2
 rw [hs] at g4
 obtain⟨v5,sF,r1,r2,r3⟩:=a6.split (blk.vals.take off) (blk.vals.drop off) part acg
 have l1:=a6.length _ _ r2
 rw [fQ,nt hl] at l1
 have l2:=a6.length _ _ r3
 rw [ni] at l2
 have qP:off*sz+gu.length<=cc.size:=by
  rw [rK,<-iw]
  exact bb (eT _ J) q5
 have aH8:a6 Z μ w sz (blk.vals.drop (off+news.length)) (sF.drop gu.length):=by
  rcases kD (off+news.length) blk.vals.length with h | h
  ·obtain⟨p3,p4,t1,t2,t3⟩:=a6.split ((blk.vals.drop off).take news.length) ((blk.vals.drop off).drop news.length) sF (by rw [xu];exact r3)
   have l3:=a6.length _ _ t2
   rw [fQ,ni,nt J,<-rK] at l3
   rw [t1,<-l3,ade,<-qL]
   exact t3
  ·rw [kB h,kB (by rw [l2,rK];exact eT _ J)]
   simp [a6]
 have gC:=a6.append _ _ _ _ (a6.append _ _ _ _ r2 d5) aH8
 have u6:∀ j,j<gu.length->(w.cell? ⟨id,off*sz+j,none⟩).isSome=true:=fun j hj=>by
  rw [cell_of_row w id _ cc _ _ q4,sN J];rfl
 have ajR:∀ j,j<gu.length->w.frozen? ⟨id,off*sz+j,none⟩=false:=fun j hj=>by simp [World.frozen?,q4]
 have eI:=run_storeCells_cells (P:=P) id (off*sz) gu 0 w (by simpa using u6) (by simpa using ajR) afD
 simp only [mg] at eI
 rw [anP q4 qP afD] at eI
 have hlen:cc.size=v5.length+sF.length+rest.length:=by rw [<-nM,g3,r1];simp;omega
 have mF:cc.toList.take (off*sz)++gu++cc.toList.drop (off*sz+gu.length)=(v5++gu++sF.drop gu.length)++rest.drop (gu.length-sF.length):=by
  rw [g3,r1,<-l1]
  have e:(v5++sF)++rest=v5++(sF++rest):=by simp
  rw [e,akn,<-qL,ade,List.drop_append];simp
 rw [mF] at eI
 obtain⟨k1,k2⟩:=Core.rewrite (blk':=⟨sz,blk.vals.take off++news++blk.vals.drop (off+news.length),true⟩)
  (c':=((v5++gu++sF.drop gu.length)++rest.drop (gu.length-sF.length)).toArray) (part:=v5++gu++sF.drop gu.length) (rest:=rest.drop (gu.length-sF.length)) hc q2 hb hm rfl q4
  (by
   simp only [ab2,jS,ni]
   omega) aW gC rfl
 refine⟨goInt news.length,_,?_,k1,k2⟩
 rw [q1,p1]
 simp only [Builtin.copy_,apY,sZ,are,Sem.run_bind,Sem.run_pure,run_underlying hT,Result.andThen_ok,Builtin.lenOf,run_sizeOf hE,<-hn,mC,eI]
theorem aGo {P:Program} {w:World} (T U E ty:TypeId) (k kl:IntKind) (i:TypeInfo) (z:Value) (ht:P.underlying T=some (.slice E)) (hu:P.underlying U=some (.int k)) (hi:P.info? E=some i) (hz:i.zero=some z) (n:Nat)
  (base:Option Addr) (sLen sCap:Nat) (olds:List Value) (hold:(Builtin.firstCells i.size sLen (.slice base sLen sCap)).run P w.drew=.ok olds.toArray w.drew) (hg:sCap<sLen+n)
  (h0:0<n) (dx:0<i.size) (gv:sLen+n<=4611686018427387904) (je:(sLen+n)*i.bytes<=140737488355328) (qP:Builtin.nextslicecap (sLen+n) sCap*i.bytes<=281474976710656) :
  (Builtin.append_ #[T,U] ty #[.slice base sLen sCap,.int kl (n:Int)]).run P w =
   .ok (.slice (some ⟨w.heap.size,0,none⟩) (sLen+n) (grownCap w (sLen+n) sCap E))
    (w.drew.alloc (.cells (olds.toArray++Builtin.zeroCells z.cells n++Builtin.zeroCells z.cells (grownCap w (sLen+n) sCap E-(sLen+n))) E)):=by
 have hn:¬ (sLen+n<=sCap):=by omega
 have iy:¬ n=0:=by omega
 have hw:IntKind.i64.wrap (n:Int)=(n:Int):=by simp [IntKind.wrap,show IntKind.i64.bits=64 from rfl];omega
 have h1:¬ ((n:Int)<0):=by omega
 have h2:¬ (281474976710656<(n:Int)*(i.bytes:Int)):=by
  have h4:n*i.bytes<=(sLen+n)*i.bytes:=eT _ J
  have h5:((n*i.bytes:Nat):Int)<=140737488355328:=by omega
  rw [ac8] at h5
  omega
 have ali:¬ (9223372036854775807<((sLen:Int)+(n:Int))):=by omega
 have amh:¬ (281474976710656<Builtin.nextslicecap (sLen+n) sCap*i.bytes):=by omega
 have bT:¬ (i.size=0):=by omega
 have hns:¬ (n*i.size=0):=Nat.mul_ne_zero iy bT
 simp [Builtin.append_,run_underlying ht,run_underlying hu,sizeOf,typeInfo,zeroValue,hi,hz,hn,iy,hw,h1,h2,ali,amh,asInt,asIntOf,Question.forced,hold,bT,newRow,grownCap]
 intro h
 rcases ajU.1 h with h | h<;>omega
theorem ay1 {T U E ty:TypeId} {d b sz n len cp:Nat} {x y:Operand} {z:LV} {dN:Nat} {k kl:IntKind} {blk:bA} (hc:Core W X Z0 μ Z L.heap w) (hr:∀ t,bu Z μ w (L.slot t) (a.tmps.getD t undef))
  (hT:P.underlying T=some (.slice E)) (hU:P.underlying U=some (.int k)) (hz:cF P E z) (hE:bK P E sz z.isAgg) (dP:z.av=sz) (hb:kZ P E dN)
  (hx:L.ev x=.jY b sz 0 len cp) (lY:L.heap b=some blk) (hs:blk.sz=sz) (hlen:len<=blk.vals.length) (hy:L.ev y=.v (.int kl (n:Nat))) (gX:L.heap d=none) (hg:cp<len+n) (dx:0<sz)
  (hm:(len+n)*dN<=140737488355328) (gv:len+n<=4611686018427387904) :
  ∃ v w' bD Z',(Builtin.append_ #[T,U] ty #[a.eval x,a.eval y]).run P w=.ok v w'/\Core W X Z0 bD Z' (L.bU d (some ⟨sz,blk.vals.take len++aV n z,true⟩)).heap w' /\
   (∀ t,bu Z' bD w' (L.slot t) (a.tmps.getD t undef))/\bu Z' bD w' (.ref d sz 0 (len+n)) v:=by
 obtain⟨i,zv,z1,z2,z3,z4⟩:=hz
 have e1:=lG (L:=L) hr x
 rw [hx] at e1
 have e3:=e1.2 rfl
 simp only [aJ] at e3
 obtain⟨id,cc,Ti,fz,q1,q2,q3,q4,q5⟩:=e3
 simp only [gj,and_true] at q1
 have e2:=lG (L:=L) hr y
 rw [hy] at e2
 have e2:=e2.fk
 have bj:=LV.dT z3
 have vB:i.size=sz:=by have:=hE.1;rw [z1] at this;simpa using this
 have tt:i.bytes=dN:=by obtain⟨i',g1,g2⟩:=hb;rw [z1] at g1;cases g1;exact g2
 have nY:=aJ.len (z4 Z μ w) bj
 have hcz:zv.cells.size=sz:=by rw [<-nM,nY,dP]
 have w8:=nextslicecap_le hg
 have qP:Builtin.nextslicecap (len+n) cp*i.bytes<=281474976710656:=by
  rw [tt]
  calc Builtin.nextslicecap (len+n) cp*dN<=(2*(len+n))*dN:=eT _ w8
   _=2*((len+n)*dN):=by rw [fJ]
   _<=281474976710656:=by omega
 obtain⟨bk,g1,c',T',part,rest,g2,g3,g4⟩:=hc.heap b id q2
 rw [lY] at g1;cases g1
 rw [q4] at g2;cases g2
 rw [hs] at g4
 obtain⟨oldc,c2,d1,d2,d3⟩:=a6.split (blk.vals.take len) (blk.vals.drop len) part acg
 have kN:=a6.length _ _ d2
 rw [fQ,nt hlen] at kN
 have zt:=adb (w:=w) (off:=0*sz) (part:=oldc) (rest:=c2++rest) q4 (by rw [g3,d1];simp)
 have hold:(Builtin.firstCells i.size len (.slice (some ⟨id,0*sz,none⟩) len cp)).run P w.drew=.ok oldc.toArray w.drew:=by
  rw [vB]
  exact run_firstCells_some w.drew sz len _ len cp oldc kN (fun j u hj=>by rw [Addr.add_mid];simpa using zt j u hj)
 have fI:=aGo (P:=P) (w:=w) T U E ty k kl i zv hT hU z1 z2 n (some ⟨id,0*sz,none⟩) len cp oldc hold hg J J gv (by rw [tt];exact hm) qP
 have ab4:=vF hc gX
 obtain⟨Z1,k1,k2⟩:=hc.v7 (ae3 (blk:=⟨sz,blk.vals.take len++aV n z,true⟩) gX)
 have gC:=a6.append _ _ _ _ (d2.mono k2 (fun _ _ h=>h) ⟨fun _ _=>rfl,(Frame.refl Z μ w).m⟩) (a6.replicate (sz:=sz) (z4 Z1 μ w) (by rw [nY,dP]) n)
 obtain⟨Z2,h1,h2,h3,h4,h5,h6⟩:=k1.push (d:=d) (blk:=⟨sz,blk.vals.take len++aV n z,true⟩) (part:=oldc++(aV n zv.cells.toList).flatten) (rest:=(Builtin.zeroCells zv.cells (grownCap w (len+n) cp E-(len+n))).toList) aW ab4
  (⟨rfl,rfl,rfl,rfl⟩:sf w (w.drew.alloc (.cells (oldc.toArray++Builtin.zeroCells zv.cells n++Builtin.zeroCells zv.cells (grownCap w (len+n) cp E-(len+n))) E)) _) (by rw [alc,alc,amH]) gC
 have dS:Frame Z μ w (w.drew.alloc (.cells (oldc.toArray++Builtin.zeroCells zv.cells n++Builtin.zeroCells zv.cells (grownCap w (len+n) cp E-(len+n))) E)):=⟨fun id h=>h4.z id (k2 id h),h4.m⟩
 refine⟨_,_,_,Z2,by rw [q1,e2];exact fI,h1,fun t=>(hr t).mono (fun id h=>h2 id (k2 id h)) h3 dS,⟨by simp [LV.isAgg],fun _=>?_⟩⟩
 simp only [aJ]
 have kP:=grownCap_ge w (len+n) cp E
 refine .inr ⟨w.heap.size,_,_,E,(0,0),by simp,h5,kP,h6,?_⟩
 rw [ahh,ahh,size_zeroCells,size_zeroCells,hcz,ab2,kN,fg,<-iw,<-iw]
 exact eT _ J
theorem aDP {f:FuncId} {x y:Operand} {Tx Ty:TypeId} {fn:Func} {b c sz o1 n1 o2 n2:Nat} {ag:Bool} {tS tR e:TypeId} {dst:Option Tmp} {ty:TypeId} {pos:String} {af:Array Edge} {g:Option (Nat × Bool)} (hc:Core W X Z0 μ Z L.heap w) (hr:∀ t,bu Z μ w (L.slot t) (a.tmps.getD t undef))
  (hf:P.funcs[f]?=some fn) (uE:(fn.name== "runtime.NumGoroutine")=false) (hb:fn.body.isNone=true) (hn:Extern.findNext fn=none) (he:Extern.find fn=some (Extern.SlicesOverlaps.overlaps #[tS,tS] #[tR]))
  (ht:P.underlying tS=some (.slice e)) (hE:bK P e sz ag) (hx:L.ev x=.ref b sz o1 n1) (hy:L.ev y=.ref c sz o2 n2) (xm:b≠c) (h1:0<n1) (h2:0<n2) (dx:0<sz) :
  (execOp a.eval ⟨dst,.call ⟨.value (.func f),#[x,y],#[Tx,Ty]⟩,ty,pos,af,g⟩).run P w=.ok (.value (.bool false)) w:=by
 have e1:=lG (L:=L) hr x
 rw [hx] at e1
 have e2:=e1.2 rfl
 simp only [aJ] at e2
 have f1:=lG (L:=L) hr y
 rw [hy] at f1
 have f2:=f1.2 rfl
 simp only [aJ] at f2
 rcases e2 with⟨q1,q0⟩ | ⟨id,cap,cc,U',fz,q1,q2,q3,q4,q5⟩
 ·omega
 rcases f2 with⟨p1,p0⟩ | ⟨id2,aeT,cc2,U2,fz2,p1,p2,p3,p4,p5⟩
 ·omega
 simp only [gj,and_true] at q1 p1
 have aE3:id≠id2:=fun h=>xm (hc.inj _ _ _ q2 (h ▸ p2))
 obtain⟨bk,g1,c',T',part,rest,g2,g3,g4⟩:=hc.heap b id q2
 rw [q4] at g2;cases g2
 have hv:(Extern.SlicesOverlaps.overlaps #[tS,tS] #[tR] #[a.eval x,a.eval y]).run P w=.ok (.bool false) w:=by
  rw [q1,p1]
  refine Lib.run_overlaps_apart w tS tR e ht sz (fun w'=>run_sizeOf hE) ⟨id,o1*sz,none⟩ ⟨id2,o2*sz,none⟩ n1 cap n2 aeT aE3 U' U2 cc.size cc2.size (by simp only [World.shape?,q4]) (by simp only [World.shape?,p4]) ?_ (by simp [World.frozen?,q4]) (by simp [World.frozen?,q4])
  have:0<(o2+aeT)*sz:=Nat.mul_pos J dx
  omega
 have x9:=run_callFunc_extern (P:=P) (args:=#[a.eval x,a.eval y]) hf uE hb hn he w
 rw [hv] at x9
 simp only [execOp,resolve,Act.eval,Deferred.ofValue,Sem.run_bind,Sem.run_pure,Result.andThen_ok,invoke]
 simpa using x9
theorem acn {o:Oper} (hs:fT n W X Z0 L a w) (eI:Step P dr ops o L L') (hd:∀ t,o.dst=some t->t<n) {K:Act->World->Prop} {Q:Exit->Act->World->Prop}
  (hK:∀ a' w',fT n W X Z0 L' a' w'->K a' w'):if Region.wanted o (yielded ops a.tmps) then o.wp P a w K Q else K (a.put o.dst undef) w:=by
 obtain⟨eh,bT,μ,Z,hc,hr⟩:=hs
 have iB:∀ t,o.dst=some t->t<a.tmps.size:=fun t h=>by rw [bT];exact hd t h
 cases eI with
 | skip hg h =>
  rw [abY hr hg]
  simp only [adn,if_false]
  subst h
  exact hK _ _ ⟨by rw [put_defers];exact eh,by rw [rW];exact bT,μ,Z,by rw [mz];exact hc,rY iB hr ⟨#[],rfl,rfl⟩⟩
 | @val r fr H1 hg hle dS ho h =>
  rw [abY hr hg]
  simp only [if_true]
  obtain⟨Z1,k1,k2⟩:=hc.v7 hle
  have gk:∀ t,bu Z1 μ w (L.slot t) (a.tmps.getD t undef):=fun t=>(hr t).mono k2 (fun _ _ h=>h) ⟨fun _ _=>rfl,(Frame.refl Z μ w).m⟩
  obtain⟨dst,op,ty,pos,after,g⟩:=o
  refine lZ.sound k1 ho (fun x _=>lG (L:=L) gk x) (fun b blk hb=>?_) dst ty pos after g ?_
  ·obtain⟨h1,m,h2,h3⟩:=dS b blk hb
   exact⟨m,h2,h3,vF hc h1⟩
  ·intro v w' bD Z' pP
   subst h
   refine hK _ _ ⟨by rw [put_defers];exact eh,by rw [rW];exact bT,bD,Z',pP.core,?_⟩
   exact rY (L:=L) iB (fun t=>(gk t).mono pP.hz pP.hm pP.hf) pP.rep
 | st hg ho =>
  rw [abY hr hg]
  simp only [if_true]
  obtain⟨dst,op,ty,pos,after,g⟩:=o
  simp only at ho iB
  cases ho with
  | store hp hb pd hm hi hy pJ hT bj =>
   obtain⟨w',h1,h2,h3⟩:=aFl (P:=P) hc hr hp hb pd hm hi hy pJ hT bj dst ty pos after g
   unfold Oper.wp
   rw [h1,Oper.upon_skip]
   refine hK _ _ ⟨by rw [put_defers];exact eh,by rw [rW];exact bT,μ,Z,by rw [mz];exact h2,?_⟩
   exact rY iB (fun t=>(hr t).mono (fun _ h=>h) (fun _ _ h=>h) h3) trivial
  | @fV T U E E' d b sz len blk x y news z dN hx hb pd hm hlen gX gJ hT hU hz hE dP je hy alF gv dx =>
   obtain⟨v,w',bD,Z',r1,r2,r3,r4⟩:=aEb (P:=P) (ty:=ty) hc hr hx hb pd hm hlen gX gJ hT hU hz hE dP je hy alF gv
   have fI:(execOp a.eval ⟨dst,.call ⟨.builtin .append,#[x,y],#[T,U]⟩,ty,pos,after,g⟩).run P w=.ok (.value v) w':=by
    simp only [execOp,resolve,Sem.run_bind,Sem.run_pure,Result.andThen_ok,invoke,builtin]
    simp only [acY,lI,wL,r1,Result.andThen_ok]
   unfold Oper.wp
   rw [fI,Oper.upon_value]
   refine hK _ _ ⟨by rw [put_defers];exact eh,by rw [rW];exact bT,bD,Z',by rw [mz];exact r2,?_⟩
   exact rY iB r3 r4
  | @xG T U E E' d sz x y news z dN hx gX hT hU hz hE dP je hy hn alF gv dx =>
   obtain⟨v,w',bD,Z',r1,r2,r3,r4⟩:=aCu (P:=P) (ty:=ty) hc hr hx gX hT hU hz hE dP je hy hn alF gv
   have fI:(execOp a.eval ⟨dst,.call ⟨.builtin .append,#[x,y],#[T,U]⟩,ty,pos,after,g⟩).run P w=.ok (.value v) w':=by
    simp only [execOp,resolve,Sem.run_bind,Sem.run_pure,Result.andThen_ok,invoke,builtin]
    simp only [acY,lI,wL,r1,Result.andThen_ok]
   unfold Oper.wp
   rw [fI,Oper.upon_value]
   refine hK _ _ ⟨by rw [put_defers];exact eh,by rw [rW];exact bT,bD,Z',by rw [mz];exact r2,?_⟩
   exact rY iB r3 r4
  | @clr T E x b sz off n blk z hx hb pd hm hl hT hz dP =>
   obtain⟨w',r1,r2,r3⟩:=aHR (P:=P) (ty:=ty) hc hr hx hb pd hm hl hT hz dP
   have fI:(execOp a.eval ⟨dst,.call ⟨.builtin .clear,#[x],#[T]⟩,ty,pos,after,g⟩).run P w=.ok (.value (.tuple #[])) w':=by
    simp only [execOp,resolve,Sem.run_bind,Sem.run_pure,Result.andThen_ok,invoke,builtin]
    simp only [acY,lI,wL,r1,Result.andThen_ok]
   unfold Oper.wp
   rw [fI,Oper.upon_value]
   refine hK _ _ ⟨by rw [put_defers];exact eh,by rw [rW];exact bT,μ,Z,by rw [mz];exact r2,?_⟩
   exact rY iB (fun t=>(hr t).mono (fun _ h=>h) (fun _ _ h=>h) r3) trivial
  | @acS T U E E' x y b sz off n1 blk c off2 n2 fh news ag hx hb pd hm hl hT hU hE hy oF zn hn h0 nN tN =>
   obtain⟨v,w',r1,r2,r3⟩:=aJU (P:=P) (ty:=ty) hc hr hx hb pd hm hl hT hU hE hy oF zn hn h0 nN tN
   have fI:(execOp a.eval ⟨dst,.call ⟨.builtin .copy,#[x,y],#[T,U]⟩,ty,pos,after,g⟩).run P w=.ok (.value v) w':=by
    simp only [execOp,resolve,Sem.run_bind,Sem.run_pure,Result.andThen_ok,invoke,builtin]
    simp only [acY,lI,wL,r1,Result.andThen_ok]
   unfold Oper.wp
   rw [fI,Oper.upon_value]
   refine hK _ _ ⟨by rw [put_defers];exact eh,by rw [rW];exact bT,μ,Z,by rw [mz];exact r2,?_⟩
   exact rY iB (fun t=>(hr t).mono (fun _ h=>h) (fun _ _ h=>h) r3) trivial
 | stM _ hg ho =>
  rw [abY hr hg]
  simp only [if_true]
  obtain⟨dst,op,ty,pos,after,g⟩:=o
  simp only at ho iB
  cases ho with
  | call hb hm hp ha hn hk ta l6 =>
   refine aIi hc hr hb hm hp ha hn hk ta l6 fun v w' Z' h1 h2 h3=>?_
   refine hK _ _ ⟨by rw [put_defers];exact eh,by rw [rW];exact bT,μ,Z',by rw [mz];exact h1,?_⟩
   exact rY (L:=L.bU _ _) iB h2 h3
  | @ajj T U E x y z k kl sz dN len cp n d b blk hT hU hz hE dP hb hx lY pd hlen hy gX hgr dx hm gv =>
   obtain⟨v,w',bD,Z',r1,r2,r3,r4⟩:=ay1 (P:=P) (ty:=ty) hc hr hT hU hz hE dP hb hx lY pd hlen hy gX hgr dx hm gv
   have fI:(execOp a.eval ⟨dst,.call ⟨.builtin .append,#[x,y],#[T,U]⟩,ty,pos,after,g⟩).run P w=.ok (.value v) w':=by
    simp only [execOp,resolve,Sem.run_bind,Sem.run_pure,Result.andThen_ok,invoke,builtin]
    simp only [acY,lI,wL,r1,Result.andThen_ok]
   unfold Oper.wp
   rw [fI,Oper.upon_value]
   refine hK _ _ ⟨by rw [put_defers];exact eh,by rw [rW];exact bT,bD,Z',by rw [mz];exact r2,?_⟩
   exact rY (L:=L.bU _ _) iB r3 r4
  | @ovl f x y Tx Ty fn b c sz o1 n1 o2 n2 ag tS tR e hf uE hb hn he ht hE hx hy xm h1 h2 dx =>
   have fI:=aDP (P:=P) (Tx:=Tx) (Ty:=Ty) (dst:=dst) (ty:=ty) (pos:=pos) (af:=after) (g:=g) hc hr hf uE hb hn he ht hE hx hy xm h1 h2 dx
   unfold Oper.wp
   rw [fI,Oper.upon_value]
   refine hK _ _ ⟨by rw [put_defers];exact eh,by rw [rW];exact bT,μ,Z,by rw [mz];exact hc,?_⟩
   exact rY iB hr ⟨by simp [LV.isAgg],fun _=>by simp [aJ,Value.oneCell']⟩
  | @anG T U E x y z k kl sz dN n d hT hU hz hE dP hb hx hy gX h0 dx hm gv =>
   obtain⟨v,w',bD,Z',r1,r2,r3,r4⟩:=aBi (P:=P) (ty:=ty) hc hr hT hU hz hE dP hb hx hy gX h0 dx hm gv
   have fI:(execOp a.eval ⟨dst,.call ⟨.builtin .append,#[x,y],#[T,U]⟩,ty,pos,after,g⟩).run P w=.ok (.value v) w':=by
    simp only [execOp,resolve,Sem.run_bind,Sem.run_pure,Result.andThen_ok,invoke,builtin]
    simp only [acY,lI,wL,r1,Result.andThen_ok]
   unfold Oper.wp
   rw [fI,Oper.upon_value]
   refine hK _ _ ⟨by rw [put_defers];exact eh,by rw [rW];exact bT,bD,Z',by rw [mz];exact r2,?_⟩
   exact rY (L:=L.bU _ _) iB r3 r4
theorem atq {Q:Exit->Act->World->Prop} {K:St->Prop}:∀ (l:List Oper) (L:St) (a:Act) (w:World),fT n W X Z0 L a w->opsL P dr ops l L K->(∀ o∈l,∀ t,o.dst=some t->t<n) ->
  (∀ L' a' w',K L'->fT n W X Z0 L' a' w'->Q .normal a' w')->wpList P ops Q l a w
 | [],L,a,w,hs,hk,_,hq=>hq L a w hk hs
 | o :: r,L,a,w,hs,⟨L',h1,h2⟩,hd,hq=>by
   have:=acn (Q:=Q) (K:=wpList P ops Q r) hs h1 (hd o aW) (fun a' w' jO=>atq r L' a' w' jO h2 (fun o' qS=>hd o' (by simp [qS])) hq)
   unfold wpList
   split
   ·rename_i h;rw [if_pos h] at this;exact .inl this
   ·rename_i h;rw [if_neg h] at this;exact this
end
def az (L L':St):Prop:=∀ n W X Z0 a w,fT n W X Z0 L a w->fT n W X Z0 L' a w
theorem az.refl (L:St):az L L:=fun _ _ _ _ _ _ h=>h
theorem az.trans {L L' L'':St} (h:az L L') (h':az L' L''):az L L'':=fun n W X Z0 a w k=>h' n W X Z0 a w (h n W X Z0 a w k)
theorem az.kill (L:St) (b:Nat) (h0:b≠0:=by decide):az L (L.kill b):=fun _ _ _ _ _ _ ⟨h1,h2,_,Z,hc,hr⟩=>⟨h1,h2,_,Z,hc.kill b h0,aef b hr⟩
def m8 (o:Oper):List Nat:=o.after.toList.filterMap fun e=>if Region.binds .any e then some e.on else none
inductive oZ (ops:Array Oper):Nat->Nat->Prop
 | one {j i o} (ho:ops[i]?=some o) (h:j∈m8 o):oZ ops j i
 | step {j k i o} (h:oZ ops j k) (ho:ops[i]?=some o) (hk:k∈m8 o):oZ ops j i
def mask (acc:List Nat) (o:Oper):Nat:=(m8 o).foldl (fun s j=>s ||| (2 ^ j ||| acc.getD j 0)) 0
def bef:List Oper->List Nat->List Nat
 | [],acc=>acc
 | o :: r,acc=>bef r (acc++[mask acc o])
def xx:Op->Bool
 | .store ..=>true
 | .call ⟨.builtin .append,_,_⟩=>true
 | .call ⟨.builtin .clear,_,_⟩=>true
 | .call ⟨.builtin .copy,_,_⟩=>true
 | _=>false
def acQ (ops:Array Oper) (b:List Nat) (i j:Nat):Bool :=
 match (ops.getD j default).dst with
 | none=>true
 | some d=>(ops.getD i default).dst != some d &&
   (!((ops.getD i default).looksAt ops).contains d || (if j<i then(b.getD i 0).testBit j else(b.getD j 0).testBit i))
def atC (ops:Array Oper) (m j:Nat):Bool :=
 (ops.getD j default).guard.isNone && (match (ops.getD j default).op with | .move _=>true | .binOp ..=>(ops.getD m default).dst.isNone | .extract ..=>(ops.getD m default).dst.isNone | _=>false) &&
 (match (ops.getD j default).dst with | some d=>!((ops.getD m default).looksAt ops).contains d && (ops.getD m default).dst != some d | none=>true) &&
 (match (ops.getD m default).dst with | some d=>!((ops.getD j default).looksAt ops).contains d | none=>true)
def awL (o:Oper):Bool:=o.guard.isNone && (match o.op with | .store ..=>o.dst.isNone | .call ⟨.builtin .append,_,_⟩=>o.dst.isSome | _=>false)
def yg (ops:Array Oper) (m:Nat) (fr:List Nat):Bool :=
 decide (m<=ops.size) &&
 (fe ops.size).all (fun i=>(m8 (ops.getD i default)).all (·<i) &&
  (if m<=i then(fe i).all (fun j=>((bef ops.toList []).getD i 0).testBit j || (i==m && fr.contains j)) else !xx (ops.getD i default).op)) &&
 ((fe m).all fun i=>(fe m).all fun j=>i==j || acQ ops (bef ops.toList []) i j) &&
 (fr.isEmpty || (decide (m<ops.size) && awL (ops.getD m default) && fr.all fun j=>decide (j<m) && atC ops m j))
theorem arN (acc:List Nat) (t:Nat):∀ (l:List Nat) (s:Nat),(l.foldl (fun s j=>s ||| (2 ^ j ||| acc.getD j 0)) s).testBit t=true ->
  s.testBit t=true\/∃ j∈l,t=j\/(acc.getD j 0).testBit t=true
 | [],s,h=>.inl h
 | j :: l,s,h=>by
   rcases arN acc t l _ h with h | ⟨k,hk,h⟩
   ·rw [ayi,ayi,qF,qF] at h
    rcases h with h | h | h
    ·exact oB
    ·rw [Nat.testBit_two_pow] at h
     exact .inr ⟨j,by simp,.inl (by simpa using h.symm:j=t).symm⟩
    ·exact .inr ⟨j,by simp,.inr h⟩
   ·exact .inr ⟨k,by simp [hk],h⟩
theorem agi (ops:Array Oper):∀ (l:List Oper) (acc:List Nat),(∀ i,l[i]?=ops[acc.length+i]?)->(∀ i t,(acc.getD i 0).testBit t=true->oZ ops t i) ->
  ∀ i t,((bef l acc).getD i 0).testBit t=true->oZ ops t i
 | [],acc,_,h=>h
 | o :: r,acc,hl,h=>by
   refine agi ops r (acc++[mask acc o]) (fun i=>?_) (fun i t ht=>?_)
   ·have:=hl (i+1)
    simp only [are] at this
    rw [this];congr 1;simp;omega
   ·by_cases hi:i<acc.length
    ·rw [bE,aeo hi,<-bE] at ht
     exact h i t ht
    ·by_cases he:i=acc.length
     ·subst he
      have ho:ops[acc.length]?=some o:=by have:=hl 0;simpa using this.symm
      rw [bE,aeP J] at ht
      simp only [sM,sZ,aaC] at ht
      rcases arN acc t (m8 o) 0 ht with h0 | ⟨j,hj,rfl | h2⟩
      ·simp at h0
      ·exact .one ho hj
      ·exact .step (h j t h2) ho hj
     ·have:(acc++[mask acc o]).getD i 0=0:=by
       rw [bE,List.getElem?_eq_none bq];rfl
      rw [this] at ht;simp at ht
theorem zA {ops:Array Oper} {gE:Array Bool} (_hsz:gE.size=ops.size) {i:Nat}:i∈Region.ready .any ops gE ↔
  ∃ o,ops[i]?=some o/\gE.getD i true=false/\∀ j∈m8 o,gE.getD j false=true:=by
 unfold Region.ready
 simp only [List.mem_filter,wF,mR,zr]
 constructor
 ·rintro⟨h1,h2,h3⟩
  refine⟨ops[i],sN h1,h2,fun j hj=>?_⟩
  rw [sN h1] at h3
  simp only [rz,aaC,axF] at h3
  simp only [m8,aaF] at hj
  obtain⟨e,he,hj⟩:=hj
  have:=h3 e (by simpa using he)
  split at hj
  ·rename_i hb
   simp only [fv] at hj
   subst hj
   simpa [hb] using this
  ·cases hj
 ·rintro⟨o,h1,h2,h3⟩
  have hi:=(nC.1 h1).1
  refine⟨hi,h2,?_⟩
  rw [h1]
  simp only [rz,aaC,axF]
  intro e he
  cases hb:Region.binds .any e with
  | false=>simp
  | true =>
   have:=h3 e.on (by simp only [m8,aaF];exact⟨e,by simpa using he,by simp [hb]⟩)
   simpa using this
theorem aqq {α:Type} (p q:α->Bool):∀ (l:List α),(∀ x∈l,p x=true->q x=true)->(∃ x∈l,q x=true/\p x=false)->l.countP p<l.countP q
 | [],_,⟨x,hx,_⟩=>by simp at hx
 | y :: l,h,⟨x,hx,h1,h2⟩=>by
   have hle:∀ (l:List α),(∀ x∈l,p x=true->q x=true)->l.countP p<=l.countP q:=fun l h=>List.countP_mono_left h
   simp only [List.countP_cons]
   rcases List.mem_cons.1 hx with rfl | hx
   ·have:=hle l (fun z hz=>h z (by simp [hz]))
    simp [h1,h2];omega
   ·have ih:=aqq p q l (fun z hz=>h z (by simp [hz])) ⟨x,hx,h1,h2⟩
    have hy:=h y aW
    cases hp:p y with
    | false=>simp;split<;>omega
    | true=>simp [hy hp];omega
theorem aGy {P:Program} {ops:Array Oper} {Q:Exit->Act->World->Prop} (Inv:Array Bool->Act->World->Prop)
  (yC:∀ i o,ops[i]?=some o->∀ j∈m8 o,j<i)
  (ack:∀ gE a w i o,gE.size=ops.size->Inv gE a w->ops[i]?=some o->gE.getD i true=false->(∀ j∈m8 o,gE.getD j false=true) ->
   if Region.wanted o (yielded ops a.tmps) then o.wp P a w (fun a' w'=>Inv (gE.setIfInBounds i true) a' w') Q else Inv (gE.setIfInBounds i true) (a.put o.dst undef) w)
  (ap8:∀ gE a w,gE.size=ops.size->Inv gE a w->(∀ i,i<ops.size->gE.getD i false=true)->Q .normal a w) :
  ∀ (fuel:Nat) (gE:Array Bool) (a:Act) (w:World),gE.size=ops.size->(fe ops.size).countP (fun i=>!gE.getD i true)<=fuel->Inv gE a w->wpAny P .any ops Q fuel gE a w:=by
 have gC:∀ (gE:Array Bool),gE.size=ops.size->Region.ready .any ops gE=[]->∀ i,i<ops.size->gE.getD i false=true:=by
  intro gE bT hr i
  induction i using acP with
  | _ i ih =>
   intro hi
   cases hl:gE.getD i false with
   | true=>rfl
   | false =>
    have h1:gE.getD i true=false:=by
     rw [gH,sN J] at hl ⊢
     simpa using hl
    have:i∈Region.ready .any ops gE:=(zA bT).2 ⟨ops[i],sN hi,h1,fun j hj=>by
     have rn:=yC i _ (sN hi) j hj
     exact ih j rn J⟩
    rw [hr] at this;cases this
 intro fuel
 induction fuel with
 | zero =>
  intro gE a w bT hc hI
  have hr:Region.ready .any ops gE=[]:=by
   apply List.eq_nil_iff_forall_not_mem.2
   intro i hi
   obtain⟨o,h1,h2,_⟩:=(zA bT).1 hi
   have kp:0<(fe ops.size).countP (fun i=>!gE.getD i true) :=
    List.countP_pos_iff.2 ⟨i,by simpa using (nC.1 h1).1,by rw [h2];rfl⟩
   omega
  exact⟨hr,ap8 gE a w bT hI (gC gE bT hr)⟩
 | succ fuel ih =>
  intro gE a w bT hc hI
  refine⟨fun hr=>ap8 gE a w bT hI (gC gE bT hr),fun i hi=>?_⟩
  obtain⟨o,h1,h2,h3⟩:=(zA bT).1 hi
  have nn:=(nC.1 h1).1
  have hs:=ack gE a w i o bT hI h1 h2 h3
  have aKt:(fe ops.size).countP (fun k=>!(gE.setIfInBounds i true).getD k true)<(fe ops.size).countP (fun k=>!gE.getD k true):=by
   apply aqq
   ·intro k _ hk
    by_cases e:i=k
    ·subst e
     rw [gH,vW J] at hk
     simp at hk
    ·rw [gH,qf e] at hk
     rw [gH];exact hk
   ·refine⟨i,by simpa using nn,by rw [h2];rfl,?_⟩
    rw [gH,vW J];rfl
  have asW:∀ a' w',Inv (gE.setIfInBounds i true) a' w'->wpAny P .any ops Q fuel (gE.setIfInBounds i true) a' w':=fun a' w' h =>
   ih _ a' w' (by simpa using bT) J h
  unfold wpOp
  rw [h1]
  simp only
  split
  ·rename_i hw;rw [if_pos hw] at hs;exact .inl (Oper.wp_mono asW hs)
  ·rename_i hw;rw [if_neg hw] at hs;exact asW _ _ hs
end Go.Lg
namespace Go.Lg
theorem b9.le_refl (H:b9):H.le H:=fun _ blk h=>⟨blk.mt,h,fun h=>h,fun h1 h2=>by rw [h1] at h2;cases h2⟩
theorem b9.le_trans {H H' H'':b9} (h:H.le H') (h':H'.le H''):H.le H'':=fun b blk hb=>by
 obtain⟨m,g1,g2,g3⟩:=h b blk hb
 obtain⟨m',k1,k2,k3⟩:=h' b _ g1
 refine⟨m',k1,fun e=>k2 (g2 e),fun e1 e2=>?_⟩
 cases hm:m with
 | false=>exact g3 e1 hm
 | true=>exact k3 hm e2
section
variable {P:Program} {W w:World} {X:XS} {Z0 Z:Nat->Prop} {μ:Nat->Option Nat} {a:Act} {n:Nat} {ops:Array Oper}
theorem abw {K:St->Prop}:∀ (l:List Oper) (L:St),opsL P true ops l L K->∃ f:Nat->St,f 0=L/\(∀ i o,l[i]?=some o->Step P true ops o (f i) (f (i+1)))/\K (f l.length)
 | [],L,h=>⟨fun _=>L,rfl,fun i o h=>by simp at h,h⟩
 | o :: r,L,⟨L',h1,h2⟩=>by
   obtain⟨f,g1,g2,g3⟩:=abw r L' h2
   refine⟨fun i=>match i with | 0=>L | i+1=>f i,rfl,fun i o' h=>?_,g3⟩
   cases i with
   | zero=>simp only [sZ,fv] at h;subst h;rw [<-g1] at h1;exact h1
   | succ i=>exact g2 i o' nP
theorem gR.tail {L L':St} {dst:Option Tmp} {op:Op} (h:gR P L dst op L'):xx op=true:=by cases h<;>rfl
theorem axS {o:Oper} {L L':St} (ht:xx o.op=false) (h:Step P true ops o L L'):L.heap.le L'.heap/\∀ t,o.dst≠some t->L'.slot t=L.slot t:=by
 have pJ:∀ (r:LV) t,o.dst≠some t->(L.put o.dst r).slot t=L.slot t:=fun r t bj=>by
  unfold St.put
  cases hd:o.dst with
  | none=>rfl
  | some d=>exact(iI L d r t).trans (if_neg (fun e=>bj (by rw [hd,e])))
 cases h with
 | skip hg h=>subst h;exact⟨by rw [mz];exact b9.le_refl _,pJ _⟩
 | val hg hle dS ho h=>subst h;exact⟨hle,pJ _⟩
 | st hg ho =>
  obtain⟨dst,op,ty,pos,after,g⟩:=o
  cases ho<;>simp [xx] at ht
 | stM iP _ _=>cases iP
open Classical in
noncomputable def fB (ops:Array Oper) (f:Nat->St) (m:Nat) (D:Array Bool) (t:Nat):LV :=
 if ∃ i o,i<m/\D.getD i false=true/\ops[i]?=some o/\o.dst=some t then(f m).slot t else(f 0).slot t
def zO:Option Nat->LV->LV
 | none,x=>x
 | some b,x=>x.kill b
noncomputable def jA (ops:Array Oper) (f:Nat->St) (m:Nat) (dm:Option Tmp) (kb:Option Nat) (D:Array Bool) (t:Nat):LV :=
 if dm=some t then(f (m+1)).slot t else zO kb (fB ops f m D t)
def newAt (f:Nat->St) (i b:Nat):Prop:=(f i).heap b=none/\(f (i+1)).heap b≠none
theorem amv {m id:Nat} {fr:List Nat} {K:St->Prop} {Q:Exit->Act->World->Prop} {L:St} {f:Nat->St} (iu:P.follows .mixedOrders=true) (hs:fT n W X Z0 L a w)
  (f0:f 0=L) (u5:∀ i o,ops[i]?=some o->i<m\/fr≠[]->Step P true ops o (f i) (f (i+1)))
  (fsB:∀ i o,ops[i]?=some o->m<=i->∀ (a:Act) (w:World) (K:Act->World->Prop) (Q:Exit->Act->World->Prop),fT n W X Z0 (f i) a w->(∀ t,o.dst=some t->t<n)->(∀ a' w',fT n W X Z0 (f (i+1)) a' w'->K a' w')->if Region.wanted o (yielded ops a.tmps) then o.wp P a w K Q else K (a.put o.dst undef) w) (fK:K (f ops.size)) (wm:m<=ops.size) (yC:∀ i o,ops[i]?=some o->∀ j∈m8 o,j<i)
  (xO:∀ i o,ops[i]?=some o->m<=i->∀ j,j<i->oZ ops j i\/(i=m/\j∈fr)) (so:∀ i o,ops[i]?=some o->i<m->xx o.op=false)
  (zE:∀ i j oi oj d,ops[i]?=some oi->ops[j]?=some oj->i<m->j<m->i≠j->oj.dst=some d->oi.dst≠some d/\(d∈oi.looksAt ops->if j<i then oZ ops j i else oZ ops i j))
  (aci:∀ j o,ops[j]?=some o->j∈fr->j<m/\m<ops.size/\(∀ om,ops[m]?=some om->om.guard=none/\((om.dst=none/\∃ T p x,om.op=.store T p x)\/∃ d xs ts,om.dst=some d/\om.op=.call ⟨.builtin .append,xs,ts⟩) /\
    (∀ d,o.dst=some d->d∉om.looksAt ops/\om.dst≠some d)/\∀ d,om.dst=some d->d∉o.looksAt ops) /\
   o.guard=none/\((∃ x,o.op=.move x)\/(∃ q T x y U,o.op=.binOp q T x y U/\∀ om,ops[m]?=some om->om.dst=none)\/(∃ x i,o.op=.extract x i/\∀ om,ops[m]?=some om->om.dst=none) \/
    ((∀ om,ops[m]?=some om->om.dst=none)/\∃ r,lZ P (f (m+1)).heap (f j).ev (o.dst.getD 0) o.op r []/\∀ t,o.dst=some t->(f (j+1)).slot t=r)))
  (hd:∀ o∈ops.toList,∀ t,o.dst=some t->t<n) (hq:∀ L' a' w',K L'->fT n W X Z0 L' a' w'->Q .normal a' w') :
  (Code.region id ops true).wp P Q a w:=by
 have jz:∀ i o,ops[i]?=some o->ops.getD i default=o:=fun i o h=>by rw [gH,h];rfl
 have pn:∀ i o,ops[i]?=some o->i<ops.size:=fun i o h=>(nC.1 h).1
 have ach:∀ i,i<ops.size->∃ o,ops[i]?=some o:=fun i h=>⟨_,sN h⟩
 have ack:∀ i o,ops[i]?=some o->i<m->(f i).heap.le (f (i+1)).heap/\∀ t,o.dst≠some t->(f (i+1)).slot t=(f i).slot t:=fun i o h iz=>axS (so i o h iz) (u5 i o h (.inl iz))
 have hle:∀ i j,i<=j->j<=m->(f i).heap.le (f j).heap:=by
  intro i j pK
  induction j with
  | zero =>
   intro _
   have:i=0:=by omega
   subst this;exact b9.le_refl _
  | succ j ih =>
   intro mq
   by_cases e:i=j+1
   ·subst e;exact b9.le_refl _
   ·obtain⟨o,ho⟩:=ach j J
    exact b9.le_trans (ih J J) (ack j o ho J).1
 have hconst:∀ i j t,i<=j->j<=m->(∀ k o,i<=k->k<j->ops[k]?=some o->o.dst≠some t)->(f j).slot t=(f i).slot t:=by
  intro i j t pK
  induction j with
  | zero =>
   intro _ _
   have:i=0:=by omega
   subst this;rfl
  | succ j ih =>
   intro mq hk
   by_cases e:i=j+1
   ·subst e;rfl
   ·obtain⟨o,ho⟩:=ach j J
    rw [(ack j o ho J).2 t (hk j o J J ho)]
    exact ih J J (fun k o h1 h2=>hk k o h1 J)
 have akl:∀ i j b,i<=j->j<=m->(f i).heap b≠none->(f j).heap b≠none:=fun i j b pK mq hb=>by
  obtain⟨blk,aGW⟩:=ak3.1 hb
  obtain⟨mm,g,_⟩:=hle i j pK mq b blk aGW
  rw [g];simp
 have aoP:∀ i o t,ops[i]?=some o->i<m->o.dst=some t->(f m).slot t=(f (i+1)).slot t:=fun i o t ho iz mD =>
  hconst (i+1) m t J (bF _) (fun k ok h1 h2 hk e=>(zE i k o ok t ho hk iz h2 J e).1 mD)
 let closed:Array Bool->Prop:=fun D=>∀ i o,ops[i]?=some o->D.getD i false=true->∀ j∈m8 o,D.getD j false=true
 have ado:∀ D,closed D->∀ j i,oZ ops j i->(∀ o,ops[i]?=some o->∀ k∈m8 o,D.getD k false=true)->D.getD j false=true:=by
  intro D hD j i hA
  induction hA with
  | @one i o ho h=>intro hr;exact hr o ho _ h
  | @step k i o hA ho hk ih=>intro hr;exact ih (fun o' qS k' qJ=>hD k o' qS (hr o ho k hk) k' qJ)
 let PhA:Array Bool->Act->World->Prop:=fun D a w=>(∀ i,D.getD i false=true->i<m)/\a.defers=[]/\a.tmps.size=n/\∃ μ Z,Core W X Z0 μ Z (f m).heap w /\
  (∀ b,μ b≠none->(f 0).heap b≠none\/∃ i,i<m/\D.getD i false=true/\newAt f i b)/\∀ t,bu Z μ w (fB ops f m D t) (a.tmps.getD t undef)
 let PhB:Array Bool->Act->World->Prop:=fun D a w=>∃ k,m<=k/\(∀ i,i<ops.size->(D.getD i false=true↔i<k))/\k<=ops.size/\fT n W X Z0 (f k) a w
 let PhC:Array Bool->Act->World->Prop:=fun D a w=>m<ops.size/\(∃ om kb,ops[m]?=some om/\(om.dst=none->kb=none)/\(∀ t,om.dst≠some t->(f (m+1)).slot t=zO kb ((f m).slot t)) /\
  fT n W X Z0 ⟨jA ops f m om.dst kb D,(f (m+1)).heap⟩ a w)/\(∀ i,D.getD i false=true->i<=m)/\D.getD m false=true/\(∀ i,i<m->i∉fr->D.getD i false=true)
 have hAB:∀ D a w,PhA D a w->(∀ i,i<m->D.getD i false=true)->fT n W X Z0 (f m) a w:=by
  rintro D a w ⟨_,eh,bT,μ,Z,hc,_,hr⟩ gC
  refine⟨eh,bT,μ,Z,hc,fun t=>?_⟩
  have:=hr t
  unfold fB at this
  split at this
  ·exact this
  ·rename_i my
   rw [hconst 0 m t (bS _) (bF _) (fun k o _ kQ hk e=>my ⟨k,o,kQ,gC k kQ,hk,e⟩)]
   exact this
 refine wp_region_any iu (aGy (fun D a w=>closed D/\(PhA D a w\/PhB D a w\/PhC D a w)) yC ?_ ?_ ops.size _ _ _ aW ?_ ?_)
 ·
  intro D a w i o hDs ⟨mC,hI⟩ ho hni hrd
  have uo:=pn i o ho
  have adw:D.getD i false=false:=by
   rw [gH,sN J] at hni ⊢
   simpa using hni
  have mE:∀ k,(D.setIfInBounds i true).getD k false=true↔k=i\/D.getD k false=true:=fun k=>by
   by_cases e:i=k
   ·subst e
    rw [gH,vW J];simp
   ·rw [gH,qf e,<-gH]
    constructor
    ·exact fun h=>.inr h
    ·rintro(h | h)
     ·exact absurd h.symm e
     ·exact h
  have afF:closed (D.setIfInBounds i true):=fun k ok hk fM j hj=>by
   rcases(mE k).1 fM with rfl | h
   ·rw [ho] at hk;cases hk
    exact(mE j).2 (.inr (hrd j hj))
   ·exact(mE j).2 (.inr (mC k ok hk h j hj))
  have aeL:∀ o',ops[i]?=some o'->∀ k∈m8 o',D.getD k false=true:=fun o' qS k hk=>(by rw [ho] at qS;cases qS;exact hrd k hk)
  have hdo:∀ t,o.dst=some t->t<n:=hd o (by rw [afI];exact axp ho)
  have tail:∀ k,m<=k->(∀ j,j<ops.size->(D.getD j false=true↔j<k))->k=i->fT n W X Z0 (f k) a w ->
    if Region.wanted o (yielded ops a.tmps) then o.wp P a w (fun a' w'=>closed (D.setIfInBounds i true)/\(PhA (D.setIfInBounds i true) a' w'\/PhB (D.setIfInBounds i true) a' w'\/PhC (D.setIfInBounds i true) a' w')) Q
    else closed (D.setIfInBounds i true)/\(PhA (D.setIfInBounds i true) (a.put o.dst undef) w\/PhB (D.setIfInBounds i true) (a.put o.dst undef) w\/PhC (D.setIfInBounds i true) (a.put o.dst undef) w):=by
   intro k hmk fM e oH
   subst e
   refine fsB k o ho hmk a w (fun a' w'=>closed (D.setIfInBounds k true)/\(PhA (D.setIfInBounds k true) a' w'\/PhB (D.setIfInBounds k true) a' w'\/PhC (D.setIfInBounds k true) a' w')) _ oH hdo (fun a' w' jO=>⟨afF,.inr (.inl ⟨k+1,J,fun j hj=>?_,J,jO⟩)⟩)
   rw [mE j,fM j hj];omega
  have amx:i<m->∀ t,t∈o.looksAt ops->(f i).slot t=fB ops f m D t:=by
   intro iz t ht
   by_cases hex:∃ j oj,j<m/\ops[j]?=some oj/\oj.dst=some t
   ·obtain⟨j,oj,mq,hj,vh⟩:=hex
    have afM:∀ k ok,k<m->ops[k]?=some ok->ok.dst=some t->k=j:=fun k ok kQ hk qR =>
     se fun bj=>(zE k j ok oj t hk hj kQ mq bj vh).1 qR
    by_cases rn:j=i
    ·subst rn
     have e1:(f j).slot t=(f 0).slot t:=hconst 0 j t (bS _) J (fun k ok _ hkj hk e=>by have:=afM k ok J hk e;omega)
     have e2:fB ops f m D t=(f 0).slot t:=by
      unfold fB
      rw [if_neg]
      rintro⟨k,ok,kQ,fM,hk,qR⟩
      have:=afM k ok kQ hk qR
      subst this
      rw [adw] at fM;cases fM
     rw [e1,e2]
    ·have hp:=(zE i j o oj t ho hj iz mq (Ne.symm rn) vh).2 ht
     by_cases bZ:j<i
     ·rw [if_pos bZ] at hp
      have hDj:=ado D mC j i hp aeL
      have e2:fB ops f m D t=(f m).slot t:=by
       unfold fB
       rw [if_pos ⟨j,oj,mq,hDj,hj,vh⟩]
      rw [e2,aoP j oj t hj mq vh]
      exact hconst (j+1) i t J J (fun k ok hjk vN hk e=>by have:=afM k ok J hk e;omega)
     ·rw [if_neg bZ] at hp
      have e1:(f i).slot t=(f 0).slot t:=hconst 0 i t (bS _) J (fun k ok _ vN hk e=>by have:=afM k ok J hk e;omega)
      have e2:fB ops f m D t=(f 0).slot t:=by
       unfold fB
       rw [if_neg]
       rintro⟨k,ok,kQ,fM,hk,qR⟩
       have:=afM k ok kQ hk qR
       subst this
       have:=ado D mC i k hp (fun o' qS k' qJ=>mC k o' qS fM k' qJ)
       rw [adw] at this;cases this
      rw [e1,e2]
   ·have e1:(f i).slot t=(f 0).slot t:=hconst 0 i t (bS _) J (fun k ok _ vN hk e=>hex ⟨k,ok,J,hk,e⟩)
    have e2:fB ops f m D t=(f 0).slot t:=by
     unfold fB
     rw [if_neg]
     rintro⟨k,ok,kQ,fM,hk,qR⟩
     exact hex ⟨k,ok,kQ,hk,qR⟩
    rw [e1,e2]
  have anH:i<m->∀ t,fB ops f m (D.setIfInBounds i true) t=if o.dst=some t then(f (i+1)).slot t else fB ops f m D t:=by
   intro iz t
   by_cases mD:o.dst=some t
   ·rw [if_pos mD]
    unfold fB
    rw [if_pos ⟨i,o,iz,(mE i).2 (.inl rfl),ho,mD⟩]
    exact aoP i o t ho iz mD
   ·rw [if_neg mD]
    unfold fB
    congr 1
    apply propext
    constructor
    ·rintro⟨k,ok,kQ,fM,hk,qR⟩
     rcases(mE k).1 fM with rfl | h
     ·rw [ho] at hk;cases hk;exact absurd qR mD
     ·exact⟨k,ok,kQ,h,hk,qR⟩
    ·rintro⟨k,ok,kQ,fM,hk,qR⟩
     exact⟨k,ok,kQ,(mE k).2 (.inr fM),hk,qR⟩
  have aDy:(∀ j,j<m->D.getD j false=true)->∀ t,fB ops f m D t=(f m).slot t:=by
   intro gC t
   unfold fB
   split
   ·rfl
   ·rename_i my
    rw [hconst 0 m t (bS _) (bF _) (fun k o _ kQ hk e=>my ⟨k,o,kQ,gC k kQ,hk,e⟩)]
  rcases hI with hA | ⟨k,hmk,fM,hkn,oH⟩ | ⟨hms,⟨om,kb,lB,hkb,aej,oH⟩,hDm,agf,hDf⟩
  ·by_cases iz:i<m
   ·obtain⟨hDm,eh,bT,μ,Z,hc,mF,hr⟩:=hA
    have azC:∀ k,(D.setIfInBounds i true).getD k false=true->k<m:=fun k hk=>by
     rcases(mE k).1 hk with rfl | h
     ·exact iz
     ·exact hDm k h
    have iB:∀ t,o.dst=some t->t<a.tmps.size:=fun t h=>by rw [bT];exact hdo t h
    have ayj:∀ res,eE ops (f i) o res->Region.wanted o (yielded ops a.tmps)=res:=by
     intro res hg
     refine abY (L:=⟨fB ops f m D,(f m).heap⟩) hr ?_
     unfold eE at hg ⊢
     cases h:o.guard with
     | none=>rw [h] at hg;exact hg
     | some p =>
      obtain⟨j,want⟩:=p
      rw [h] at hg
      obtain⟨d,q1,q⟩:=hg
      have e:(f i).slot d=fB ops f m D d:=amx iz d (by unfold Oper.looksAt;rw [h];simp [q1])
      refine⟨d,q1,?_⟩
      show (∃ b,fB ops f m D d=_/\_)\/(fB ops f m D d=_/\_)
      rw [<-e]
      exact q
    have ah0:∀ (r:LV) (v:Value) (w':World) (bD:Nat->Option Nat) (Z':Nat->Prop),(∀ t,o.dst=some t->(f (i+1)).slot t=r)->Core W X Z0 bD Z' (f m).heap w' ->
      (∀ b,bD b≠none->μ b≠none\/newAt f i b)->(∀ t,bu Z' bD w' (fB ops f m D t) (a.tmps.getD t undef))->bu Z' bD w' r v ->
      closed (D.setIfInBounds i true)/\(PhA (D.setIfInBounds i true) (a.put o.dst v) w'\/PhB (D.setIfInBounds i true) (a.put o.dst v) w'\/PhC (D.setIfInBounds i true) (a.put o.dst v) w'):=by
     intro r v w' bD Z' o4 hc' hnw vY hv
     refine⟨afF,.inl ⟨azC,by rw [put_defers];exact eh,by rw [rW];exact bT,bD,Z',hc',fun b hb=>?_,fun t=>?_⟩⟩
     ·rcases hnw b hb with h | h
      ·rcases mF b h with h | ⟨k,kQ,fM,hk⟩
       ·exact oB
       ·exact .inr ⟨k,kQ,(mE k).2 (.inr fM),hk⟩
      ·exact .inr ⟨i,iz,(mE i).2 (.inl rfl),h⟩
     ·rw [anH iz t]
      have:=rY (L:=⟨fB ops f m D,(f m).heap⟩) (d:=o.dst) iB vY hv t
      split
      ·rename_i mD
       rw [o4 t mD]
       rw [mD,iI,if_pos rfl] at this
       rw [mD];exact this
      ·rename_i mD
       cases hdd:o.dst with
       | none=>rw [hdd] at this;exact this
       | some d =>
        rw [hdd] at this mD
        rwa [iI,if_neg (fun e=>mD (by rw [e]))] at this
    have aHE:=u5 i o ho (by first | exact .inl J | (refine .inr ?_;rintro rfl;simp_all))
    cases aKg:aHE with
    | skip hg h =>
     rw [ayj false hg]
     simp only [adn,if_false]
     exact ah0 (.a9 []) undef w μ Z (fun t ht=>by rw [h,ht,iI,if_pos rfl]) hc (fun b hb=>.inl hb) hr ⟨#[],rfl,rfl⟩
    | @val r fr H1 hg hH dS n9 h =>
     rw [ayj true hg]
     simp only [if_true]
     have wS:H1=(f (i+1)).heap:=by rw [h]
     have ahW:H1.le (f m).heap:=by rw [wS];exact hle (i+1) m J (bF _)
     have aHh:=n9.le ahW
     obtain⟨dst,op,ty,pos,after,g⟩:=o
     have aoj:∀ x∈op.operands,bu Z μ w ((f i).ev x) (a.eval x):=by
      intro x hx
      cases x with
      | tmp t =>
       have ht:t∈Oper.looksAt ops ⟨dst,op,ty,pos,after,g⟩:=by
        unfold Oper.looksAt
        simp only [oO,aaF]
        exact .inl ⟨.tmp t,by simpa using hx,rfl⟩
       show bu Z μ w ((f i).slot t) (a.tmps.getD t undef)
       rw [amx iz t ht];exact hr t
      | const v=>exact lG (L:=⟨fB ops f m D,(f m).heap⟩) hr (.const v)
      | func g=>exact lG (L:=⟨fB ops f m D,(f m).heap⟩) hr (.func g)
      | global g=>exact lG (L:=⟨fB ops f m D,(f m).heap⟩) hr (.global g)
     refine lZ.sound hc aHh aoj (fun b blk hb=>?_) dst ty pos after g (fun v w' bD Z' pP=>?_)
     ·obtain⟨q1,mm,q2,q3⟩:=dS b blk hb
      obtain⟨m2,q4,q5,_⟩:=ahW b _ q2
      refine⟨m2,q4,fun e=>q5 (q3 e),?_⟩
      cases zG:μ b with
      | none=>rfl
      | some id =>
       rcases mF b (by rw [zG];simp) with h0 | ⟨k,kQ,fM,hk1,lS⟩
       ·exact absurd q1 (akl 0 i b (bS _) J h0)
       ·have vN:k≠i:=by rintro rfl;rw [adw] at fM;cases fM
        by_cases bZ:k<i
        ·exact absurd q1 (akl (k+1) i b J J lS)
        ·have:(f (i+1)).heap b≠none:=by rw [<-wS,q2];simp
         exact absurd hk1 (akl (i+1) k b J J this)
     ·refine ah0 r v w' bD Z' (fun t ht=>by rw [h];simp only at ht;subst ht;exact(iI _ _ _ _).trans (if_pos rfl)) pP.core (fun b hb=>?_) (fun t=>(hr t).mono pP.hz pP.hm pP.hf) pP.rep
      rcases pP.new b hb with h' | h'
      ·exact .inl h'
      ·simp only [ga] at h'
       obtain⟨⟨b',blk⟩,yY,rfl⟩:=h'
       obtain⟨q1,mm,q2,_⟩:=dS b' blk yY
       exact .inr ⟨q1,by rw [<-wS,q2];simp⟩
    | st hg qS =>
     have:=so i o ho iz
     rw [qS.tail] at this;cases this
    | stM iP _ _=>cases iP
   ·have ajy:i=m:=by
     by_cases e:i=m
     ·exact e
     ·rcases xO i o ho J (i-1) J with h | ⟨h,_⟩
      ·have:=hA.1 (i-1) (ado D mC _ i h aeL);omega
      ·exact absurd h e
    by_cases gC:∀ j,j<i->D.getD j false=true
    ·subst ajy
     exact tail i (bF _) (fun j hj=>⟨fun h=>hA.1 j h,fun h=>gC j h⟩) rfl (hAB D a w hA gC)
    ·
     obtain⟨j0,hj0,aEK⟩:∃ j,j<i/\D.getD j false=false:=by
      obtain⟨j,h⟩:=aC7.1 gC
      obtain⟨h,h'⟩:=aDT.1 h
      exact⟨j,h,by simpa using h'⟩
     have hnf:∀ j,j<m->j∉fr->D.getD j false=true:=fun j hj hjf=>by
      rcases xO i o ho J j J with h | ⟨_,h⟩
      ·exact ado D mC j i h aeL
      ·exact absurd h hjf
     have aBt:j0∈fr:=se fun h=>by have:=hnf j0 J h;rw [aEK] at this;cases this
     obtain⟨oj0,aIa⟩:=ach j0 J
     subst ajy
     obtain⟨_,hms,eI,_⟩:=aci j0 oj0 aIa aBt
     obtain⟨rL,vM,_⟩:=eI o ho
     have gO:∀ t,t∈o.looksAt ops->fB ops f i D t=(f i).slot t:=by
      intro t ht
      unfold fB
      split
      ·rfl
      ·rename_i my
       refine(hconst 0 i t (bS _) (bF _) (fun k ok _ vN hk e=>my ⟨k,ok,vN,?_,hk,e⟩)).symm
       by_cases hkf:k∈fr
       ·exact absurd ht (((aci k ok hk hkf).2.2.1 o ho).2.2.1 t e).1
       ·exact hnf k vN hkf
     have ie:∀ y,y∈o.op.operands->St.ev ⟨fB ops f i D,(f i).heap⟩ y=(f i).ev y:=by
      intro y hy
      cases y with
      | tmp t =>
       show fB ops f i D t=(f i).slot t
       refine gO t ?_
       unfold Oper.looksAt
       simp only [oO,aaF]
       exact .inl ⟨.tmp t,by simpa using hy,rfl⟩
      | const v=>rfl
      | func g=>rfl
      | global g=>rfl
     have hA2:fT n W X Z0 ⟨fB ops f i D,(f i).heap⟩ a w:=by
      obtain⟨_,eh,bT,μ,Z,hc,_,hr⟩:=hA
      exact⟨eh,bT,μ,Z,hc,hr⟩
     have aeb:∃ kb,(o.dst=none->kb=none)/\(∀ t,o.dst≠some t->(f (i+1)).slot t=zO kb ((f i).slot t)) /\
       Step P true ops o ⟨fB ops f i D,(f i).heap⟩ ⟨jA ops f i o.dst kb D,(f (i+1)).heap⟩:=by
      have il:=u5 i o ho (by first | exact .inl J | (refine .inr ?_;rintro rfl;simp_all))
      obtain⟨dst,op,ty,pos,after,g⟩:=o
      simp only at rL vM
      rcases vM with⟨kM,T,p,x,vM⟩ | ⟨d,xs,ts,kM,vM⟩
      ·subst rL kM vM
       have e1:=ie p ck
       have e2:=ie x ck
       cases il with
       | skip hg h=>cases hg
       | val hg hle dS n9 h =>
        cases n9 with
        | pure h=>cases h
        | alloc h=>cases h
        | call h=>cases h
       | st hg vE =>
        generalize hfe:f (i+1)=F at vE
        cases vE with
        | store hp hb hs hm hi hy pJ hT bj =>
         refine⟨none,fun _=>rfl,fun t _=>rfl,.st rfl ?_⟩
         have:=gR.store (P:=P) (L:=⟨fB ops f i D,(f i).heap⟩) (dst:=none) (x:=x) (e1.trans hp) hb hs hm hi hy (by rw [e2];exact pJ) (by rw [e2];exact hT) (by rw [e2];exact bj)
         exact this
       | stM iP _ _=>cases iP
      ·subst rL kM vM
       cases il with
       | skip hg h=>cases hg
       | val hg hle dS n9 h =>
        cases n9 with
        | pure h=>cases h
        | alloc h=>cases h
        | call h=>cases h
       | st hg vE =>
        generalize hfe:f (i+1)=F at vE
        cases vE with
        | @fV T U E E' d1 b sz len blk x y news z dN hx hb hs hm hlen gX gJ hT hU hz hE dP je hy bT gv dx =>
         have e1:=ie x ll
         have e2:=ie y ll
         refine⟨some b,(fun h=>by cases h),fun t ht=>?_,.st rfl ?_⟩
         ·exact(iI _ _ _ _).trans (if_neg (fun e=>ht (by rw [e])))
         ·have:=gR.fV (P:=P) (L:=⟨fB ops f i D,(f i).heap⟩) (dst:=some d) (x:=x) (y:=y) (e1.trans hx) hb hs hm hlen gX gJ hT hU hz hE dP je (by rw [e2];exact hy) bT gv dx
          have hq:(⟨jA ops f i (some d) (some b) D,((((f i).kill b).bU d1 (some ⟨sz,bH b (blk.vals.take len++news),true⟩)).put (some d) (.ref d1 sz 0 (len+news.length))).heap⟩:St) =
            (((St.kill ⟨fB ops f i D,(f i).heap⟩ b).bU d1 (some ⟨sz,bH b (blk.vals.take len++news),true⟩)).put (some d) (.ref d1 sz 0 (len+news.length))):=by
           show (⟨_,_⟩:St)=⟨_,_⟩
           congr 1
           funext t
           unfold jA
           rw [hfe,iI]
           refine Eq.trans ?_ (iI _ _ _ _).symm
           by_cases e:t=d
           ·subst e;rw [if_pos rfl,if_pos rfl,if_pos rfl]
           ·rw [if_neg (by simpa using fun h=>e h.symm),if_neg e];rfl
          rw [hq]
          exact this
        | @xG T U E E' d1 sz x y news z dN hx gX hT hU hz hE dP je hy hn bT gv dx =>
         have e1:=ie x ll
         have e2:=ie y ll
         refine⟨none,(fun h=>by cases h),fun t ht=>?_,.st rfl ?_⟩
         ·exact(iI _ _ _ _).trans (if_neg (fun e=>ht (by rw [e])))
         ·have:=gR.xG (P:=P) (L:=⟨fB ops f i D,(f i).heap⟩) (dst:=some d) (x:=x) (y:=y) (e1.trans hx) gX hT hU hz hE dP je (by rw [e2];exact hy) hn bT gv dx
          have hq:(⟨jA ops f i (some d) none D,((((f i).bU d1 (some ⟨sz,news,true⟩)).put (some d) (.ref d1 sz 0 news.length))).heap⟩:St) =
            (((St.bU ⟨fB ops f i D,(f i).heap⟩ d1 (some ⟨sz,news,true⟩)).put (some d) (.ref d1 sz 0 news.length))):=by
           show (⟨_,_⟩:St)=⟨_,_⟩
           congr 1
           funext t
           unfold jA
           rw [hfe,iI]
           refine Eq.trans ?_ (iI _ _ _ _).symm
           by_cases e:t=d
           ·subst e;rw [if_pos rfl,if_pos rfl,if_pos rfl]
           ·rw [if_neg (by simpa using fun h=>e h.symm),if_neg e];rfl
          rw [hq]
          exact this
       | stM iP _ _=>cases iP
     obtain⟨kb,hkb,aH1,aeb⟩:=aeb
     refine acn hA2 aeb hdo (K:=fun a' w'=>closed (D.setIfInBounds i true)/\(PhA (D.setIfInBounds i true) a' w'\/PhB (D.setIfInBounds i true) a' w'\/PhC (D.setIfInBounds i true) a' w')) (fun a' w' jO=>⟨afF,.inr (.inr ⟨hms,⟨o,kb,ho,hkb,aH1,?_⟩,fun k hk=>?_,(mE i).2 (.inl rfl),fun k hk hkf=>(mE k).2 (.inr (hnf k hk hkf))⟩)⟩)
     ·have:fB ops f i (D.setIfInBounds i true)=fB ops f i D:=by
       funext t
       unfold fB
       congr 1
       apply propext
       constructor
       ·rintro⟨k,ok,kQ,fM,hk,qR⟩
        rcases(mE k).1 fM with rfl | h
        ·omega
        ·exact⟨k,ok,kQ,h,hk,qR⟩
       ·rintro⟨k,ok,kQ,fM,hk,qR⟩
        exact⟨k,ok,kQ,(mE k).2 (.inr fM),hk,qR⟩
      have e:jA ops f i o.dst kb (D.setIfInBounds i true)=jA ops f i o.dst kb D:=by
       funext t;unfold jA;rw [this]
      rw [e];exact jO
     ·rcases(mE k).1 hk with rfl | h
      ·exact bF _
      ·have:=hA.1 k h;omega
  ·have hik:k<=i:=by
    by_cases e:i<k
    ·have:=(fM i uo).2 e;rw [adw] at this;cases this
    ·omega
   have:k=i:=by
    by_cases e:k=i
    ·exact e
    ·rcases xO i o ho J k J with h | ⟨h,_⟩
     ·have:=ado D mC k i h aeL
      have:=(fM k J).1 this;omega
     ·omega
   exact tail k hmk fM this oH
  ·
   have azG:i≠m:=by rintro rfl;rw [adw] at agf;cases agf
   by_cases iz:i<m
   ·have hif:i∈fr:=se fun h=>by have:=hDf i iz h;rw [adw] at this;cases this
    obtain⟨_,_,eI,rL,vM⟩:=aci i o ho hif
    obtain⟨_,_,oa,xb⟩:=eI om lB
    have asa:∀ t,t∈o.looksAt ops->jA ops f m om.dst kb D t=zO kb ((f i).slot t):=fun t ht=>by
     unfold jA
     rw [if_neg (fun e=>xb t e ht),<-amx iz t ht]
    have ass:∀ t,Operand.tmp t∈o.op.operands->t∈o.looksAt ops:=fun t hy=>by
     unfold Oper.looksAt
     simp only [oO,aaF]
     exact .inl ⟨.tmp t,by simpa using hy,rfl⟩
    have ie:kb=none->∀ y,y∈o.op.operands->(f i).ev y=St.ev ⟨jA ops f m om.dst kb D,(f (m+1)).heap⟩ y:=by
     intro hk y hy
     cases y with
     | tmp t =>
      show (f i).slot t=jA ops f m om.dst kb D t
      rw [asa t (ass t hy),hk];rfl
     | const v=>rfl
     | func g=>rfl
     | global g=>rfl
    have azj:∀ y,y∈o.op.operands->St.ev ⟨jA ops f m om.dst kb D,(f (m+1)).heap⟩ y=zO kb ((f i).ev y):=by
     intro y hy
     cases y with
     | tmp t=>exact asa t (ass t hy)
     | const v =>
      show (if _ then _ else _:LV)=zO kb (if _ then _ else _)
      cases kb<;>split<;>rfl
     | func g=>cases kb<;>rfl
     | global g=>cases kb<;>rfl
    by_cases aq6:∃ r,lZ P (f (m+1)).heap (f i).ev (o.dst.getD 0) o.op r []/\(∀ t,o.dst=some t->(f (i+1)).slot t=r)/\om.dst=none
    ·obtain⟨r,n9,o4,hnd⟩:=aq6
     have lJ:=hkb hnd
     obtain⟨eh,bT,μ,Z,hc,hr⟩:=oH
     have iB:∀ t,o.dst=some t->t<a.tmps.size:=fun t h=>by rw [bT];exact hdo t h
     have aFT:Region.wanted o (yielded ops a.tmps)=true:=abY (L:=⟨jA ops f m om.dst kb D,(f (m+1)).heap⟩) hr (by unfold eE;rw [rL])
     rw [aFT]
     simp only [if_true]
     have pP:=anH iz
     obtain⟨dst,op,ty,pos,after,g⟩:=o
     have aoj:∀ x∈op.operands,bu Z μ w ((f i).ev x) (a.eval x):=by
      intro x hx
      have h1:=lG (L:=⟨jA ops f m om.dst kb D,(f (m+1)).heap⟩) hr x
      rwa [<-ie lJ x hx] at h1
     refine lZ.sound hc n9 aoj (fun b blk hb=>by cases hb) dst ty pos after g (fun v w' bD Z' afg=>?_)
     refine⟨afF,.inr (.inr ⟨hms,⟨om,kb,lB,hkb,aej,by rw [put_defers];exact eh,by rw [rW];exact bT,bD,Z',afg.core,fun t=>?_⟩,fun k hk=>?_,(mE m).2 (.inr agf),fun k hk hkf=>(mE k).2 (.inr (hDf k hk hkf))⟩)⟩
     ·have h1:=rY (L:=⟨jA ops f m om.dst kb D,(f (m+1)).heap⟩) (d:=dst) iB (fun t=>(hr t).mono afg.hz afg.hm afg.hf) afg.rep t
      have e:jA ops f m om.dst kb (D.setIfInBounds i true) t=(St.put ⟨jA ops f m om.dst kb D,(f (m+1)).heap⟩ dst r).slot t:=by
       unfold jA
       rw [pP t,hnd,lJ]
       cases dst with
       | none=>rw [if_neg (c:=(none:Option Tmp)=some t) aW,if_neg (c:=(none:Option Tmp)=some t) aW];rfl
       | some d =>
        rw [if_neg (c:=(none:Option Tmp)=some t) aW,iI]
        by_cases e:t=d
        ·subst e;rw [if_pos rfl,if_pos rfl];exact o4 t rfl
        ·rw [if_neg (c:=(some d:Option Tmp)=some t) (by simpa using fun h=>e h.symm),if_neg e]
         show zO none (fB ops f m D t)=if (none:Option Tmp)=some t then(f (m+1)).slot t else zO none (fB ops f m D t)
         rw [if_neg aW]
      show bu Z' bD w' (jA ops f m om.dst kb (D.setIfInBounds i true) t) _
      rw [e];exact h1
     ·rcases(mE k).1 hk with rfl | h
      ·omega
      ·exact hDm k h
    replace vM:(∃ x,o.op=.move x)\/(∃ q T x y U,o.op=.binOp q T x y U/\∀ om,ops[m]?=some om->om.dst=none)\/(∃ x i,o.op=.extract x i/\∀ om,ops[m]?=some om->om.dst=none):=by
     rcases vM with h | h | h | ⟨h1,r,h2,h3⟩
     ·exact oB
     ·exact .inr (.inl h)
     ·exact .inr (.inr h)
     ·exact absurd ⟨r,h2,h3,h1 om lB⟩ aq6
    have aeb:Step P true ops o ⟨jA ops f m om.dst kb D,(f (m+1)).heap⟩ ⟨jA ops f m om.dst kb (D.setIfInBounds i true),(f (m+1)).heap⟩:=by
     have il:=u5 i o ho (by first | exact .inl J | (refine .inr ?_;rintro rfl;simp_all))
     have pP:=anH iz
     obtain⟨dst,op,ty,pos,after,g⟩:=o
     simp only at rL vM pP oa
     subst rL
     have ajW:∀ r,aN P (f (m+1)).heap (St.ev ⟨jA ops f m om.dst kb D,(f (m+1)).heap⟩) op (zO kb r)->(∀ t,dst=some t->(f (i+1)).slot t=r)->Step P true ops ⟨dst,op,ty,pos,after,none⟩ ⟨jA ops f m om.dst kb D,(f (m+1)).heap⟩ ⟨jA ops f m om.dst kb (D.setIfInBounds i true),(f (m+1)).heap⟩:=by
      intro r hr o4
      refine .val rfl (b9.le_refl _) (fr:=[]) (fun _ _ h=>by cases h) (.pure hr) ?_
      show (_:St)=⟨_,_⟩
      congr 1
      funext t
      unfold jA
      rw [pP t]
      cases dst with
      | none=>rw [if_neg (c:=(none:Option Tmp)=some t) aW];rfl
      | some d =>
       show _=(St.put _ (some d) _).slot t
       rw [iI]
       by_cases e:t=d
       ·subst e;rw [if_neg (oa t rfl).2,if_pos rfl,if_pos rfl,o4 t rfl]
       ·rw [if_neg (c:=(some d:Option Tmp)=some t) (by simpa using fun h=>e h.symm),if_neg e]
     cases il with
     | skip hg h=>cases hg
     | @val r fr' H1 hg hle dS n9 h =>
      have o4:∀ t,dst=some t->(f (i+1)).slot t=r:=fun t ht=>by rw [h];simp only;subst ht;exact(iI _ _ _ _).trans (if_pos rfl)
      rcases vM with⟨x,rfl⟩ | ⟨q,T,x,y,U,rfl,hnd⟩ | ⟨x,i,rfl,hnd⟩
      ·cases n9 with
       | pure hp =>
        cases hp with
        | move =>
         refine ajW _ ?_ o4
         rw [<-azj x ck];exact .move x
       | alloc hp=>cases hp
       | call hp=>cases hp
      ·have lJ:=hkb (hnd om lB)
       have e1:=ie lJ x ck
       have e2:=ie lJ y ck
       cases n9 with
       | pure hp =>
        refine ajW _ ?_ o4
        rw [lJ] at e1 e2 ⊢
        cases hp with
        | bin hx hy hb=>exact .bin (e1.symm.trans hx) (e2.symm.trans hy) hb
        | sh hx hy hb=>exact .sh (e1.symm.trans hx) (e2.symm.trans hy) hb
        | beq hx hy hb=>exact .beq (e1.symm.trans hx) (e2.symm.trans hy) hb
        | bne hx hy hb=>exact .bne (e1.symm.trans hx) (e2.symm.trans hy) hb
        | eqN hx hy hT=>exact .eqN (e1.symm.trans hx) (e2.symm.trans hy) hT
        | abX hx hy hT=>exact .abX (e1.symm.trans hx) (e2.symm.trans hy) hT
       | alloc hp=>cases hp
       | call hp=>cases hp
      ·have lJ:=hkb (hnd om lB)
       have e1:=ie lJ x ck
       cases n9 with
       | pure hp =>
        refine ajW _ ?_ o4
        rw [lJ] at e1 ⊢
        cases hp with
        | extract ht hr bj=>exact .extract (e1.symm.trans ht) hr bj
       | alloc hp=>cases hp
       | call hp=>cases hp
     | st hg vE=>rcases vM with⟨x,rfl⟩ | ⟨q,T,x,y,U,rfl,_⟩ | ⟨x,i,rfl,_⟩<;>cases vE
     | stM iP _ _=>cases iP
    refine acn oH aeb hdo (K:=fun a' w'=>closed (D.setIfInBounds i true)/\(PhA (D.setIfInBounds i true) a' w'\/PhB (D.setIfInBounds i true) a' w'\/PhC (D.setIfInBounds i true) a' w')) (fun a' w' jO=>⟨afF,.inr (.inr ⟨hms,⟨om,kb,lB,hkb,aej,jO⟩,fun k hk=>?_,(mE m).2 (.inr agf),fun k hk hkf=>(mE k).2 (.inr (hDf k hk hkf))⟩)⟩)
    rcases(mE k).1 hk with rfl | h
    ·omega
    ·exact hDm k h
   ·have gC:∀ j,j<i->D.getD j false=true:=fun j hj=>by
     rcases xO i o ho J j hj with h | ⟨h,_⟩
     ·exact ado D mC j i h aeL
     ·exact absurd h azG
    have ajy:i=m+1:=by
     by_cases e:i=m+1
     ·exact e
     ·have:=hDm (m+1) (gC (m+1) J);omega
    refine tail (m+1) J (fun j hj=>⟨fun h=>by have:=hDm j h;omega,fun h=>gC j J⟩) ajy.symm ?_
    have gO:=aDy (fun j hj=>gC j J)
    have:(⟨jA ops f m om.dst kb D,(f (m+1)).heap⟩:St)=f (m+1):=by
     show (⟨_,_⟩:St)=⟨_,_⟩
     congr 1
     funext t
     unfold jA
     split
     ·rfl
     ·rename_i e;rw [gO t,aej t e]
    rw [<-this];exact oH
 ·
  rintro D a w hDs ⟨mC,hI⟩ gC
  rcases hI with hA | ⟨k,hmk,fM,hkn,oH⟩ | ⟨hms,⟨om,kb,lB,hkb,aej,oH⟩,hDm,agf,hDf⟩
  ·have azB:m=ops.size:=by
    by_cases e:m=ops.size
    ·exact e
    ·have:=hA.1 m (gC m J);omega
   exact hq _ a w (azB ▸ fK) (hAB D a w hA (fun i hi=>gC i J))
  ·have:k=ops.size:=by
    by_cases e:k=ops.size
    ·exact e
    ·have:=(fM k J).1 (gC k J);omega
   subst this
   exact hq _ a w fK oH
  ·have jI:m+1=ops.size:=by
    by_cases e:m+1=ops.size
    ·exact e
    ·have:=hDm (m+1) (gC (m+1) J);omega
   have gO:fB ops f m D=(f m).slot:=by
    funext t
    unfold fB
    split
    ·rfl
    ·rename_i my
     rw [hconst 0 m t (bS _) (bF _) (fun k o _ kQ hk e=>my ⟨k,o,kQ,gC k J,hk,e⟩)]
   have:(⟨jA ops f m om.dst kb D,(f (m+1)).heap⟩:St)=f (m+1):=by
    show (⟨_,_⟩:St)=⟨_,_⟩
    congr 1
    funext t
    unfold jA
    split
    ·rfl
    ·rename_i e;rw [gO,aej t e]
   exact hq _ a w (jI ▸ fK) (this ▸ oH)
 ·
  refine bb List.countP_le_length ?_
  simp
 ·
  have hD0:∀ i,(rH ops.size false).getD i false=false:=fun i=>by
   rw [gH,Array.getElem?_replicate];split<;>rfl
  refine⟨fun i o _ h=>(by rw [hD0] at h;cases h),.inl ⟨fun i h=>(by rw [hD0] at h;cases h),?_⟩⟩
  rw [<-f0] at hs
  obtain⟨eh,bT,μ,Z,hc,hr⟩:=hs
  obtain⟨Z1,k1,k2⟩:=hc.v7 (hle 0 m (bS _) (bF _))
  have azu:∀ (w':World),w'.heap=w.heap->Frame Z μ w w':=fun w' h=>⟨fun _ _=>by rw [h],fun _ id _ c _ _ hh=>⟨c,by rw [h];exact hh,rfl⟩⟩
  have aHy:∀ (w':World),w'.heap=w.heap->Frame Z1 μ w w':=fun w' h=>⟨fun _ _=>by rw [h],fun _ id _ c _ _ hh=>⟨c,by rw [h];exact hh,rfl⟩⟩
  refine⟨eh,bT,μ,Z1,⟨⟨k1.cx.os,k1.cx.tape,k1.cx.output,k1.cx.size,k1.cx.block,k1.cx.vg⟩,k1.lg,k1.jy,k1.lh,k1.inj,k1.own,k1.x0,k1.nV,k1.x1,k1.ja,k1.ca,fun b id hb=>?_⟩,fun b hb=>?_,fun t=>?_⟩
  ·obtain⟨blk,g1,g2⟩:=k1.heap b id hb
   exact⟨blk,g1,g2.mono (fun _ h=>h) (fun _ _ h=>h) (aHy _ rfl) rfl⟩
  ·left
   obtain⟨id,hid⟩:=ak3.1 hb
   obtain⟨blk,g1,_⟩:=hc.heap b id hid
   rw [g1];simp
  ·have:fB ops f m (rH ops.size false) t=(f 0).slot t:=by
    unfold fB
    rw [if_neg]
    rintro⟨i,o,_,h,_⟩
    rw [hD0] at h;cases h
   rw [this]
   exact(hr t).mono k2 (fun _ _ h=>h) (azu { w with drawn:=w.drawn+1 } rfl)
theorem aqu {m id:Nat} {fr:List Nat} {K:St->Prop} {Q:Exit->Act->World->Prop} {L:St} {f:Nat->St} (iu:P.follows .mixedOrders=true) (hs:fT n W X Z0 L a w)
  (f0:f 0=L) (u5:∀ i o,ops[i]?=some o->Step P true ops o (f i) (f (i+1))) (fK:K (f ops.size)) (wm:m<=ops.size) (yC:∀ i o,ops[i]?=some o->∀ j∈m8 o,j<i)
  (xO:∀ i o,ops[i]?=some o->m<=i->∀ j,j<i->oZ ops j i\/(i=m/\j∈fr)) (so:∀ i o,ops[i]?=some o->i<m->xx o.op=false)
  (zE:∀ i j oi oj d,ops[i]?=some oi->ops[j]?=some oj->i<m->j<m->i≠j->oj.dst=some d->oi.dst≠some d/\(d∈oi.looksAt ops->if j<i then oZ ops j i else oZ ops i j))
  (aci:∀ j o,ops[j]?=some o->j∈fr->j<m/\m<ops.size/\(∀ om,ops[m]?=some om->om.guard=none/\((om.dst=none/\∃ T p x,om.op=.store T p x)\/∃ d xs ts,om.dst=some d/\om.op=.call ⟨.builtin .append,xs,ts⟩) /\
    (∀ d,o.dst=some d->d∉om.looksAt ops/\om.dst≠some d)/\∀ d,om.dst=some d->d∉o.looksAt ops) /\
   o.guard=none/\((∃ x,o.op=.move x)\/(∃ q T x y U,o.op=.binOp q T x y U/\∀ om,ops[m]?=some om->om.dst=none)\/(∃ x i,o.op=.extract x i/\∀ om,ops[m]?=some om->om.dst=none) \/
    ((∀ om,ops[m]?=some om->om.dst=none)/\∃ r,lZ P (f (m+1)).heap (f j).ev (o.dst.getD 0) o.op r []/\∀ t,o.dst=some t->(f (j+1)).slot t=r)))
  (hd:∀ o∈ops.toList,∀ t,o.dst=some t->t<n) (hq:∀ L' a' w',K L'->fT n W X Z0 L' a' w'->Q .normal a' w') :
  (Code.region id ops true).wp P Q a w :=
 amv iu hs f0 (fun i o ho _=>u5 i o ho) (fun i o ho _ a w K Q oH hdo hK=>acn oH (u5 i o ho) hdo hK) fK wm yC xO so zE aci hd hq
theorem aC0 {m id:Nat} {fr:List Nat} {K:St->Prop} {Q:Exit->Act->World->Prop} {L:St} (iu:P.follows .mixedOrders=true) (nE:yg ops m fr=true) (hs:fT n W X Z0 L a w)
  (hL:opsL P true ops ops.toList L K) (hd:∀ o∈ops.toList,∀ t,o.dst=some t->t<n) (hq:∀ L' a' w',K L'->fT n W X Z0 L' a' w'->Q .normal a' w') :
  (Code.region id ops true).wp P Q a w:=by
 obtain⟨f,f0,fs,fK⟩:=abw _ _ hL
 have u5:∀ i o,ops[i]?=some o->Step P true ops o (f i) (f (i+1)):=fun i o h=>fs i o nP
 rw [nM] at fK
 unfold yg at nE
 simp only [mR,decide_eq_true_eq,py,wF] at nE
 obtain⟨⟨⟨wm,h1⟩,h2⟩,h3⟩:=nE
 have jz:∀ i o,ops[i]?=some o->ops.getD i default=o:=fun i o h=>by rw [gH,h];rfl
 have pn:∀ i o,ops[i]?=some o->i<ops.size:=fun i o h=>(nC.1 h).1
 have ach:∀ i,i<ops.size->∃ o,ops[i]?=some o:=fun i h=>⟨_,sN h⟩
 have yC:∀ i o,ops[i]?=some o->∀ j∈m8 o,j<i:=fun i o h j hj=>by
  have:=(h1 i (pn i o h)).1 j (by rw [jz i o h];exact hj)
  simpa using this
 have sc:=agi ops ops.toList [] (fun i=>by simp) (fun i t h=>by simp at h)
 have xO:∀ i o,ops[i]?=some o->m<=i->∀ j,j<i->oZ ops j i\/(i=m/\j∈fr):=fun i o h wk j hj=>by
  have:=(h1 i (pn i o h)).2
  rw [if_pos wk] at this
  have:=(py.1 this) j (by simpa using hj)
  simp only [qF,mR,beq_iff_eq,qW] at this
  rcases this with g | g
  ·exact .inl (sc i j (by simpa using g))
  ·exact .inr g
 have so:∀ i o,ops[i]?=some o->i<m->xx o.op=false:=fun i o h wk=>by
  have:=(h1 i (pn i o h)).2
  rw [if_neg J,jz i o h] at this
  simpa using this
 have zE:∀ i j oi oj d,ops[i]?=some oi->ops[j]?=some oj->i<m->j<m->i≠j->oj.dst=some d->oi.dst≠some d/\(d∈oi.looksAt ops->if j<i then oZ ops j i else oZ ops i j):=by
  intro i j oi oj d hi hj iz mq bj vh
  have:=h2 i iz j mq
  simp only [qF,beq_iff_eq] at this
  rcases this with h | h
  ·exact absurd h bj
  ·unfold acQ at h
   rw [jz j oj hj,jz i oi hi,vh] at h
   simp only [mR,bne_iff_ne,ne_eq,qF,zr] at h
   refine⟨h.1,fun tW=>?_⟩
   rcases h.2 with h' | h'
   ·rw [qW.2 tW] at h';cases h'
   ·split
    ·rename_i bZ;rw [if_pos bZ] at h';exact sc i j h'
    ·rename_i bZ;rw [if_neg bZ] at h';exact sc j i h'
 have aci:∀ j o,ops[j]?=some o->j∈fr->j<m/\m<ops.size/\(∀ om,ops[m]?=some om->om.guard=none/\((om.dst=none/\∃ T p x,om.op=.store T p x)\/∃ d xs ts,om.dst=some d/\om.op=.call ⟨.builtin .append,xs,ts⟩) /\
    (∀ d,o.dst=some d->d∉om.looksAt ops/\om.dst≠some d)/\∀ d,om.dst=some d->d∉o.looksAt ops) /\
   o.guard=none/\((∃ x,o.op=.move x)\/(∃ q T x y U,o.op=.binOp q T x y U/\∀ om,ops[m]?=some om->om.dst=none)\/(∃ x i,o.op=.extract x i/\∀ om,ops[m]?=some om->om.dst=none) \/
    ((∀ om,ops[m]?=some om->om.dst=none)/\∃ r,lZ P (f (m+1)).heap (f j).ev (o.dst.getD 0) o.op r []/\∀ t,o.dst=some t->(f (j+1)).slot t=r)):=by
  intro j o ho hj
  simp only [qF,List.isEmpty_iff,mR,decide_eq_true_eq,py] at h3
  rcases h3 with h3 | ⟨⟨hm,eI⟩,gC⟩
  ·rw [h3] at hj;cases hj
  ·obtain⟨mq,hf⟩:=gC j hj
   unfold atC at hf
   rw [jz j o ho] at hf
   simp only [mR,aaL] at hf
   obtain⟨⟨⟨xL,ot⟩,uG⟩,hf4⟩:=hf
   refine⟨mq,hm,fun om lB=>?_,xL,?_⟩
   ·unfold awL at eI
    rw [jz m om lB] at eI uG hf4
    simp only [mR,aaL] at eI
    refine⟨eI.1,?_,fun d hd=>⟨fun tW=>?_,fun e=>?_⟩,fun d hd tW=>?_⟩
    ·have:=eI.2
     split at this
     ·rename_i T p x e;exact .inl ⟨aaL.1 this,T,p,x,e⟩
     ·rename_i xs ts e
      obtain⟨d,hd⟩:=Option.isSome_iff_exists.1 this
      exact .inr ⟨d,xs,ts,hd,e⟩
     ·cases this
    ·rw [hd] at uG
     simp only [qW.2 tW] at uG
     cases uG
    ·rw [hd,e] at uG
     simp at uG
    ·rw [hd] at hf4
     simp only [qW.2 tW] at hf4
     cases hf4
   ·split at ot
    ·rename_i x e;exact .inl ⟨x,e⟩
    ·rename_i q T x y U e;exact .inr (.inl ⟨q,T,x,y,U,e,fun om lB=>by rw [jz m om lB] at ot;exact aaL.1 ot⟩)
    ·rename_i x i e;exact .inr (.inr (.inl ⟨x,i,e,fun om lB=>by rw [jz m om lB] at ot;exact aaL.1 ot⟩))
    ·cases ot
 exact aqu iu hs f0 u5 fK wm yC xO so zE aci hd hq
def aw1 (ops:Array Oper) (m j:Nat):Bool :=
 (ops.getD j default).guard.isNone && (match (ops.getD j default).op with | .makeSlice ..=>false | .buildSlice ..=>false | .box ..=>false | .alloc ..=>false | _=>true) &&
 (match (ops.getD j default).dst with | some d=>!((ops.getD m default).looksAt ops).contains d | none=>false)
def alk (ops:Array Oper) (m:Nat) (fr:List Nat):Bool :=
 decide (m<ops.size) &&
 (fe ops.size).all (fun i=>(m8 (ops.getD i default)).all (·<i) &&
  (if m<=i then(fe i).all (fun j=>((bef ops.toList []).getD i 0).testBit j || (i==m && fr.contains j)) else !xx (ops.getD i default).op)) &&
 ((fe m).all fun i=>(fe m).all fun j=>i==j || acQ ops (bef ops.toList []) i j) &&
 ((ops.getD m default).guard.isNone && (ops.getD m default).dst.isNone && (match (ops.getD m default).op with | .store ..=>true | _=>false)) &&
 (fr.all fun j=>decide (j<m) && aw1 ops m j)
theorem aA9 {o:Oper} {L L':St} {b:Nat} {x:bA} (ht:xx o.op=false) (hL:L.heap b=none) (hL':L'.heap b=none) (h:Step P true ops o L L'):Step P true ops o (L.bU b (some x)) (L'.bU b (some x)):=by
 have pJ:∀ (d:Option Tmp) (r:LV),(L.put d r).bU b (some x)=(L.bU b (some x)).put d r:=fun d r=>by cases d<;>rfl
 have hG:∀ res,eE ops L o res->eE ops (L.bU b (some x)) o res:=fun res h=>h
 cases h with
 | skip hg h=>exact .skip (hG _ hg) (by rw [h,pJ])
 | @val r fr H1 hg hle dS ho h =>
  have wS:H1 b=none:=by rw [h] at hL';exact hL'
  have aIP:∀ {A B:b9},A.le B->A b=none->b9.le (fun c=>if c=b then some x else A c) (fun c=>if c=b then some x else B c):=fun {A B} cY hA c blk hc=>by
   change (if c=b then some x else A c)=some blk at hc
   show ∃ m,(if c=b then some x else B c)=_/\_
   by_cases e:c=b
   ·rw [if_pos e] at hc ⊢
    cases hc
    exact⟨x.mt,rfl,fun h=>h,fun h1 h2=>by rw [h1] at h2;cases h2⟩
   ·rw [if_neg e] at hc ⊢
    exact cY c blk hc
  have alq:H1.le (fun c=>if c=b then some x else H1 c):=fun c blk hc=>by
   have e:c≠b:=fun e=>by subst e;rw [wS] at hc;cases hc
   exact⟨blk.mt,by show (if c=b then _ else _)=_;rw [if_neg e];exact hc,fun h=>h,fun h1 h2=>by rw [h1] at h2;cases h2⟩
  refine .val (r:=r) (fr:=fr) (H1:=fun c=>if c=b then some x else H1 c) (hG _ hg) (aIP hle hL) (fun c blk hc=>?_) (ho.le alq) (by rw [h];cases o.dst<;>rfl)
  obtain⟨q1,mm,q2,q3⟩:=dS c blk hc
  have e:c≠b:=fun e=>by subst e;rw [wS] at q2;cases q2
  exact⟨by show (if c=b then _ else _)=_;rw [if_neg e];exact q1,mm,by show (if c=b then _ else _)=_;rw [if_neg e];exact q2,q3⟩
 | st hg ho =>
  obtain⟨dst,op,ty,pos,after,g⟩:=o
  rw [ho.tail] at ht;cases ht
 | stM iP _ _=>cases iP
theorem aHN {m id b:Nat} {fr:List Nat} {x0:bA} {K:St->Prop} {Q:Exit->Act->World->Prop} {L:St} (iu:P.follows .mixedOrders=true) (nE:alk ops m fr=true) (hs:fT n W X Z0 L a w) (hb:L.heap b=some x0)
  (hL:opsL P true ops (ops.toList.take m) (L.bU b none) (fun Lm=>Lm.heap b=none/\(fr.all fun j=>match (ops.getD j default).dst with | some d=>(Lm.heap (dZ d 1)).isNone | none=>true)=true /\
   (∀ om,ops[m]?=some om->∃ T p v i o,om.op=.store T p v/\Lm.ev p=.aF b x0.sz i o)/\opsL P true ops (ops.toList.drop m) (Lm.bU b (some x0)) K))
  (hd:∀ o∈ops.toList,∀ t,o.dst=some t->t<n) (hq:∀ L' a' w',K L'->fT n W X Z0 L' a' w'->Q .normal a' w') :
  (Code.region id ops true).wp P Q a w:=by
 obtain⟨g,g0,gs,gK,gN,gP,gT⟩:=abw _ _ hL
 unfold alk at nE
 simp only [mR,decide_eq_true_eq,py,wF] at nE
 obtain⟨⟨⟨⟨wm,h1⟩,h2⟩,eI⟩,h3⟩:=nE
 have jz:∀ i o,ops[i]?=some o->ops.getD i default=o:=fun i o h=>by rw [gH,h];rfl
 have pn:∀ i o,ops[i]?=some o->i<ops.size:=fun i o h=>(nC.1 h).1
 have hlen:(ops.toList.take m).length=m:=by rw [fQ,nM];omega
 rw [hlen] at gK gN gP gT
 obtain⟨e,e0,es,eK⟩:=abw _ _ gT
 have gs':∀ i o,ops[i]?=some o->i<m->Step P true ops o (g i) (g (i+1)):=fun i o h hi=>gs i o (by rw [List.getElem?_take,if_pos hi];simpa using h)
 have so:∀ i o,ops[i]?=some o->i<m->xx o.op=false:=fun i o h wk=>by
  have:=(h1 i (pn i o h)).2
  rw [if_neg J,jz i o h] at this
  simpa using this
 have ach:∀ i,i<ops.size->∃ o,ops[i]?=some o:=fun i h=>⟨_,sN h⟩
 have gle:∀ i j,i<=j->j<=m->(g i).heap.le (g j).heap:=by
  intro i j pK
  induction j with
  | zero =>
   intro _
   have:i=0:=by omega
   subst this;exact b9.le_refl _
  | succ j ih =>
   intro mq
   by_cases q:i=j+1
   ·subst q;exact b9.le_refl _
   ·obtain⟨o,ho⟩:=ach j J
    exact b9.le_trans (ih J J) (axS (so j o ho J) (gs' j o ho J)).1
 have gb:∀ i,i<=m->(g i).heap b=none:=fun i hi=>by
  cases hq:(g i).heap b with
  | none=>rfl
  | some blk =>
   obtain⟨mm,q,_⟩:=gle i m hi (bF _) b blk hq
   rw [gK] at q;cases q
 let f:Nat->St:=fun i=>if i<=m then(g i).bU b (some x0) else e (i-m)
 have fm:∀ i,i<=m->f i=(g i).bU b (some x0):=fun i hi=>if_pos hi
 have ft:∀ i,m<=i->f i=e (i-m):=fun i hi=>by
  show (if i<=m then _ else _)=_
  by_cases q:i<=m
  ·have:i=m:=by omega
   subst this
   rw [if_pos q,sM,e0]
  ·rw [if_neg q]
 have f0:f 0=L:=by
  rw [fm 0 (bS _),g0]
  obtain⟨sl,hp⟩:=L
  show (⟨sl,fun c=>if c=b then some x0 else(if c=b then none else hp c)⟩:St)=⟨sl,hp⟩
  congr 1
  funext c
  split
  ·rename_i q;subst q;exact hb.symm
  ·rfl
 have u5:∀ i o,ops[i]?=some o->Step P true ops o (f i) (f (i+1)):=fun i o ho=>by
  by_cases iz:i<m
  ·rw [fm i J,fm (i+1) J]
   exact aA9 (so i o ho iz) (gb i J) (gb (i+1) J) (gs' i o ho iz)
  ·rw [ft i J,ft (i+1) J,show i+1-m=i-m+1 by omega]
   refine es (i-m) o ?_
   rw [List.getElem?_drop,show m+(i-m)=i by omega]
   simpa using ho
 have fK:K (f ops.size):=by
  rw [ft _ J]
  rw [ni,nM] at eK
  exact eK
 have yC:∀ i o,ops[i]?=some o->∀ j∈m8 o,j<i:=fun i o h j hj=>by
  have:=(h1 i (pn i o h)).1 j (by rw [jz i o h];exact hj)
  simpa using this
 have sc:=agi ops ops.toList [] (fun i=>by simp) (fun i t h=>by simp at h)
 have xO:∀ i o,ops[i]?=some o->m<=i->∀ j,j<i->oZ ops j i\/(i=m/\j∈fr):=fun i o h wk j hj=>by
  have:=(h1 i (pn i o h)).2
  rw [if_pos wk] at this
  have:=(py.1 this) j (by simpa using hj)
  simp only [qF,mR,beq_iff_eq,qW] at this
  rcases this with g | g
  ·exact .inl (sc i j (by simpa using g))
  ·exact .inr g
 have zE:∀ i j oi oj d,ops[i]?=some oi->ops[j]?=some oj->i<m->j<m->i≠j->oj.dst=some d->oi.dst≠some d/\(d∈oi.looksAt ops->if j<i then oZ ops j i else oZ ops i j):=by
  intro i j oi oj d hi hj iz mq bj vh
  have:=h2 i iz j mq
  simp only [qF,beq_iff_eq] at this
  rcases this with h | h
  ·exact absurd h bj
  ·unfold acQ at h
   rw [jz j oj hj,jz i oi hi,vh] at h
   simp only [mR,bne_iff_ne,ne_eq,qF,zr] at h
   refine⟨h.1,fun tW=>?_⟩
   rcases h.2 with h' | h'
   ·rw [qW.2 tW] at h';cases h'
   ·split
    ·rename_i bZ;rw [if_pos bZ] at h';exact sc i j h'
    ·rename_i bZ;rw [if_neg bZ] at h';exact sc j i h'
 have anb:∀ om,ops[m]?=some om->om.guard=none/\om.dst=none/\∃ T p x,om.op=.store T p x:=fun om lB=>by
  rw [jz m om lB] at eI
  refine⟨aaL.1 eI.1.1,aaL.1 eI.1.2,?_⟩
  have:=eI.2
  split at this
  ·rename_i T p x q;exact⟨T,p,x,q⟩
  ·cases this
 have hHm:(g m).heap.le (f (m+1)).heap:=by
  obtain⟨om,lB⟩:=ach m wm
  obtain⟨q1,q2,_⟩:=anb om lB
  obtain⟨T,p,v,ii,oo,q3,q4⟩:=gP om lB
  have il:=u5 m om lB
  rw [fm m (bF _)] at il
  obtain⟨dst,op,ty,pos,after,gd⟩:=om
  simp only at q1 q2 q3
  subst q1 q2 q3
  intro c blk hc
  have oF:c≠b:=fun q=>by subst q;rw [gK] at hc;cases hc
  cases il with
  | skip hg h=>cases hg
  | val hg hle dS n9 h =>
   cases n9 with
   | pure h=>cases h
   | alloc h=>cases h
   | call h=>cases h
  | st hg vE =>
   generalize hfe:f (m+1)=F at vE ⊢
   cases vE with
   | store hp hb1 pd hm hi hy pJ hT bj =>
    have e1:(LV.aF _ _ _ _)=LV.aF b x0.sz ii oo:=hp.symm.trans q4
    cases e1
    exact⟨blk.mt,by
     show (if c=b then _ else if c=b then _ else(g m).heap c)=_
     rw [if_neg oF,if_neg oF];exact hc,fun h=>h,fun h1 h2=>by rw [h1] at h2;cases h2⟩
  | stM iP _ _=>cases iP
 refine aqu iu hs f0 u5 fK J yC xO so zE ?_ hd hq
 intro j o ho hj
 have hj3:=h3 j hj
 obtain⟨mq,hf⟩:=hj3
 unfold aw1 at hf
 rw [jz j o ho] at hf
 simp only [mR,aaL] at hf
 obtain⟨⟨xL,ot⟩,uG⟩:=hf
 refine⟨mq,wm,fun om lB=>?_,xL,.inr (.inr (.inr ⟨fun om lB=>(anb om lB).2.1,?_⟩))⟩
 ·obtain⟨q1,q2,q3⟩:=anb om lB
  refine⟨q1,.inl ⟨q2,q3⟩,fun d hdd=>⟨fun tW=>?_,fun q=>by rw [q2] at q;cases q⟩,fun d hdd=>by rw [q2] at hdd;cases hdd⟩
  rw [hdd,jz m om lB] at uG
  simp only [qW.2 tW] at uG
  cases uG
 ·have hsj:=gs' j o ho mq
  have ie:∀ y,(f j).ev y=(g j).ev y:=fun y=>by rw [fm j J];rfl
  have gO:∀ t,(f (j+1)).slot t=(g (j+1)).slot t:=fun t=>by rw [fm (j+1) J];rfl
  cases hsj with
  | skip hg h=>unfold eE at hg;rw [xL] at hg;cases hg
  | @val r fr' H1 hg hle dS n9 h =>
   have wS:H1=(g (j+1)).heap:=by rw [h]
   have ahW:H1.le (f (m+1)).heap:=by rw [wS];exact b9.le_trans (gle (j+1) m J (bF _)) hHm
   have o4:∀ t,o.dst=some t->(f (j+1)).slot t=r:=fun t ht=>by rw [gO,h];simp only [ht];exact(iI _ _ _ _).trans (if_pos rfl)
   refine⟨r,?_,o4⟩
   have aIZ:(f j).ev=(g j).ev:=funext ie
   rw [aIZ]
   have aha:=n9.le ahW
   obtain⟨dst,op,ty,pos,after,gd⟩:=o
   simp only at ot aha n9 dS
   cases aha with
   | pure h=>exact .pure h
   | alloc h=>cases h<;>cases ot
   | @call bs h =>
    cases bs with
    | nil=>exact .call h
    | cons x bs =>
     exfalso
     obtain⟨_,mm,q2,_⟩:=dS (dZ (dst.getD 0) 1) x aW
     have nv:=py.1 gN j hj
     rw [jz j _ ho] at nv
     simp only at nv
     rw [wS] at q2
     obtain⟨_,q4,_⟩:=gle (j+1) m J (bF _) _ _ q2
     cases dst with
     | none=>simp at uG
     | some d =>
      simp only [aaC] at q4
      change ((g m).heap (dZ d 1)).isNone=true at nv
      rw [q4] at nv;cases nv
  | st hg ho2 =>
   have:=so j o ho mq
   obtain⟨dst,op,ty,pos,after,gd⟩:=o
   rw [ho2.tail] at this;cases this
  | stM iP _ _=>cases iP
def ng (P:Program) (ops:Array Oper):Nat->Array Bool->St->(St->Prop)->Prop
 | 0,D,L,K=>Region.ready .any ops D=[]/\K L
 | fuel+1,D,L,K=>(Region.ready .any ops D=[]->K L)/\∀ i∈Region.ready .any ops D,∃ o L',ops[i]?=some o/\Step P false ops o L L'/\ng P ops fuel (D.setIfInBounds i true) L' K
theorem aoS {K K':St->Prop} (hk:∀ L,K L->K' L):∀ (fuel:Nat) (D:Array Bool) (L:St),ng P ops fuel D L K->ng P ops fuel D L K'
 | 0,D,L,h=>⟨h.1,hk L h.2⟩
 | fuel+1,D,L,h=>⟨fun e=>hk L (h.1 e),fun i hi=>by obtain⟨o,L',h1,h2,h3⟩:=h.2 i hi;exact⟨o,L',h1,h2,aoS hk fuel _ L' h3⟩⟩
theorem fT.drew {L:St} {w':World} (hs:fT n W X Z0 L a w) (hh:w'.heap=w.heap) (h1:w'.os=w.os) (h2:w'.tape=w.tape) (h3:w'.output=w.output):fT n W X Z0 L a w':=by
 obtain⟨eh,bT,μ,Z,hc,hr⟩:=hs
 have dS:Frame Z μ w w':=⟨fun _ _=>by rw [hh],fun _ id _ c _ _ h=>⟨c,by rw [hh];exact h,rfl⟩⟩
 refine⟨eh,bT,μ,Z,⟨⟨h1.trans hc.cx.os,h2.trans hc.cx.tape,h3.trans hc.cx.output,by rw [hh];exact hc.cx.size,by rw [hh];exact hc.cx.block,by rw [hh];exact hc.cx.vg⟩,by rw [hh];exact hc.lg,hc.jy,hc.lh,
  hc.inj,hc.own,hc.x0,hc.nV,hc.x1,hc.ja,hc.ca,fun b id hb=>?_⟩,fun t=>(hr t).mono (fun _ h=>h) (fun _ _ h=>h) dS⟩
 obtain⟨blk,g1,g2⟩:=hc.heap b id hb
 exact⟨blk,g1,g2.mono (fun _ h=>h) (fun _ _ h=>h) dS (by rw [hh])⟩
theorem apm {K:St->Prop} {Q:Exit->Act->World->Prop} (hd:∀ o∈ops.toList,∀ t,o.dst=some t->t<n) (hq:∀ L' a' w',K L'->fT n W X Z0 L' a' w'->Q .normal a' w') :
  ∀ (fuel:Nat) (D:Array Bool) (L:St) (a:Act) (w:World),fT n W X Z0 L a w->ng P ops fuel D L K->wpAny P .any ops Q fuel D a w
 | 0,D,L,a,w,hs,h=>⟨h.1,hq L a w h.2 hs⟩
 | fuel+1,D,L,a,w,hs,h=>by
   refine⟨fun e=>hq L a w (h.1 e) hs,fun i hi=>?_⟩
   obtain⟨o,L',h1,h2,h3⟩:=h.2 i hi
   unfold wpOp
   rw [h1]
   simp only
   have:=acn (Q:=Q) (K:=wpAny P .any ops Q fuel (D.setIfInBounds i true)) hs h2 (hd o (by rw [afI];exact axp h1)) (fun a' w' jO=>apm hd hq fuel _ L' a' w' jO h3)
   split
   ·rename_i hw;rw [if_pos hw] at this;exact .inl this
   ·rename_i hw;rw [if_neg hw] at this;exact this
theorem aC1 {id:Nat} {K:St->Prop} {Q:Exit->Act->World->Prop} {L:St} (iu:P.follows .mixedOrders=true) (hs:fT n W X Z0 L a w)
  (hL:ng P ops ops.size (rH ops.size false) L K) (hd:∀ o∈ops.toList,∀ t,o.dst=some t->t<n) (hq:∀ L' a' w',K L'->fT n W X Z0 L' a' w'->Q .normal a' w') :
  (Code.region id ops true).wp P Q a w :=
 wp_region_any iu (apm hd hq _ _ L a _ (hs.drew rfl rfl rfl rfl) hL)
end
section
variable {P:Program} {ops:Array Oper}
theorem af1 {D:Array Bool} {i:Nat} (h:i<D.size) (a b:Bool):D.getD i a=D.getD i b:=by
 rw [gH,gH,sN h];rfl
end
end Go.Lg
namespace Go.Lg
inductive jT where
 | normal
 | exit (id:Nat)
 | ret
def oq (K:St->Prop) (Q:jT->St->Prop):jT->St->Prop
 | .normal,L=>K L
 | e,L=>Q e L
def qK (id:Nat) (Q:jT->St->Prop):jT->St->Prop
 | .exit i,L=>if i=id then Q .normal L else Q (.exit i) L
 | e,L=>Q e L
def kS (n:Nat):Code->Bool
 | .region _ ops _=>ops.toList.all fun o=>match o.dst with | some t=>decide (t<n) | none=>true
 | .seq x y=>kS n x && kS n y
 | .cond _ x y=>kS n x && kS n y
 | .block _ c=>kS n c
 | .loop c=>kS n c
 | _=>true
def aco (n:Nat) (W:World) (X:XS) (Z0:Nat->Prop) (Q:jT->St->Prop):Exit->Act->World->Prop
 | .normal,a,w=>∃ L,Q .normal L/\fT n W X Z0 L a w
 | .exit id,a,w=>∃ L,Q (.exit id) L/\fT n W X Z0 L a w
 | .ret,a,w=>∃ L,Q .ret L/\fT n W X Z0 L a w
 | _,_,_=>False
def cU (P:Program):Code->(jT->St->Prop)->St->Prop
 | .skip,Q,L=>Q .normal L
 | .region _ ops d,Q,L=>∃ L0,az L L0/\(((d=true->∃ m fr,yg ops m fr=true)/\opsL P d ops ops.toList L0 (Q .normal))\/(d=true/\ng P ops ops.size (rH ops.size false) L0 (Q .normal)) \/
   ∀ n W X Z0 a w,fT n W X Z0 L0 a w->kS n (.region 0 ops d)=true->∀ id,(Code.region id ops d).wp P (aco n W X Z0 Q) a w)
 | .seq x y,Q,L=>cU P x (oq (cU P y Q) Q) L
 | .cond c x y,Q,L=>∃ t,L.ev c=.v (.bool t)/\(t=true->cU P x Q L)/\(t=false->cU P y Q L)
 | .block id c,Q,L=>cU P c (qK id Q) L
 | .loop c,Q,L=>∀ I:St->Prop,(∀ L,cU P c (oq (fun L'=>∃ L'',az L' L''/\I L'') Q) L->I L)->∃ L0,az L L0/\I L0
 | .exit id,Q,L=>Q (.exit id) L
 | .ret,Q,L=>Q .ret L
 | _,_,_=>False
section
variable {P:Program} {W w w':World} {X:XS} {Z0 Z:Nat->Prop} {μ:Nat->Option Nat} {H:b9} {a:Act} {L L':St} {n:Nat}
def ahf (P:Program) (c:Code) (Q:Exit->Act->World->Prop) (a:Act) (w:World):Prop :=
 ∀ b k cs,∃ e a' w',Q e a' w'/\Arrives P (lone (b.at a (.code c :: .inLoop c :: k)) cs w) b k cs e a' w'
theorem aBg {c:Code} {Q:Exit->Act->World->Prop} {a:Act} {w:World} (h:c.wp P (Exit.then (ahf P c Q) Q) a w):ahf P c Q a w:=by
 intro b k cs
 obtain⟨e,aev,aeq,hq,aaV⟩:=h b (.inLoop c :: k) cs
 cases e with
 | normal =>
  obtain⟨aJp,aJR,aHw,aD9,aJo⟩:=hq b k cs
  exact⟨aJp,aJR,aHw,aD9,.of_steps (Steps.trans aaV (.one step_inLoop)) aJo⟩
 | exit id=>exact⟨_,aev,aeq,hq,.pass (x:=.inLoop c) rfl (fun _ _=>.inl aW) aaV⟩
 | goto l=>exact⟨_,aev,aeq,hq,.pass (x:=.inLoop c) rfl (fun _ _=>.inl aW) aaV⟩
 | ret=>exact⟨_,aev,aeq,hq,.pass (x:=.inLoop c) rfl (fun _ _=>.inl aW) aaV⟩
 | panic ch=>exact⟨_,aev,aeq,hq,.pass (x:=.inLoop c) rfl (fun _ _=>.inl aW) aaV⟩
 | outgrown=>exact⟨_,aev,aeq,hq,.pass (x:=.inLoop c) rfl (fun _ _=>.inl aW) aaV⟩
theorem aHC {c:Code} {Q:Exit->Act->World->Prop} {a:Act} {w:World} (h:ahf P c Q a w):(Code.loop c).wp P Q a w:=by
 intro b k cs
 obtain⟨e,a',w',hq,aaV⟩:=h b k cs
 exact⟨e,a',w',hq,.of_steps (.one step_loop) aaV⟩
theorem zI (iu:P.follows .mixedOrders=true):∀ (c:Code) (Q:jT->St->Prop) (L:St) (a:Act) (w:World),fT n W X Z0 L a w->cU P c Q L->kS n c=true ->
  c.wp P (aco n W X Z0 Q) a w
 | .skip,Q,L,a,w,hs,h,_=>wp_skip ⟨L,h,hs⟩
 | .region id ops d,Q,L,a,w,hs,h,hd=>by
   obtain⟨L0,hw,hdL⟩:=h
   have iB:∀ o∈ops.toList,∀ t,o.dst=some t->t<n:=fun o ho t ht=>by
    simp only [kS,py] at hd
    have:=hd o ho
    rw [ht] at this
    simpa using this
   rcases hdL with⟨iP,hL⟩ | ⟨rfl,hL⟩ | hL
   case inr.inr=>exact hL _ _ _ _ _ _ (hw _ _ _ _ _ _ hs) hd id
   case inr.inl=>exact aC1 iu (hw _ _ _ _ _ _ hs) hL iB (fun L' a' w' hk jO=>⟨L',hk,jO⟩)
   cases d with
   | true =>
    obtain⟨m,_,hm⟩:=iP rfl
    exact aC0 iu hm (hw _ _ _ _ _ _ hs) hL iB (fun L' a' w' hk jO=>⟨L',hk,jO⟩)
   | false=>exact wp_region_list (atq _ _ _ _ (hw _ _ _ _ _ _ hs) hL iB (fun L' a' w' hk jO=>⟨L',hk,jO⟩))
 | .seq x y,Q,L,a,w,hs,h,hd=>by
   simp only [kS,mR] at hd
   refine wp_seq (wp_mono (zI iu x _ L a w hs h hd.1) fun e a' w' q=>?_)
   cases e with
   | normal=>obtain⟨L',q1,q2⟩:=q;exact zI iu y Q L' a' w' q2 q1 hd.2
   | exit id=>exact q
   | ret=>exact q
   | _=>exact q.elim
 | .cond c x y,Q,L,a,w,hs,h,hd=>by
   simp only [kS,mR] at hd
   obtain⟨t,h1,h2,h3⟩:=h
   have hc:a.eval c=.bool t:=by
    obtain⟨_,_,μ,Z,hc,hr⟩:=hs
    have:=lG (L:=L) hr c
    rw [h1] at this
    exact this.fk
   exact wp_cond_split hc (fun e=>zI iu x Q L a w hs (h2 e) hd.1) (fun e=>zI iu y Q L a w hs (h3 e) hd.2)
 | .block id c,Q,L,a,w,hs,h,hd=>by
   refine wp_block (wp_mono (zI iu c _ L a w hs h hd) fun e a' w' q=>?_)
   cases e with
   | normal=>exact q
   | exit i =>
    obtain⟨L',q1,q2⟩:=q
    simp only [qK] at q1
    simp only [Exit.inBlock]
    split
    ·rename_i e;rw [if_pos e] at q1;exact⟨L',q1,q2⟩
    ·rename_i e;rw [if_neg e] at q1;exact⟨L',q1,q2⟩
   | ret=>exact q
   | _=>exact q.elim
 | .loop c,Q,L,a,w,hs,h,hd=>by
   obtain⟨L0,hw,h0⟩:=h (fun L=>∀ a w,fT n W X Z0 L a w->ahf P c (aco n W X Z0 Q) a w) (fun L hL a w hs=>by
    refine aBg (wp_mono (zI iu c _ L a w hs hL hd) fun e a' w' q=>?_)
    cases e with
    | normal =>
     obtain⟨L',⟨L'',k1,k2⟩,k4⟩:=q
     exact k2 _ _ (k1 _ _ _ _ _ _ k4)
    | exit id=>exact q
    | ret=>exact q
    | _=>exact q.elim)
   exact aHC (h0 a w (hw _ _ _ _ _ _ hs))
 | .exit id,Q,L,a,w,hs,h,_=>wp_exit ⟨L,h,hs⟩
 | .ret,Q,L,a,w,hs,h,_=>wp_ret ⟨L,h,hs⟩
 | .rangeFunc ..,_,_,_,_,_,h,_=>h.elim
 | .scope _,_,_,_,_,_,h,_=>h.elim
 | .label _,_,_,_,_,_,h,_=>h.elim
 | .goto _,_,_,_,_,_,h,_=>h.elim
 | .refuse _,_,_,_,_,_,h,_=>h.elim
end
def aoq (P:Program) (L:St):ResultVar->LV->Prop
 | .tmp t,x=>L.slot t=x
 | .cell a T,x=>∃ b sz i o blk y n ag,L.slot a=.aF b sz i o/\L.heap b=some blk/\blk.sz=sz/\blk.vals[i]?=some y/\y.av=sz/\y.at o n ag=some x/\bK P T n ag
inductive yB (P:Program) (L:St):List ResultVar->List LV->Prop
 | nil:yB P L [] []
 | cons {v x vs xs} (h:aoq P L v x) (t:yB P L vs xs):yB P L (v :: vs) (x :: xs)
inductive xP (H:b9) (own:List Nat):LV->LV->Prop
 | eF {x y} (h:da H x y):xP H own x y
 | ref {b sz off len k} (hk:own[k]?=some b):xP H own (.ref b sz off len) (.ref (k+1) sz off len)
 | ptr {b sz i o k} (hk:own[k]?=some b):xP H own (.aF b sz i o) (.aF (k+1) sz i o)
 | net {x y x' y' b sz off len k} (h1:da H x x') (h2:da H y y') (hk:own[k]?=some b):xP H own (.agg [x,y,.ref b sz off len]) (.agg [x',y',.ref (k+1) sz off len])
 | bx3 {x x' b1 s1 o1 l1 k1 b2 s2 o2 l2 k2 b3 s3 o3 l3 k3} (hx:da H x x') (h1:own[k1]?=some b1) (h2:own[k2]?=some b2) (h3:own[k3]?=some b3) :
   xP H own (.agg [.ref b1 s1 o1 l1,.ref b2 s2 o2 l2,x,.ref b3 s3 o3 l3]) (.agg [.ref (k1+1) s1 o1 l1,.ref (k2+1) s2 o2 l2,x',.ref (k3+1) s3 o3 l3])
inductive aeU (H:b9) (own:List Nat):List LV->List LV->Prop
 | nil:aeU H own [] []
 | cons {x y xs ys} (h:xP H own x y) (t:aeU H own xs ys):aeU H own (x :: xs) (y :: ys)
def ag1:List LV->LV
 | [y]=>y
 | ys=>.a9 ys
def qm (P:Program) (rs:List ResultVar) (L:St) (r:LV) (bs:List bA):Prop :=
 ∃ (xs ys:List LV) (H1:b9) (own:List Nat),yB P L rs xs/\L.heap.le H1/\aeU H1 own xs ys/\own.Nodup/\own.length=bs.length /\
  (∀ (k b:Nat),own[k]?=some b->∃ blk:bA,H1 b=some blk/\bs[k]?=some blk/\aK blk.vals=true)/\r=ag1 ys
def y5 (args:List LV):St:=⟨fun t=>args.getD t .any,fun _=>none⟩
section
variable {P:Program} {W w w':World} {X:XS} {Z0 Z:Nat->Prop} {μ:Nat->Option Nat} {H:b9} {a:Act} {L L':St} {n:Nat}
def zg (tmps:Array Value) (v:ResultVar):Sem Value :=
 match v with
 | .tmp t=>pure (tmps.getD t undef)
 | .cell p T=>do loadVar T (<-asAddr (tmps.getD p undef))
theorem akE (fn:Func) (tmps:Array Value):results fn tmps=(do let vs <-fn.results.mapM (zg tmps);pure (if h:vs.size=1 then vs[0] else .tuple vs)):=by
 rfl
theorem alV {v:ResultVar} {x:LV} (hc:Core W X Z0 μ Z L.heap w) (hr:∀ t,bu Z μ w (L.slot t) (a.tmps.getD t undef)) (h:aoq P L v x) (hx:x≠.any/\∀ l,x≠.a9 l) :
  ∃ u,(zg a.tmps v).run P w=.ok u w/\fN Z μ w x u:=by
 cases v with
 | tmp t =>
  simp only [aoq] at h
  have:=hr t
  rw [h] at this
  exact⟨_,rfl,bu.yi hx.2 hx.1 this⟩
 | cell p T =>
  obtain⟨b,sz,i,o,blk,y,m,ag,h1,h2,h3,h4,h5,h6,h7⟩:=h
  have e1:=hr p
  rw [h1] at e1
  have hl:aN P L.heap L.ev (.load T (.tmp p)) x:=.dU (b:=b) (sz:=sz) h1 h2 h3 h4 h5 h6 h7
  obtain⟨u,r1,r2⟩:=hl.sound (a:=a) (fun y hy=>lG (L:=L) hr y) hc.heap none 0 "" #[] none
  have e2:=e1.2 rfl
  simp only [aJ] at e2
  obtain⟨id,q1,q2⟩:=e2
  simp only [gj,and_true] at q1
  have ie:a.eval (.tmp p)=a.tmps.getD p undef:=rfl
  refine⟨u,?_,bu.yi hx.2 hx.1 r2⟩
  simp only [execOp,ie,q1,Instr.loadAt,Instr.sureAddr,Sem.run_bind,Sem.run_pure,Result.andThen_ok] at r1
  simp only [zg,q1,asAddr,Sem.run_bind,Sem.run_pure,Result.andThen_ok]
  cases hq:(loadVar T ⟨id,i*sz+o,none⟩).run P w with
  | ok v' w'' =>
   rw [hq] at r1
   simp only [Result.andThen_ok,Result.ok.injEq,Next.value.injEq] at r1
   rw [r1.1,r1.2]
  | halt x' w''=>rw [hq] at r1;simp at r1
theorem xP.ne {own:List Nat} {x y:LV} (h:xP H own x y):x≠.any/\∀ l,x≠.a9 l:=by
 cases h with
 | eF h=>exact h.ne
 | ref _=>exact⟨by simp,by simp⟩
 | ptr _=>exact⟨by simp,by simp⟩
 | net _ _ _=>exact⟨by simp,by simp⟩
 | bx3 _ _ _ _=>exact⟨by simp,by simp⟩
def vw (μ:Nat->Option Nat) (own:List Nat):Nat->Option Nat:=fun k=>if k=0 then none else(own[k-1]?).bind μ
theorem xP.sound {own:List Nat} {x y:LV} {u:Value} (hc:Core W X Z0 μ Z H w) (h:xP H own x y) (hu:fN Z μ w x u):fN Z (vw μ own) w y u:=by
 cases h with
 | eF h=>exact da.abf hc h (bu.sn h.ne.2 hu)
 | @ref b sz off len k hk =>
  have:=hu.2 rfl
  refine⟨by simp [LV.isAgg],fun _=>?_⟩
  simp only [aJ] at this ⊢
  rcases this with h | ⟨id,cap,c,T,fz,h1,h2,h3⟩
  ·exact oB
  exact .inr ⟨id,cap,c,T,fz,h1,by simp [vw,hk,h2],h3⟩
 | @ptr b sz i o k hk =>
  have:=hu.2 rfl
  refine⟨by simp [LV.isAgg],fun _=>?_⟩
  simp only [aJ] at this ⊢
  obtain⟨id,h1,h2⟩:=this
  exact⟨id,h1,by simp [vw,hk,h2]⟩
 | @net x y x' y' b sz off len k hx hy hk =>
  obtain⟨cs,rfl,hr⟩:=hu.1 rfl
  refine⟨fun _=>⟨cs,rfl,?_⟩,by simp [LV.isAgg]⟩
  simp only [aJ,cj] at hr ⊢
  obtain⟨c1,d1,e1,l1,r1,c2,d2,e2,l2,r2,c3,d3,e3,l3,r3,r4⟩:=hr
  refine⟨c1,d1,e1,by rw [l1,hx.lay.2.1],da.sound hc hx r1,c2,d2,e2,by rw [l2,hy.lay.2.1],da.sound hc hy r2,c3,d3,e3,l3,?_,r4⟩
  rcases r3 with h | ⟨id,cap,c,T,fz,h1,h2,h3⟩
  ·exact oB
  exact .inr ⟨id,cap,c,T,fz,h1,by simp [vw,hk,h2],h3⟩
 | @bx3 x x' b1 s1 o1 l1 k1 b2 s2 o2 l2 k2 b3 s3 o3 l3 k3 hx hk1 lS yR =>
  obtain⟨cs,rfl,hr⟩:=hu.1 rfl
  refine⟨fun _=>⟨cs,rfl,?_⟩,by simp [LV.isAgg]⟩
  simp only [aJ,cj] at hr ⊢
  obtain⟨c1,d1,e1,m1,r1,c2,d2,e2,m2,r2,c3,d3,e3,m3,r3,c4,d4,e4,m4,r4,r5⟩:=hr
  refine⟨c1,d1,e1,m1,?_,c2,d2,e2,m2,?_,c3,d3,e3,by rw [m3,hx.lay.2.1],da.sound hc hx r3,c4,d4,e4,m4,?_,r5⟩
  ·rcases r1 with h | ⟨id,cap,c,T,fz,h1,h2,h3⟩
   ·exact oB
   ·exact .inr ⟨id,cap,c,T,fz,h1,by simp [vw,hk1,h2],h3⟩
  ·rcases r2 with h | ⟨id,cap,c,T,fz,h1,h2,h3⟩
   ·exact oB
   ·exact .inr ⟨id,cap,c,T,fz,h1,by simp [vw,lS,h2],h3⟩
  ·rcases r4 with h | ⟨id,cap,c,T,fz,h1,h2,h3⟩
   ·exact oB
   ·exact .inr ⟨id,cap,c,T,fz,h1,by simp [vw,yR,h2],h3⟩
theorem aqD {own:List Nat} (hc:Core W X Z0 μ Z L.heap w) (hr:∀ t,bu Z μ w (L.slot t) (a.tmps.getD t undef)) {Z1:Nat->Prop} {H1:b9} (tA:Core W X Z0 μ Z1 H1 w) (hz:∀ id,Z id->Z1 id) :
  ∀ (rs:List ResultVar) (xs ys:List LV),yB P L rs xs->aeU H1 own xs ys ->
  ∃ us,(rs.mapM (zg a.tmps)).run P w=.ok us w/\fW Z1 (vw μ own) w ys us
 | _,_,_,.nil,.nil=>⟨[],rfl,rfl⟩
 | _,_,_,.cons (vs:=vs) (xs:=xs) h t,.cons (ys:=ys) h' t'=>by
   obtain⟨u,q1,q2⟩:=alV hc hr h h'.ne
   obtain⟨us,q3,q4⟩:=aqD hc hr tA hz _ _ _ t t'
   refine⟨u :: us,?_,u,us,rfl,h'.sound tA (q2.mono hz (fun _ _ h=>h) ⟨fun _ _=>rfl,(Frame.refl Z μ w).m⟩),q4⟩
   rw [awd,Sem.run_bind,q1]
   simp only [Result.andThen_ok,Sem.run_bind,q3,Sem.run_pure]
theorem ajt:∀ (args:List LV) (vs us:List Value),fW Z μ w args vs->∀ t,bu Z μ w ((y5 args).slot t) ((vs++us).toArray.getD t undef)
 | [],_,us,h,t=>by simp only [y5,List.getD_nil];trivial
 | x :: xs,_,us,⟨v,jP,e,h1,h2⟩,t=>by
   subst e
   cases t with
   | zero =>
    have:∀ l,x≠.a9 l:=fun l e=>by subst e;have:=h1.2 rfl;simp [aJ] at this
    simpa [y5] using bu.sn this h1
   | succ t =>
    have:=ajt xs jP us h2 t
    simpa [y5] using this
theorem aby:∀ (args:List LV) (vs:List Value),fW Z μ w args vs->vs.length=args.length
 | [],_,h=>by cases h;rfl
 | _ :: xs,_,⟨v,jP,e,_,h2⟩=>by subst e;simp [aby xs jP h2]
theorem aym {f:FuncId} {fn:Func} {c:Code} {args:List LV} {r:LV} {bs:List bA} (iu:P.follows .mixedOrders=true) (hf:P.funcs[f]?=some fn) (hb:fn.body=some c)
  (hn:(fn.name== "runtime.NumGoroutine")=false) (hd:kS fn.ntmps c=true) (hlen:args.length<=fn.ntmps)
  (h:cU P c (fun e L=>match e with | .exit _=>False | _=>qm P fn.results.toList L r bs) (y5 args)):pC P f args r bs:=by
 refine⟨⟨fn,hf,by rw [hb];rfl,hn⟩,fun W Z0 vs hz hargs=>?_⟩
 have rM:=aby _ _ hargs
 refine calls_of_wp hf hb ?_
 have oH:fT fn.ntmps W XS.no Z0 (y5 args) ⟨vs.toArray++rH (fn.ntmps-vs.toArray.size) undef,[]⟩ W:=by
  have iy:∀ {p:Prop} (b id:Nat),(fun _:Nat=>(none:Option Nat)) b=some id->p:=fun b id h=>by cases h
  refine⟨rfl,by simp;omega,fun _=>none,Z0,⟨Kept.refl _ _,hz,fun _ h=>h,fun _ h=>.inl h,fun b _ id h _=>iy b id h,fun b id h=>iy b id h,fun b id h _=>iy b id h,fun _ h=>(XS.aeI h).elim,fun _ h=>False.elim h,
   fun b id _ h _ _=>iy b id h,fun b id _ h _ _=>iy b id h,fun b id h=>iy b id h⟩,fun t=>?_⟩
  have e:vs.toArray++rH (fn.ntmps-vs.toArray.size) undef=(vs++aV (fn.ntmps-vs.toArray.size) undef).toArray:=by apply wa;simp
  show bu Z0 (fun _=>none) W ((y5 args).slot t) ((vs.toArray++rH (fn.ntmps-vs.toArray.size) undef).getD t undef)
  rw [e]
  exact ajt (Z:=Z0) (μ:=fun _=>none) (w:=W) args vs _ hargs t
 refine wp_mono (zI iu c _ _ _ _ oH h hd) fun e a w q=>?_
 have main:∀ L,qm P fn.results.toList L r bs->fT fn.ntmps W XS.no Z0 L a w ->
   a.defers=[]/\∃ v,(results fn a.tmps).run P w=.ok v w/\∃ v' μ Z,Ending.returned v=.returned v'/\Core W XS.no Z0 μ Z (oM bs) w/\bu Z μ w r v':=by
  rintro L ⟨xs,ys,H1,own,h1,h2,h3,h4,h5,h6,h7⟩ ⟨eh,bT,μ,Z,hc,hr⟩
  obtain⟨Z1,k1,k2⟩:=hc.v7 h2
  obtain⟨us,q1,q2⟩:=aqD hc hr k1 k2 _ _ _ h1 h3
  have hinv:∀ k id,vw μ own k=some id->∃ b,k≠0/\own[k-1]?=some b/\μ b=some id:=fun k id hk=>by
   unfold vw at hk
   split at hk
   ·cases hk
   ·rename_i h0
    rw [Option.bind_eq_some_iff] at hk
    obtain⟨b,g1,g2⟩:=hk
    exact⟨b,h0,g1,g2⟩
  have anv:∀ k b,k≠0->own[k-1]?=some b->∃ blk,H1 b=some blk/\oM bs k=some blk/\aK blk.vals=true:=fun k b h0 hb=>by
   obtain⟨blk,g1,g2,g3⟩:=h6 _ b hb
   exact⟨blk,g1,by simp [oM,h0,g2],g3⟩
  have anV:Core W XS.no Z0 (vw μ own) Z1 (oM bs) w:=by
   refine⟨k1.cx,k1.lg,k1.jy,k1.lh,?_,?_,fun _ _ _ h=>h.elim,fun _ h=>(XS.aeI h).elim,fun _ h=>h.elim,?_,?_,?_⟩
   ·intro k k' id hk qJ
    obtain⟨b,g0,g1,g2⟩:=hinv k id hk
    obtain⟨b',g0',g1',g2'⟩:=hinv k' id qJ
    have:=k1.inj b b' id g2 g2'
    subst this
    obtain⟨l1,e1⟩:=oe.1 g1
    obtain⟨l2,e2⟩:=oe.1 g1'
    have hp:=List.pairwise_iff_getElem.1 h4
    rcases Nat.lt_trichotomy (k-1) (k'-1) with h | h | h
    ·exact absurd (e1.trans e2.symm) (hp _ _ l1 l2 h)
    ·omega
    ·exact absurd (e2.trans e1.symm) (hp _ _ l2 l1 h)
   ·intro k id hk
    obtain⟨b,g0,g1,g2⟩:=hinv k id hk
    exact k1.own b id g2
   ·intro k id blk hk hb hm
    obtain⟨b,g0,g1,g2⟩:=hinv k id hk
    obtain⟨blk',j1,j2,_⟩:=anv k b g0 g1
    rw [hb] at j2;cases j2
    exact k1.ja b id blk g2 j1 hm
   ·intro k id blk hk hb hm
    obtain⟨b,g0,g1,g2⟩:=hinv k id hk
    obtain⟨blk',j1,j2,_⟩:=anv k b g0 g1
    rw [hb] at j2;cases j2
    exact k1.ca b id blk g2 j1 hm
   ·intro k id hk
    obtain⟨b,g0,g1,g2⟩:=hinv k id hk
    obtain⟨blk',j1,j2,j3⟩:=anv k b g0 g1
    obtain⟨bk,l1,cc,T,part,rest,l2,l3,l4⟩:=k1.heap b id g2
    rw [j1] at l1;cases l1
    exact⟨_,j2,cc,T,part,rest,l2,l3,a6.kt (fun _ h=>h) (fun _ _=>rfl) _ _ _ j3 l4⟩
  have o4:(fn.results.mapM (zg a.tmps)).run P w=.ok us.toArray w:=by
   rw [awR,Sem.run_map,q1];rfl
  refine⟨eh,(if h:us.toArray.size=1 then us.toArray[0] else .tuple us.toArray),?_,_,vw μ own,Z1,rfl,anV,?_⟩
  ·rw [akE,Sem.run_bind,o4]
   rfl
  ·subst h7
   have yW:=aby _ _ q2
   match ys,us,q2,yW with
   | [y],[u],q2,_ =>
    obtain⟨v,jP,e,g1,g2⟩:=q2
    simp only [gj] at e
    obtain⟨rfl,_⟩:=e
    have hnt:∀ l,y≠.a9 l:=fun l e=>by subst e;have:=g1.2 rfl;simp [aJ] at this
    exact bu.sn hnt g1
   | [],[],q2,_=>exact⟨_,rfl,by simpa using q2⟩
   | y :: y' :: ys,u :: u' :: us,q2,_ =>
    refine⟨(u :: u' :: us).toArray,by simp,by simpa using q2⟩
 cases e with
 | normal=>obtain⟨L,q1,q2⟩:=q;exact main L q1 q2
 | ret=>obtain⟨L,q1,q2⟩:=q;exact main L q1 q2
 | exit id=>obtain⟨L,q1,q2⟩:=q;exact q1.elim
 | _=>exact q.elim
def StM (args:List LV) (blk:bA):St:=⟨fun t=>args.getD t .any,fun n=>if n=0 then some blk else none⟩
def ab5 (P:Program) (rs:List ResultVar) (L:St) (r:LV) (blk':bA):Prop :=
 ∃ (xs ys:List LV) (H1:b9),yB P L rs xs/\L.heap.le H1/\yt H1 0 xs ys/\H1 0=some blk'/\blk'.mt=true/\aK blk'.vals=true/\r=ag1 ys
theorem asI {i0:Nat} (hc:Core W X Z0 μ Z L.heap w) (hr:∀ t,bu Z μ w (L.slot t) (a.tmps.getD t undef)) {Z1:Nat->Prop} {H1:b9} (tA:Core W X Z0 μ Z1 H1 w) (hz:∀ id,Z id->Z1 id) (h0:μ 0=some i0) :
  ∀ (rs:List ResultVar) (xs ys:List LV),yB P L rs xs->yt H1 0 xs ys ->
  ∃ us,(rs.mapM (zg a.tmps)).run P w=.ok us w/\fW Z1 (vI i0) w ys us
 | _,_,_,.nil,.nil=>⟨[],rfl,rfl⟩
 | _,_,_,.cons (vs:=vs) (xs:=xs) h t,.cons (ys:=ys) h' t'=>by
   obtain⟨u,q1,q2⟩:=alV hc hr h h'.ne
   obtain⟨us,q3,q4⟩:=asI hc hr tA hz h0 _ _ _ t t'
   refine⟨u :: us,?_,u,us,rfl,h'.sound tA h0 (bu.sn h'.ne.2 (q2.mono hz (fun _ _ h=>h) ⟨fun _ _=>rfl,(Frame.refl Z μ w).m⟩)),q4⟩
   rw [awd,Sem.run_bind,q1]
   simp only [Result.andThen_ok,Sem.run_bind,q3,Sem.run_pure]
theorem aFR {f:FuncId} {fn:Func} {c:Code} {args:List LV} {r:LV} {blk blk':bA} (iu:P.follows .mixedOrders=true) (hf:P.funcs[f]?=some fn) (hb:fn.body=some c)
  (hn:(fn.name== "runtime.NumGoroutine")=false) (hd:kS fn.ntmps c=true) (hlen:args.length<=fn.ntmps) (fu:blk.mt=true)
  (h:cU P c (fun e L=>match e with | .exit _=>False | _=>ab5 P fn.results.toList L r blk') (StM args blk)):uv P f blk args r blk':=by
 refine⟨⟨fn,hf,by rw [hb];rfl,hn⟩,fun W Z0 vs i0 hz rV nF hargs=>?_⟩
 have rM:=aby _ _ hargs
 refine calls_of_wp hf hb ?_
 have iS:∀ b id,vI i0 b=some id->b=0/\id=i0:=fun b id h=>by
  unfold vI at h;split at h
  ·cases h;exact⟨by assumption,rfl⟩
  ·cases h
 have bZ:i0<W.heap.size:=by
  obtain⟨c,T,part,rest,h1,_⟩:=nF
  exact(nC.1 h1).1
 have oH:fT fn.ntmps W (XS.one i0) Z0 (StM args blk) ⟨vs.toArray++rH (fn.ntmps-vs.toArray.size) undef,[]⟩ W:=by
  refine⟨rfl,by simp;omega,vI i0,Z0,⟨Kept.refl _ _,hz,fun _ h=>h,fun _ h=>.inl h,fun b b' id h h'=>(iS b id h).1.trans (iS b' id h').1.symm,fun b id h=>.inr (.inl (iS b id h).2),
   fun b id h _=>(iS b id h).1,fun id h=>by rw [XS.axY h];exact bZ,fun id h=>by rw [show id=i0 from h];rfl,fun b id bk h _ _=>by rw [(iS b id h).2];exact rV,
   fun b id bk h g hm=>?_,fun b id h=>?_⟩,fun t=>?_⟩
  ·obtain⟨rfl,rfl⟩:=iS b id h
   simp only [StM,if_true] at g;cases g
   rw [fu] at hm;cases hm
  ·obtain⟨rfl,rfl⟩:=iS b id h
   exact⟨blk,rfl,nF⟩
  ·have e:vs.toArray++rH (fn.ntmps-vs.toArray.size) undef=(vs++aV (fn.ntmps-vs.toArray.size) undef).toArray:=by apply wa;simp
   show bu Z0 (vI i0) W ((y5 args).slot t) ((vs.toArray++rH (fn.ntmps-vs.toArray.size) undef).getD t undef)
   rw [e]
   exact ajt args vs _ hargs t
 refine wp_mono (zI iu c _ _ _ _ oH h hd) fun e a w q=>?_
 have main:∀ L,ab5 P fn.results.toList L r blk'->fT fn.ntmps W (XS.one i0) Z0 L a w ->
   a.defers=[]/\∃ v,(results fn a.tmps).run P w=.ok v w/\∃ v' μ Z,Ending.returned v=.returned v'/\Core W (XS.one i0) Z0 μ Z (ace blk') w/\bu Z μ w r v':=by
  rintro L ⟨xs,ys,H1,h1,h2,h3,h4,h5,h6,h7⟩ ⟨eh,bT,μ,Z,hc,hr⟩
  obtain⟨Z1,k1,k2⟩:=hc.v7 h2
  have h0:=k1.x1 i0 rfl
  obtain⟨us,q1,q2⟩:=asI hc hr k1 k2 h0 _ _ _ h1 h3
  have anV:Core W (XS.one i0) Z0 (vI i0) Z1 (ace blk') w:=by
   refine⟨k1.cx,k1.lg,k1.jy,k1.lh,fun b b' id h h'=>(iS b id h).1.trans (iS b' id h').1.symm,fun b id h=>.inr (.inl (iS b id h).2),fun b id h _=>(iS b id h).1,k1.nV,fun id h=>by rw [show id=i0 from h];rfl,?_,?_,?_⟩
   ·intro b id bk h g hm
    obtain⟨rfl,rfl⟩:=iS b id h
    exact k1.ja 0 id blk' h0 h4 h5
   ·intro b id bk h g hm
    obtain⟨rfl,rfl⟩:=iS b id h
    simp only [ace,if_true] at g;cases g
    rw [h5] at hm;cases hm
   ·intro b id h
    obtain⟨rfl,rfl⟩:=iS b id h
    obtain⟨bk,l1,cc,T,part,rest,l2,l3,l4⟩:=k1.heap 0 id h0
    rw [h4] at l1;cases l1
    exact⟨_,rfl,cc,T,part,rest,l2,l3,a6.kt (fun _ h=>h) (fun _ _=>rfl) _ _ _ h6 l4⟩
  have o4:(fn.results.mapM (zg a.tmps)).run P w=.ok us.toArray w:=by
   rw [awR,Sem.run_map,q1];rfl
  refine⟨eh,(if h:us.toArray.size=1 then us.toArray[0] else .tuple us.toArray),?_,_,vI i0,Z1,rfl,anV,?_⟩
  ·rw [akE,Sem.run_bind,o4]
   rfl
  ·subst h7
   have yW:=aby _ _ q2
   match ys,us,q2,yW with
   | [y],[u],q2,_ =>
    obtain⟨v,jP,e,g1,g2⟩:=q2
    simp only [gj] at e
    obtain⟨rfl,_⟩:=e
    have hnt:∀ l,y≠.a9 l:=fun l e=>by subst e;have:=g1.2 rfl;simp [aJ] at this
    exact bu.sn hnt g1
   | [],[],q2,_=>exact⟨_,rfl,by simpa using q2⟩
   | y :: y' :: ys,u :: u' :: us,q2,_ =>
    refine⟨(u :: u' :: us).toArray,by simp,by simpa using q2⟩
 cases e with
 | normal=>obtain⟨L,q1,q2⟩:=q;exact main L q1 q2
 | ret=>obtain⟨L,q1,q2⟩:=q;exact main L q1 q2
 | exit id=>obtain⟨L,q1,q2⟩:=q;exact q1.elim
 | _=>exact q.elim
end
end Go.Lg
namespace Go.Lg
def St.ca (L:St) (bs:List Nat):St:=⟨L.slot,fun c=>(L.heap c).map fun blk=>⟨blk.sz,blk.vals,blk.mt && !bs.contains c⟩⟩
section
variable {P:Program} {dr:Bool} {ops:Array Oper} {rest:List Oper} {L:St} {K:St->Prop} {dst:Option Tmp} {ty:TypeId} {pos:String} {af:Array Edge} {g:Option (Nat × Bool)}
theorem ux (bs:List Nat) (h0:bs.contains 0=false):L.heap.le (L.ca bs).heap:=fun b blk h=>by
 refine⟨blk.mt && !bs.contains b,by simp [St.ca,h],fun e=>by simp [e],fun e1 e2=>?_⟩
 rintro rfl
 rw [e1,h0] at e2;cases e2
theorem ah {op:Op} {r:LV} (hg:eE ops L ⟨dst,op,ty,pos,af,g⟩ true) (h:aN P L.heap L.ev op r) (k:opsL P dr ops rest (L.put dst r) K) :
  opsL P dr ops (⟨dst,op,ty,pos,af,g⟩ :: rest) L K:=by
 refine⟨L.put dst r,.val hg (b9.le_refl _) (fr:=[]) (fun _ _ h=>by cases h) (.pure h) ?_,k⟩
 cases dst<;>rfl
theorem yd {op:Op} (hg:eE ops L ⟨dst,op,ty,pos,af,g⟩ false) (k:opsL P dr ops rest (L.put dst (.a9 [])) K):opsL P dr ops (⟨dst,op,ty,pos,af,g⟩ :: rest) L K :=
 ⟨_,.skip hg rfl,k⟩
theorem auG {op:Op} {L':St} (hg:eE ops L ⟨dst,op,ty,pos,af,g⟩ true) (hd:dr=false) (h:OpM P L dst op L') (k:opsL P dr ops rest L' K):opsL P dr ops (⟨dst,op,ty,pos,af,g⟩ :: rest) L K:=⟨L',.stM hd hg h,k⟩
theorem dF {op:Op} {d:Nat} {r:LV} {blk:bA} (hg:eE ops L ⟨some d,op,ty,pos,af,g⟩ true) (hd:L.heap d=none) (h:dA P L.ev d op r blk)
  (k:opsL P dr ops rest ((L.bU d (some blk)).put (some d) r) K):opsL P dr ops (⟨some d,op,ty,pos,af,g⟩ :: rest) L K:=by
 refine⟨_,.val hg (r:=r) (fr:=[(d,blk)]) (H1:=(L.bU d (some blk)).heap) ?_ ?_ (.alloc h) ?_,k⟩
 ·intro b bk hb
  have:b≠d:=by rintro rfl;rw [hd] at hb;cases hb
  exact⟨bk.mt,by simp only [St.bU,if_neg this];exact hb,fun h=>h,fun h1 h2=>by rw [h1] at h2;cases h2⟩
 ·intro b bk hb
  simp only [fP,afW] at hb
  obtain⟨rfl,rfl⟩:=hb
  exact⟨hd,bk.mt,by simp [St.bU],fun h=>h⟩
 ·rfl
theorem eN {op:Op} {r r':LV} (bs:List Nat) (hg:eE ops L ⟨dst,op,ty,pos,af,g⟩ true) (h0:bs.contains 0=false) (h:OpC P (L.ca bs).heap L.ev (dst.getD 0) op r []) (hr:r=r')
  (k:opsL P dr ops rest ((L.ca bs).put dst r') K):opsL P dr ops (⟨dst,op,ty,pos,af,g⟩ :: rest) L K:=by
 subst hr
 refine⟨(L.ca bs).put dst r,.val hg (r:=r) (fr:=[]) (H1:=(L.ca bs).heap) (ux bs h0) (fun _ _ h=>by cases h) (.call h) ?_,k⟩
 cases dst<;>rfl
theorem at6 {f:FuncId} {xs:Array Operand} {as:Array TypeId} {args:List LV} {r:LV} (bs:List Nat) (hg:eE ops L ⟨dst,.call ⟨.value (.func f),xs,as⟩,ty,pos,af,g⟩ true) (h0:bs.contains 0=false)
  (ha:fH (L.ca bs).heap (xs.toList.map L.ev) args) (hk:pC P f args r []) (hr:r.b7 (dZ (dst.getD 0))=r)
  (k:opsL P dr ops rest ((L.ca bs).put dst r) K):opsL P dr ops (⟨dst,.call ⟨.value (.func f),xs,as⟩,ty,pos,af,g⟩ :: rest) L K :=
 eN bs hg h0 (.func ha hk aW aW) hr k
theorem vo:L.ca []=L:=by
 cases L
 simp only [St.ca,St.mk.injEq,true_and]
 funext c
 rename_i s h
 cases h c<;>simp
theorem aAW {f:FuncId} {xs:Array Operand} {as:Array TypeId} {args:List LV} {r:LV} (hg:eE ops L ⟨dst,.call ⟨.value (.func f),xs,as⟩,ty,pos,af,g⟩ true)
  (ha:fH L.heap (xs.toList.map L.ev) args) (hk:pC P f args r []) (hr:r.b7 (dZ (dst.getD 0))=r)
  (k:opsL P dr ops rest (L.put dst r) K):opsL P dr ops (⟨dst,.call ⟨.value (.func f),xs,as⟩,ty,pos,af,g⟩ :: rest) L K :=
 at6 [] hg rfl (by rw [vo];exact ha) hk hr (by rw [vo];exact k)
theorem abB {f:FuncId} {xs:Array Operand} {as:Array TypeId} {args:List LV} {r:LV} {blk:bA} {d:Nat} (bs:List Nat) (hg:eE ops L ⟨some d,.call ⟨.value (.func f),xs,as⟩,ty,pos,af,g⟩ true) (h0:bs.contains 0=false)
  (ha:fH (L.ca bs).heap (xs.toList.map L.ev) args) (hk:pC P f args r [blk]) (hp:aK blk.vals=true) (hd:L.heap (dZ d 1)=none)
  (k:opsL P dr ops rest (((L.ca bs).bU (dZ d 1) (some blk)).put (some d) (r.b7 (dZ d))) K):opsL P dr ops (⟨some d,.call ⟨.value (.func f),xs,as⟩,ty,pos,af,g⟩ :: rest) L K:=by
 have iB:(L.ca bs).heap (dZ d 1)=none:=by simp [St.ca,hd]
 refine⟨_,.val hg (r:=r.b7 (dZ d)) (fr:=[blk].mapIdx fun i blk=>(dZ d (i+1),blk)) (H1:=((L.ca bs).bU (dZ d 1) (some blk)).heap) (b9.le_trans (ux bs h0) ?_) ?_
  (.call (.func (fH.le ?_ ha) hk aW (by simpa using hp))) ?_,k⟩
 ·exact ae3 iB
 ·intro b bk hb
  simp only [List.mapIdx_cons,List.mapIdx_nil,fP,afW] at hb
  obtain⟨rfl,rfl⟩:=hb
  exact⟨hd,bk.mt,by simp [St.bU],fun h=>h⟩
 ·exact ae3 iB
 ·rfl
theorem bO {op:Op} {L':St} (hg:eE ops L ⟨dst,op,ty,pos,af,g⟩ true) (h:gR P L dst op L') (k:opsL P dr ops rest L' K):opsL P dr ops (⟨dst,op,ty,pos,af,g⟩ :: rest) L K :=
 ⟨_,.st hg h,k⟩
theorem acy {f:FuncId} {xs:Array Operand} {as:Array TypeId} {args:List LV} {r:LV} {ops:Array Oper} (b:Nat) {blk blk':bA} (hg:eE ops L ⟨dst,.call ⟨.value (.func f),xs,as⟩,ty,pos,af,g⟩ true)
  (hb:L.heap b=some blk) (hm:blk.mt=true) (hp:aK blk.vals=true) (ha:yt L.heap b (xs.toList.map L.ev) args) (hn:Names b (xs.toList.map L.ev)) (hk:uv P f blk args r blk')
  (ta:blk'.mt=true) (l6:aK blk'.vals=true) (k:opsL P false ops rest ((L.bU b (some blk')).put dst (r.b7 fun _=>b)) K) :
  opsL P false ops (⟨dst,.call ⟨.value (.func f),xs,as⟩,ty,pos,af,g⟩ :: rest) L K :=
 ⟨_,.stM rfl hg (.call hb hm hp ha hn hk ta l6),k⟩
theorem aC (k:K L):opsL P dr ops [] L K:=k
end
structure gY {α:Type} (e:α->LV) (sz:Nat) (ag:Bool):Prop where
 av:∀ a,(e a).av=sz
 isAgg:∀ a,(e a).isAgg=ag
 pure:∀ a,(e a).pure=true
theorem aP {α:Type} {e:α->LV} {sz:Nat} {ag:Bool} (h:gY e sz ag) (l:List α):aK (l.map e)=true:=by
 rw [yk];intro x hx
 obtain⟨a,_,rfl⟩:=ga.1 hx
 exact h.pure a
theorem ahS (x:LV) (h:x.pure=true):x.at 0 x.av x.isAgg=some x:=by
 cases x<;>simp_all [LV.at,LV.av,LV.isAgg,LV.pure]
theorem yp (x y:LV) (h1:x.av=y.av) (h2:x.isAgg=y.isAgg):x.put 0 y=some y:=by
 cases x<;>simp_all [LV.put,LV.av,LV.isAgg]
section
variable {P:Program} {H:b9} {ρ:Operand->LV} {α:Type} {e:α->LV}
theorem aN.aE7 [Inhabited α] {T E:TypeId} {x i:Operand} {sz:Nat} {l:List α} {k:IntKind} {n:Int} {ag:Bool} (he:gY e sz ag) (hx:ρ x=.list sz (l.map e)) (hT:P.underlying T=some (.slice E)) (hE:bK P E sz ag)
  (hi:ρ i=.v (.int k n)) (h0:0<=n) (hn:n<l.length):aN P H ρ (.indexAddr T x i) (.ba (e (l.getD n.toNat default))):=by
 have bZ:n.toNat<l.length:=by omega
 refine .gD hx hT hE hi h0 ?_ (he.av _)
 rw [gZ,bY bZ,bE,bY bZ];rfl
theorem aN.aCf {T:TypeId} {p:Operand} {sz:Nat} {ag:Bool} {a:α} (he:gY e sz ag) (hp:ρ p=.ba (e a)) (hT:bK P T sz ag):aN P H ρ (.load T p) (e a) :=
 .abz hp (by rw [he.av,he.isAgg];exact hT) (he.pure a)
theorem aN.aEw [Inhabited α] {T:TypeId} {p:Operand} {b sz i:Nat} {l:List α} {m:Bool} {ag:Bool} (he:gY e sz ag) (hp:ρ p=.aF b sz i 0) (hb:H b=some ⟨sz,l.map e,m⟩) (hT:bK P T sz ag)
  (hi:i<l.length):aN P H ρ (.load T p) (e (l.getD i default)):=by
 have hv:(l.map e)[i]?=some (e (l.getD i default)):=by
  rw [gZ,bY hi,bE,bY hi];rfl
 refine .dU (blk:=⟨sz,l.map e,m⟩) (n:=sz) (ag:=ag) hp hb rfl hv (he.av _) ?_ hT
 have:=ahS (e (l.getD i default)) (he.pure _)
 rwa [he.av,he.isAgg] at this
theorem gR.azf [Inhabited α] {L:St} {dst:Option Tmp} {T:TypeId} {p x:Operand} {b sz i:Nat} {l:List α} {ag:Bool} {a:α} (he:gY e sz ag) (hp:L.ev p=.aF b sz i 0) (hb:L.heap b=some ⟨sz,l.map e,true⟩)
  (hx:L.ev x=e a) (hT:bK P T sz ag) (hi:i<l.length):gR P L dst (.store T p x) ((L.bU b (some ⟨sz,(l.set i a).map e,true⟩)).put dst .any):=by
 have hv:(l.map e)[i]?=some (e l[i]):=by rw [gZ,bY hi];rfl
 have:=gR.store (P:=P) (L:=L) (dst:=dst) (T:=T) (p:=p) (x:=x) (y':=e a) hp hb rfl rfl hv (he.av _) (by rw [hx];exact yp _ _ (by rw [he.av,he.av]) (by rw [he.isAgg,he.isAgg]))
  (by rw [hx,he.av,he.isAgg];exact hT) (by rw [hx];exact⟨LV.dT (he.pure _),LV.dG (he.pure _)⟩)
 rwa [<-List.map_set] at this
theorem dA.aoy {T E:TypeId} {x c:Operand} {kl kc:IntKind} {d sz dN n m:Nat} {ag:Bool} {z:α} (he:gY e sz ag) (hT:P.underlying T=some (.slice E)) (hz:cF P E (e z)) (hE:bK P E sz ag) (hb:kZ P E dN)
  (hl:ρ x=.v (.int kl (n:Nat))) (hc:ρ c=.v (.int kc (m:Nat))) (ki:n<=m) (hm:dN*m<=281474976710656) (fc:m<=9223372036854775807) :
  dA P ρ d (.makeSlice T x c) (.ref d sz 0 n) ⟨sz,(aV n z).map e,true⟩:=by
 rw [List.map_replicate]
 exact .make hT hz (by rw [he.isAgg];exact hE) (he.av z) hb hl hc ki hm fc
theorem dA.aw8 {T E:TypeId} {x:Operand} {d sz:Nat} {ag:Bool} {z a:α} (he:gY e sz ag) (hT:P.underlying T=some (.slice E)) (hz:cF P E (e z)) (hE:bK P E sz ag) (hx:ρ x=e a) (dx:0<sz) (il:sz<=1000) :
  dA P ρ d (.buildSlice T 1 #[(0,x)]) (.ref d sz 0 1) ⟨sz,[a].map e,true⟩:=by
 have:=dA.lit (P:=P) (ρ:=ρ) (d:=d) (T:=T) (n:=1) (ps:=#[(0,x)]) hT hz (by rw [he.isAgg];exact hE) (he.av z) J J dx (by
  intro p hp
  simp only [fP] at hp
  subst hp
  refine⟨by simp,?_,by rw [hx];exact LV.dT (he.pure _),by rw [hx];exact LV.dG (he.pure _)⟩
  simp [lay,hx,he.av,he.isAgg])
 simpa [jK,hx,aV] using this
end
section
variable {a b:Int}
theorem zj (h1:-9223372036854775808<=a+b) (h2:a+b<=9223372036854775807):dM .add .i64 a b=some (.int .i64 (a+b)):=by
 simp only [dM];rw [IntWalk.i64_in _ ⟨h1,h2⟩]
theorem aaa (h1:-9223372036854775808<=a-b) (h2:a-b<=9223372036854775807):dM .sub .i64 a b=some (.int .i64 (a-b)):=by
 simp only [dM];rw [IntWalk.i64_in _ ⟨h1,h2⟩]
theorem afh (h1:-9223372036854775808<=a*b) (h2:a*b<=9223372036854775807):dM .mul .i64 a b=some (.int .i64 (a*b)):=by
 simp only [dM];rw [IntWalk.i64_in _ ⟨h1,h2⟩]
end
section
variable {P:Program} {L L0:St} {Q:jT->St->Prop} {K:St->Prop}
theorem aFp {l:List Oper} {id:Nat} (h:opsL P false l.toArray l L (Q .normal)):cU P (.region id l.toArray false) Q L:=⟨L,az.refl L,.inl ⟨fun e=>absurd e ai,h⟩⟩
theorem aY {l:List Oper} {id:Nat} (m:Nat) (hm:yg l.toArray m []=true) (h:opsL P true l.toArray l L (Q .normal)):cU P (.region id l.toArray true) Q L:=⟨L,az.refl L,.inl ⟨fun _=>⟨m,[],hm⟩,h⟩⟩
theorem eZ {l:List Oper} {id:Nat} (m:Nat) (fr:List Nat) (hm:yg l.toArray m fr=true) (h:opsL P true l.toArray l L (Q .normal)):cU P (.region id l.toArray true) Q L:=⟨L,az.refl L,.inl ⟨fun _=>⟨m,fr,hm⟩,h⟩⟩
theorem bR {l:List Oper} {id:Nat} (hw:az L L0) (h:opsL P false l.toArray l L0 (Q .normal)):cU P (.region id l.toArray false) Q L:=⟨L0,hw,.inl ⟨fun e=>absurd e ai,h⟩⟩
theorem aCg {l:List Oper} {id:Nat} (m:Nat) (hm:yg l.toArray m []=true) (hw:az L L0) (h:opsL P true l.toArray l L0 (Q .normal)):cU P (.region id l.toArray true) Q L:=⟨L0,hw,.inl ⟨fun _=>⟨m,[],hm⟩,h⟩⟩
theorem ahp {ops:Array Oper} {id:Nat} (h:ng P ops ops.size (rH ops.size false) L (Q .normal)):cU P (.region id ops true) Q L:=⟨L,az.refl L,.inr (.inl ⟨rfl,h⟩)⟩
theorem aix {ops:Array Oper} {id:Nat} {d:Bool} (h:∀ n W X Z0 a w,fT n W X Z0 L a w->kS n (.region 0 ops d)=true->∀ id,(Code.region id ops d).wp P (aco n W X Z0 Q) a w):cU P (.region id ops d) Q L:=⟨L,az.refl L,.inr (.inr h)⟩
def asp (P:Program) (l:List Oper) (m b:Nat) (fr:List Nat) (x0:bA) (K:St->Prop) (Lm:St):Prop :=
 Lm.heap b=none/\(fr.all fun j=>match (l.toArray.getD j default).dst with | some d=>(Lm.heap (dZ d 1)).isNone | none=>true)=true /\
  (∀ om,l.toArray[m]?=some om->∃ T p v i o,om.op=.store T p v/\Lm.ev p=.aF b x0.sz i o)/\opsL P true l.toArray (l.drop m) (Lm.bU b (some x0)) K
theorem aeE {l:List Oper} {id:Nat} (iu:P.follows .mixedOrders=true) (m b:Nat) (fr:List Nat) {x0:bA} (hm:alk l.toArray m fr=true) (hb:L.heap b=some x0)
  (h:opsL P true l.toArray (l.take m) (L.bU b none) (asp P l m b fr x0 (Q .normal))):cU P (.region id l.toArray true) Q L:=by
 refine aix fun n W X Z0 a w hs hd id=>?_
 have iB:∀ o∈l.toArray.toList,∀ t,o.dst=some t->t<n:=fun o ho t ht=>by
  simp only [kS,py] at hd
  have:=hd o ho
  rw [ht] at this
  simpa using this
 exact aHN iu hm hs hb h iB (fun L' a' w' hk jO=>⟨L',hk,jO⟩)
theorem afY {l:List Oper} {m b:Nat} {fr:List Nat} {x0:bA} {K:St->Prop} {ops:Array Oper} (h1:L.heap b=none) (h2:(fr.all fun j=>match (l.toArray.getD j default).dst with | some d=>(L.heap (dZ d 1)).isNone | none=>true)=true)
  (h3:∀ om,l.toArray[m]?=some om->∃ T p v i o,om.op=.store T p v/\L.ev p=.aF b x0.sz i o) (h4:opsL P true l.toArray (l.drop m) (L.bU b (some x0)) K):opsL P true ops [] L (asp P l m b fr x0 K):=⟨h1,h2,h3,h4⟩
theorem aID {x y:Code} (h:cU P x (oq (cU P y Q) Q) L):cU P (.seq x y) Q L:=h
theorem alv {c:Operand} {x y:Code} {t:Bool} (hc:L.ev c=.v (.bool t)) (h1:t=true->cU P x Q L) (h2:t=false->cU P y Q L):cU P (.cond c x y) Q L:=⟨t,hc,h1,h2⟩
theorem aAm {c:Code} {id:Nat} (h:cU P c (qK id Q) L):cU P (.block id c) Q L:=h
theorem aCG (h:Q .normal L):cU P .skip Q L:=h
theorem aFm (h:Q .ret L):cU P .ret Q L:=h
theorem aAx {id:Nat} (h:Q (.exit id) L):cU P (.exit id) Q L:=h
theorem aFt (h:K L):oq K Q .normal L:=h
theorem aGl {i:Nat} (h:Q (.exit i) L):oq K Q (.exit i) L:=h
theorem aJ3 (h:Q .ret L):oq K Q .ret L:=h
theorem azA {id:Nat} (h:Q .normal L):qK id Q .normal L:=h
theorem aA0 {id:Nat} (h:Q .ret L):qK id Q .ret L:=h
theorem aGv {id:Nat} (h:Q .normal L):qK id Q (.exit id) L:=by simp only [qK,if_pos];exact h
theorem aDS {id i:Nat} (bj:i≠id) (h:Q (.exit i) L):qK id Q (.exit i) L:=by simp only [qK,if_neg bj];exact h
theorem abE:∀ {c:Code} {Q Q':jT->St->Prop} {L:St},(∀ e L,Q e L->Q' e L)->cU P c Q L->cU P c Q' L:=by
 intro c
 induction c with
 | skip=>exact fun hq h=>hq _ _ h
 | region id ops d=>exact fun hq ⟨L0,a,h⟩=>⟨L0,a,h.imp (fun⟨b,h⟩=>⟨b,atk (hq _) _ _ h⟩) (fun h=>h.imp (fun⟨b,h⟩=>⟨b,aoS (hq _) _ _ _ h⟩) (fun h n W X Z0 a w hs hd id=>wp_mono (h n W X Z0 a w hs hd id) fun e a w p=>by
  cases e with
  | normal=>obtain⟨L,q1,q2⟩:=p;exact⟨L,hq _ _ q1,q2⟩
  | exit i=>obtain⟨L,q1,q2⟩:=p;exact⟨L,hq _ _ q1,q2⟩
  | ret=>obtain⟨L,q1,q2⟩:=p;exact⟨L,hq _ _ q1,q2⟩
  | _=>exact p.elim))⟩
 | seq x y ihx ihy =>
  intro Q Q' L hq h
  refine ihx (fun e L h=>?_) h
  cases e with
  | normal=>exact ihy hq h
  | exit i=>exact hq _ _ h
  | ret=>exact hq _ _ h
 | cond c x y ihx ihy=>exact fun hq ⟨t,a,b,c⟩=>⟨t,a,fun e=>ihx hq (b e),fun e=>ihy hq (c e)⟩
 | block id c ih =>
  intro Q Q' L hq h
  refine ih (fun e L h=>?_) h
  cases e with
  | normal=>exact hq _ _ h
  | exit i =>
   simp only [qK] at h ⊢
   split
   ·rename_i e;rw [if_pos e] at h;exact hq _ _ h
   ·rename_i e;rw [if_neg e] at h;exact hq _ _ h
  | ret=>exact hq _ _ h
 | loop c ih =>
  intro Q Q' L hq h I hI
  refine h I fun L hL=>hI L (ih (fun e L h=>?_) hL)
  cases e with
  | normal=>exact h
  | exit i=>exact hq _ _ h
  | ret=>exact hq _ _ h
 | exit id=>exact fun hq h=>hq _ _ h
 | ret=>exact fun hq h=>hq _ _ h
 | rangeFunc=>exact fun _ h=>h.elim
 | scope=>exact fun _ h=>h.elim
 | label=>exact fun _ h=>h.elim
 | goto=>exact fun _ h=>h.elim
 | refuse=>exact fun _ h=>h.elim
theorem agE {c:Code} {α:Type} (S:α->St->St) (C:α->Prop) (μ:α->Nat) (a0:α) (hC:C a0) (h0:∃ L1,az L (S a0 L1))
  (hr:∀ a L1,C a->cU P c (oq (fun L'=>∃ a' L2,C a'/\μ a'<μ a/\az L' (S a' L2)) Q) (S a L1)):cU P (.loop c) Q L:=by
 obtain⟨L1,h1⟩:=h0
 intro I hI
 have key:∀ n a L1,μ a=n->C a->I (S a L1):=by
  intro n
  induction n using acP with
  | _ n ih =>
   intro a L1 hn hCa
   refine hI _ (abE (fun e L h=>?_) (hr a L1 hCa))
   cases e with
   | normal =>
    obtain⟨a',L2,g1,g2,g3⟩:=h
    exact⟨_,g3,ih _ (hn ▸ g2) a' L2 rfl g1⟩
   | exit i=>exact h
   | ret=>exact h
 exact⟨_,h1,key _ a0 L1 rfl hC⟩
theorem bc {c:Code} (h:cU P c (oq (cU P (.loop c) Q) Q) L):cU P (.loop c) Q L:=by
 intro I hI
 refine⟨L,az.refl L,hI L (abE (fun e L' h=>?_) h)⟩
 cases e with
 | normal=>exact h I hI
 | exit i=>exact h
 | ret=>exact h
theorem ia {c:Code} (K:St->Prop) (h:cU P c (oq K Q) L) (hk:∀ L,K L->Q .normal L):cU P c Q L :=
 abE (fun e L h=>by cases e with | normal=>exact hk L h | exit i=>exact h | ret=>exact h) h
end
theorem azo {L:St} {t:Nat} {r:LV} (h:L.slot t=r):L.put (some t) r=L:=by
 cases L with
 | mk s hp =>
  simp only [St.put,St.mk.injEq,and_true]
  funext k
  have:=iI ⟨s,hp⟩ t r k
  simp only [St.put] at this
  rw [this]
  split
  ·rename_i hk;subst hk;exact h.symm
  ·rfl
theorem aj {L L':St} {t:Nat} {r:LV} (h0:L'=L) (h:L.slot t=r):L'.put (some t) r=L:=by rw [h0];exact azo h
theorem az.of_eq {L L':St} (h:L'=L):az L L':=by subst h;exact az.refl _
theorem azW (L:St) (t:Nat) (r:LV) (s:Nat) (h:(s==t)=false):(L.put (some t) r).slot s=L.slot s:=by
 rw [iI,if_neg nP]
theorem aBn (L:St) (t:Nat) (r:LV):(L.put (some t) r).slot t=r:=by rw [iI,if_pos rfl]
section
variable {P:Program} {dr:Bool} {ops:Array Oper} {rest:List Oper} {L:St} {K:St->Prop} {dst:Option Tmp} {op:Op} {ty:TypeId} {pos:String} {af:Array Edge}
theorem aM {j d:Nat} {b v want res:Bool} (h1:(ops[j]?).bind (·.dst)=some d) (h2:L.slot d=.v (.bool b)) (h3:b=v) (h4:(v==want)=res) :
  eE ops L ⟨dst,op,ty,pos,af,some (j,want)⟩ res:=⟨d,h1,.inl ⟨b,h2,by rw [h3,h4]⟩⟩
theorem aDU {j d:Nat} {want:Bool} (h1:(ops[j]?).bind (·.dst)=some d) (h2:L.slot d=.a9 []):eE ops L ⟨dst,op,ty,pos,af,some (j,want)⟩ false:=⟨d,h1,.inr ⟨h2,rfl⟩⟩
theorem r8 {L':St} (h:L=L') (k:K L'):opsL P dr ops [] L K:=by subst h;exact k
end
section
variable {P:Program} {L:St}
theorem dO {t:Nat} {x y:LV} (h:L.slot t=x) (hi:da L.heap x y):qm P [.tmp t] L y [] :=
 ⟨[x],[y],L.heap,[],.cons h .nil,b9.le_refl _,.cons (.eF hi) .nil,yL,rfl,fun k b h=>by simp at h,rfl⟩
theorem lW {t:Nat} {x y:LV} (bs:List Nat) (h0:bs.contains 0=false) (h:L.slot t=x) (hi:da (L.ca bs).heap x y):qm P [.tmp t] L y [] :=
 ⟨[x],[y],(L.ca bs).heap,[],.cons h .nil,ux bs h0,.cons (.eF hi) .nil,yL,rfl,fun k b h=>by simp at h,rfl⟩
theorem vu {t u:Nat} {x y x' y':LV} (h:L.slot t=x) (hi:da L.heap x y) (h':L.slot u=x') (nn:da L.heap x' y'):qm P [.tmp t,.tmp u] L (.a9 [y,y']) [] :=
 ⟨[x,x'],[y,y'],L.heap,[],.cons h (.cons h' .nil),b9.le_refl _,.cons (.eF hi) (.cons (.eF nn) .nil),yL,rfl,fun k b h=>by simp at h,rfl⟩
theorem aj3 {t u:Nat} {x y x' y':LV} (bs:List Nat) (h0:bs.contains 0=false) (h:L.slot t=x) (hi:da (L.ca bs).heap x y) (h':L.slot u=x') (nn:da (L.ca bs).heap x' y'):qm P [.tmp t,.tmp u] L (.a9 [y,y']) [] :=
 ⟨[x,x'],[y,y'],(L.ca bs).heap,[],.cons h (.cons h' .nil),ux bs h0,.cons (.eF hi) (.cons (.eF nn) .nil),yL,rfl,fun k b h=>by simp at h,rfl⟩
theorem abN {t u s:Nat} {x y x' y' x'' y'':LV} (bs:List Nat) (h0:bs.contains 0=false) (h:L.slot t=x) (hi:da (L.ca bs).heap x y) (h':L.slot u=x') (nn:da (L.ca bs).heap x' y')
  (h'':L.slot s=x'') (aBm:da (L.ca bs).heap x'' y''):qm P [.tmp t,.tmp u,.tmp s] L (.a9 [y,y',y'']) [] :=
 ⟨[x,x',x''],[y,y',y''],(L.ca bs).heap,[],.cons h (.cons h' (.cons h'' .nil)),ux bs h0,.cons (.eF hi) (.cons (.eF nn) (.cons (.eF aBm) .nil)),yL,rfl,fun k b h=>by simp at h,rfl⟩
theorem aga {t b sz len:Nat} {blk:bA} (h:L.slot t=.ref b sz 0 len) (hb:L.heap b=some blk) (hp:aK blk.vals=true):qm P [.tmp t] L (.ref 1 sz 0 len) [blk] :=
 ⟨[.ref b sz 0 len],[.ref 1 sz 0 len],L.heap,[b],.cons h .nil,b9.le_refl _,.cons (.ref (k:=0) rfl) .nil,by simp,rfl,fun k c hk=>by
  cases k with
  | zero=>simp at hk;subst hk;exact⟨blk,hb,rfl,hp⟩
  | succ k=>simp at hk,rfl⟩
theorem fi {a:Nat} {T:TypeId} {b sz:Nat} {x y:LV} {m:Bool} {n:Nat} {ag:Bool} (bs:List Nat) (h0:bs.contains 0=false) (h:L.slot a=.aF b sz 0 0) (hb:L.heap b=some ⟨sz,[x],m⟩)
  (hx:x.av=sz) (wh:x.at 0 n ag=some x) (hT:bK P T n ag) (hi:da (L.ca bs).heap x y):qm P [.cell a T] L y [] :=
 ⟨[x],[y],(L.ca bs).heap,[],.cons ⟨b,sz,0,0,_,x,n,ag,h,hb,rfl,rfl,hx,wh,hT⟩ .nil,ux bs h0,.cons (.eF hi) .nil,yL,rfl,fun k b h=>by simp at h,rfl⟩
theorem abV {bs:List Nat} {b sz off len:Nat} {vals:List LV} {m:Bool} (hb:L.heap b=some ⟨sz,vals,m⟩) (tw:bs.contains b=true) (hp:aK vals=true) (hl:off+len<=vals.length) :
  da (L.ca bs).heap (.ref b sz off len) (.list sz ((vals.drop off).take len)) :=
 da.ref (blk:=⟨sz,vals,m && !bs.contains b⟩) (by simp [St.ca,hb]) rfl hp hl (by rw [tw];simp)
theorem dH {α:Type} {e:α->LV} {ag:Bool} {bs:List Nat} {b sz len:Nat} {l:List α} {m:Bool} (he:gY e sz ag) (hb:L.heap b=some ⟨sz,l.map e,m⟩) (tw:bs.contains b=true) (hl:len=l.length) :
  da (L.ca bs).heap (.ref b sz 0 len) (.list sz (l.map e)):=by
 have:=abV (L:=L) (bs:=bs) (off:=0) (len:=len) hb tw (aP he l) (by simp [hl])
 rwa [ks,List.take_of_length_le (by simp [hl])] at this
end
section
variable {P:Program} {H:b9} {ρ:Operand->LV}
theorem aN.gU {c x y:Operand} {t:Bool} (h:ρ c=.v (.bool t)) (ht:t=true):aN P H ρ (.pick c x y) (ρ x):=by
 have:=aN.pick (P:=P) (H:=H) (x:=x) (y:=y) h
 rwa [if_pos ht] at this
theorem aN.m9 {c x y:Operand} {t:Bool} (h:ρ c=.v (.bool t)) (ht:t=false):aN P H ρ (.pick c x y) (ρ y):=by
 have:=aN.pick (P:=P) (H:=H) (x:=x) (y:=y) h
 rwa [if_neg (by simp [ht])] at this
end
section
variable {P:Program} {dr:Bool} {ops:Array Oper} {rest:List Oper} {L:St} {K:St->Prop} {dst:Option Tmp} {ty:TypeId} {pos:String} {af:Array Edge} {x:Operand}
theorem mv (k:opsL P dr ops rest (L.put dst (L.ev x)) K):opsL P dr ops (⟨dst,.move x,ty,pos,af,none⟩ :: rest) L K:=ah rfl (.move _) k
theorem asg (k:opsL P dr ops rest (L.put dst (L.ev x)) K):opsL P dr ops (⟨dst,.assign x,ty,pos,af,none⟩ :: rest) L K:=ah rfl (.assign _) k
end
section
variable {P:Program} {H:b9} {ρ:Operand->LV} {α:Type} {e:α->LV} {sz:Nat} {ag:Bool} {T E:TypeId} {x y z:Operand} {l:List α} {a h:Nat} {k k':IntKind}
theorem aN.aic (_he:gY e sz ag) (hx:ρ x=.list sz (l.map e)) (hT:P.underlying T=some (.slice E)) (hE:bK P E sz ag) (cq:ρ y=.v (.int k (a:Nat))) (iZ:ρ z=.v (.int k' (h:Nat))) (h1:a<=h) (h2:h<=l.length) :
  aN P H ρ (.slice T x (some y) (some z) none) (.list sz (((l.take h).drop a).map e)):=by
 have:=aN.adA (P:=P) (H:=H) (ρ:=ρ) (la:=some y) (ha:=some z) (a:=a) (h:=h) hx hT hE (fun w hw=>by cases hw;exact⟨_,cq⟩) (fun h=>by cases h) (fun w hw=>by cases hw;exact⟨_,iZ⟩) (fun h=>by cases h) h1 (by simpa using h2)
 rwa [<-w5,<-aei] at this
theorem aN.abJ (_he:gY e sz ag) (hx:ρ x=.list sz (l.map e)) (hT:P.underlying T=some (.slice E)) (hE:bK P E sz ag) (cq:ρ y=.v (.int k (a:Nat))) (h1:a<=l.length) :
  aN P H ρ (.slice T x (some y) none none) (.list sz ((l.drop a).map e)):=by
 have:=aN.adA (P:=P) (H:=H) (ρ:=ρ) (la:=some y) (ha:=none) (a:=a) (h:=(l.map e).length) hx hT hE (fun w hw=>by cases hw;exact⟨_,cq⟩) (fun h=>by cases h) (fun w hw=>by cases hw) (fun _=>rfl) (by simpa using h1) (bF _)
 rwa [List.take_length,<-aei] at this
theorem aN.arv (_he:gY e sz ag) (hx:ρ x=.list sz (l.map e)) (hT:P.underlying T=some (.slice E)) (hE:bK P E sz ag) (iZ:ρ z=.v (.int k' (h:Nat))) (h2:h<=l.length) :
  aN P H ρ (.slice T x none (some z) none) (.list sz ((l.take h).map e)):=by
 have:=aN.adA (P:=P) (H:=H) (ρ:=ρ) (la:=none) (ha:=some z) (a:=0) (h:=h) hx hT hE (fun w hw=>by cases hw) (fun _=>rfl) (fun w hw=>by cases hw;exact⟨_,iZ⟩) (fun h=>by cases h) J (by simpa using h2)
 rwa [ks,<-w5] at this
theorem cd (he:gY e sz ag) (n:Nat) (l:List α):(LV.list n (l.map e)).pure=true:=by simp only [LV.pure];exact aP he l
end
theorem e1 (L:St) (t:Nat):L.ev (.tmp t)=L.slot t:=rfl
theorem e2 (L:St) (k:IntKind) (n:Int):L.ev (.const (.int k n))=.v (.int k n):=rfl
theorem e3 (L:St) (b:Bool):L.ev (.const (.bool b))=.v (.bool b):=rfl
theorem e4 (L:St):L.ev (.const (.slice none 0 0))=.v (.slice none 0 0):=rfl
theorem p1 (L:St) (t:Nat) (r:LV):(L.put (some t) r).slot t=r:=aBn L t r
theorem p2 (L:St) (t:Nat) (r:LV) (s:Nat) (h:(s==t)=false):(L.put (some t) r).slot s=L.slot s:=azW L t r s h
theorem p3 (L:St) (r:LV):L.put none r=L:=rfl
theorem q1 (L:St) (b:Nat) (x:Option bA) (s:Nat):(L.bU b x).slot s=L.slot s:=rfl
theorem q2 (L:St) (bs:List Nat) (s:Nat):(L.ca bs).slot s=L.slot s:=rfl
theorem q3 (L:St) (b:Nat) (s:Nat):(L.kill b).slot s=(L.slot s).kill b:=rfl
theorem l1 {α β:Type} (f:α->β) (l:List α):(l.map f).length=l.length:=List.length_map f
end Go.Lg
end
