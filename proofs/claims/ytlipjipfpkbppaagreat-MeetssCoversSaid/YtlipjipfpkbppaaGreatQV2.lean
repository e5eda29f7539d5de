/- Texts LgK, LgO of this proof, joined. -/
import Derived.Test.YtlipjipfpkbppaaGreatQV1
import Derived.Deep.Upon
import Derived.Lib.Overlaps
set_option linter.unusedVariables false
set_option linter.unusedSimpArgs false
open Array renaming all_eq_true_iff_forall_mem->ael,ext'->l8,getD_eq_getD_getElem?->aM,getElem?_eq_getElem->jV,getElem?_eq_some_iff->eB,getElem?_modify->adJ,getElem?_setIfInBounds_ne->bR,getElem?_setIfInBounds_self_of_lt->eh,length_toList->gG,map->vm,mapM_eq_mapM_toList->ad0,mem_of_getElem?->aeh,mem_toList_iff->rN,range->adB,replicate->gX,size_append->zF,toList_append->ab0
open Bool renaming and_eq_true->dG,false_eq_true->tC,not_eq_true'->nH,or_eq_true->iy
open Classical renaming byContradiction->im,not_forall->afn,not_imp->afx
open List renaming all_eq_true->ie,append_nil->aS,contains_iff_mem->gk,drop_drop->je,drop_left->tz,drop_of_length_le->ep,drop_zero->dY,eq_nil_of_length_eq_zero->jB,ext_getElem->lX,flatten_append->ab9,flatten_cons->pI,getD_eq_getElem?_getD->ao,getElem?_append_left->abw,getElem?_append_right->uX,getElem?_cons_succ->abZ,getElem?_cons_zero->ke,getElem?_eq_getElem->aB,getElem?_eq_some_iff->fV,getElem?_map->bU,getElem?_toArray->abC,length_append->cZ,length_cons->aQ,length_drop->fJ,length_map->aA,length_nil->bc,length_take->bZ,mapM_cons->adD,map_cons->gA,map_drop->sD,map_nil->bh,map_take->lY,map_toArray->u5,mem_append->eF,mem_filterMap->nC,mem_map->bS,mem_mapIdx->adX,mem_of_getElem?->jZ,mem_range->my,mem_replicate->jE,mem_singleton->bD,nil_append->aR,nodup_nil->sN,range->b9,replicate->ai,replicate_succ->aaF,set_cons_succ->aK,set_cons_zero->aN,size_toArray->rP,take_append_drop->kK,take_left->zh,take_nil->aZ
open List.cons renaming injEq->b7
open Nat renaming add_mul->cI,add_zero->iH,beq->iS,le_refl->an,le_trans->aw,lt_or_ge->cu,min_eq_left->eP,mod_eq_of_lt->cV,mul_assoc->bW,mul_eq_zero->abk,mul_le_mul_right->bw,reduceAdd->au,reduceBEq->aq,reduceEqDiff->aO,reduceMul->ar,strongRecOn->sT,sub_self->jy,succ_mul->cB,testBit_or->aey,zero_add->cJ,zero_le->az,zero_mul->jm
open Option renaming getD_some->iY,isNone_iff_eq_none->lT,map_eq_some_iff->oz,map_some->ju,ne_none_iff_exists'->zJ
open Option.some renaming injEq->bF
open Prod.mk renaming injEq->vU
section
set_option linter.unusedVariables false
set_option linter.unusedSimpArgs false
namespace Go.Lg
mutual
def LV.ren (f:Nat->Nat):LV->LV
 | .any=>.any
 | .v x=>.v x
 | .list sz l=>.list sz (rens f l)
 | .agg l=>.agg (rens f l)
 | .ref b sz off len=>.ref (f b) sz off len
 | .refc b sz off len cap=>.refc (f b) sz off len cap
 | .eptr b sz i o=>.eptr (f b) sz i o
 | .boxp c=>.boxp (c.ren f)
 | .clo g l=>.clo g (rens f l)
 | .tup l=>.tup (rens f l)
def rens (f:Nat->Nat):List LV->List LV
 | []=>[]
 | x :: xs=>x.ren f :: rens f xs
end
mutual
theorem LV.ren_pure (f:Nat->Nat):∀ (x:LV),x.pure=true->x.ren f=x
 | .any,_=>rfl
 | .v _,_=>rfl
 | .list sz l,h=>by simp only [LV.ren,rens_pure f l (by simpa [LV.pure] using h)]
 | .agg l,h=>by simp only [LV.ren,rens_pure f l (by simpa [LV.pure] using h)]
 | .ref ..,h=>by simp [LV.pure] at h
 | .refc ..,h=>by simp [LV.pure] at h
 | .eptr ..,h=>by simp [LV.pure] at h
 | .boxp c,h=>by simp only [LV.ren,LV.ren_pure f c (by simpa [LV.pure] using h)]
 | .clo g l,h=>by simp only [LV.ren,rens_pure f l (by simpa [LV.pure] using h)]
 | .tup l,h=>by simp [LV.pure] at h
theorem rens_pure (f:Nat->Nat):∀ (l:List LV),pures l=true->rens f l=l
 | [],_=>rfl
 | x :: xs,h=>by simp only [rens,LV.ren_pure f x (pure_cons h).1,rens_pure f xs (pure_cons h).2]
end
mutual
theorem LV.ren_csize (f:Nat->Nat):∀ (x:LV),(x.ren f).csize=x.csize
 | .any=>rfl | .v _=>rfl | .list ..=>rfl | .ref ..=>rfl | .refc ..=>rfl | .eptr ..=>rfl | .boxp _=>rfl | .clo ..=>rfl | .tup _=>rfl
 | .agg l=>by simp only [LV.ren,LV.csize,rens_csize f l]
theorem rens_csize (f:Nat->Nat):∀ (l:List LV),csizes (rens f l)=csizes l
 | []=>rfl
 | x :: xs=>by simp only [rens,csizes,LV.ren_csize f x,rens_csize f xs]
end
theorem LV.ren_isAgg (f:Nat->Nat) (x:LV):(x.ren f).isAgg=x.isAgg:=by cases x<;>rfl
section
variable {Z:Nat->Prop} {μ av:Nat->Option Nat} {w:World}
mutual
theorem Rep.ren (f:Nat->Nat) (hm:∀ b id,μ b=some id->av (f b)=some id):∀ (lv:LV) (cs:List Value),Rep Z μ w lv cs->Rep Z av w (lv.ren f) cs
 | .any,_,h=>by simpa [Rep,LV.ren] using h
 | .v x,cs,h=>by simpa [Rep,LV.ren] using h
 | .list sz l,cs,h=>by
   simp only [Rep,LV.ren] at h ⊢;obtain⟨a,len,cap,h1,h2,h3,h4,h9⟩:=h;have hl:(rens f l).length=l.length:=by
    clear h2 h4 h9;induction l with
    | nil=>rfl
    | cons x xs ih=>simp [rens,ih]
   refine⟨a,len,cap,h1,by rw [hl];exact h2,h3,?_,by rw [rens_pure f l h9];exact h9⟩;rcases h4 with h4 | ⟨blk,off,c,T,fz,part,rest,e1,e2,e3,e4,e5⟩
   ·left;subst h4;rfl
   exact .inr ⟨blk,off,c,T,fz,part,rest,e1,e2,e3,e4,RepAll.ren f hm sz l part e5⟩
 | .agg l,cs,h=>by
   simp only [Rep,LV.ren] at h ⊢;exact RepFs.ren f hm l cs h
 | .ref b sz off len,cs,h=>by
   simp only [Rep,LV.ren] at h ⊢;rcases h with h | ⟨id,cap,c,T,fz,h1,h2,h3⟩
   ·exact gR
   exact .inr ⟨id,cap,c,T,fz,h1,hm _ _ h2,h3⟩
 | .refc b sz off len cap,cs,h=>by
   simp only [Rep,LV.ren] at h ⊢;obtain⟨id,c,T,fz,h1,h2,h3⟩:=h;exact⟨id,c,T,fz,h1,hm _ _ h2,h3⟩
 | .eptr b sz i o,cs,h=>by
   simp only [Rep,LV.ren] at h ⊢;obtain⟨id,h1,h2⟩:=h;exact⟨id,h1,hm _ _ h2⟩
 | .boxp c,cs,h=>by
   simp only [Rep,LV.ren] at h ⊢;obtain⟨blk,off,cc,T,fz,part,rest,h1,h2,h3,h4,h5,h6,h7⟩:=h;exact⟨blk,off,cc,T,fz,part,rest,h1,h2,h3,h4,by rw [LV.ren_csize];exact h5,Rep.ren f hm c part h6,by rw [LV.ren_pure f c h7];exact h7⟩
 | .clo g cap,cs,h=>by
   simp only [Rep,LV.ren] at h ⊢;obtain⟨vs,h1,h2,h3⟩:=h;exact⟨vs,h1,RepAll.ren f hm 1 cap vs.toList h2,by rw [rens_pure f cap h3];exact h3⟩
 | .tup _,_,h=>by simp [Rep] at h
theorem RepAll.ren (f:Nat->Nat) (hm:∀ b id,μ b=some id->av (f b)=some id) (sz:Nat):∀ (l:List LV) (cs:List Value),RepAll Z μ w sz l cs->RepAll Z av w sz (rens f l) cs
 | [],cs,h=>by simpa [RepAll,rens] using h
 | x :: xs,cs,h=>by
   simp only [RepAll,rens] at h ⊢;obtain⟨c1,c2,h1,h2,h3,h4⟩:=h;exact⟨c1,c2,h1,h2,Rep.ren f hm x c1 h3,RepAll.ren f hm sz xs c2 h4⟩
theorem RepFs.ren (f:Nat->Nat) (hm:∀ b id,μ b=some id->av (f b)=some id):∀ (l:List LV) (cs:List Value),RepFs Z μ w l cs->RepFs Z av w (rens f l) cs
 | [],cs,h=>by simpa [RepFs,rens] using h
 | x :: xs,cs,h=>by
   simp only [RepFs,rens] at h ⊢;obtain⟨c1,c2,h1,h2,h3,h4⟩:=h;exact⟨c1,c2,h1,by rw [LV.ren_csize];exact h2,Rep.ren f hm x c1 h3,RepFs.ren f hm xs c2 h4⟩
end
theorem RepV1.ren (f:Nat->Nat) (hm:∀ b id,μ b=some id->av (f b)=some id) {lv:LV} {v:Value} (h:RepV1 Z μ w lv v):RepV1 Z av w (lv.ren f) v :=
 ⟨fun e=>let ⟨cs,h1,h2⟩:=h.1 (by rwa [LV.ren_isAgg] at e);⟨cs,h1,Rep.ren f hm _ _ h2⟩,fun e=>Rep.ren f hm _ _ (h.2 (by rwa [LV.ren_isAgg] at e))⟩
theorem RepVL.ren (f:Nat->Nat) (hm:∀ b id,μ b=some id->av (f b)=some id):∀ (l:List LV) (vs:List Value),RepVL Z μ w l vs->RepVL Z av w (rens f l) vs
 | [],_,h=>h
 | _ :: xs,_,⟨v,dK,h1,h2,h3⟩=>⟨v,dK,h1,h2.ren f hm,RepVL.ren f hm xs dK h3⟩
theorem RepV.ren (f:Nat->Nat) (hm:∀ b id,μ b=some id->av (f b)=some id) {lv:LV} {v:Value} (h:RepV Z μ w lv v):RepV Z av w (lv.ren f) v:=by
 cases lv with
 | tup l=>obtain⟨vs,h1,h2⟩:=h;exact⟨vs,h1,RepVL.ren f hm _ _ h2⟩
 | any=>trivial
 | _=>exact RepV1.ren f hm h
end
def outHeap (bs:List Blk):Heap:=fun n=>if n=0 then none else bs[n-1]?
def Callable (P:Program) (f:FuncId):Prop:=∃ fn,P.funcs[f]?=some fn/\fn.body.isNone=false/\(fn.name== "runtime.NumGoroutine")=false
def CallOK (P:Program) (f:FuncId) (args:List LV) (r:LV) (bs:List Blk):Prop :=
 Callable P f/\∀ (W:World) (Z0:Nat->Prop) (vs:List Value),(∀ id,Z0 id->id<W.heap.size)->RepVL Z0 (fun _=>none) W args vs ->
  Calls P f vs.toArray W fun e w'=>∃ v μ Z,e=.returned v/\Core W XS.no Z0 μ Z (outHeap bs) w'/\RepV Z μ w' r v
def callName (d k:Nat):Nat:=1000000+d*16+k
def callMap (μ a5:Nat->Option Nat) (d:Nat):Nat->Option Nat:=fun b =>
 if 1000000+d*16<=b/\b<1000000+d*16+16 then(a5 (b-(1000000+d*16))).or (μ b) else μ b
section
variable {W w w':World} {X:XS} {Z0 Z Zr:Nat->Prop} {μ a5:Nat->Option Nat} {H:Heap} {bs:List Blk} {d:Nat}
theorem Core.call (hc:Core W X Z0 μ Z H w) (hr:Core w XS.no Z a5 Zr (outHeap bs) w') (hlen:bs.length<16) (cY:∀ blk∈bs,pures blk.vals=true)
  (hH:∀ i blk,bs[i]?=some blk->∃ m,H (callName d (i+1))=some ⟨blk.sz,blk.vals,m⟩/\(blk.mt=false->m=false)/\μ (callName d (i+1))=none) :
  ∃ Z',Core W X Z0 (callMap μ a5 d) Z' H w'/\(∀ id,Zr id->Z' id)/\(∀ id,Z id->Z' id)/\(∀ b id,μ b=some id->callMap μ a5 d b=some id)/\Frame Z μ w w' /\
   (∀ k id,a5 k=some id->callMap μ a5 d (callName d k)=some id):=by
 have hk:∀ k id,a5 k=some id->∃ blk,1<=k/\k<=bs.length/\bs[k-1]?=some blk/\outHeap bs k=some blk:=fun k id h=>by
  obtain⟨blk,h1,_⟩:=hr.heap k id h;have h0:k≠0:=by rintro rfl;simp [outHeap] at h1
  have h2:bs[k-1]?=some blk:=by simpa [outHeap,h0] using h1
  have:=(fV.1 h2).1;exact⟨blk,J,J,h2,h1⟩
 have yj:∀ k id,a5 k=some id->∃ blk m,bs[k-1]?=some blk/\H (callName d k)=some ⟨blk.sz,blk.vals,m⟩/\(blk.mt=false->m=false)/\μ (callName d k)=none/\outHeap bs k=some blk/\k<16:=fun k id h=>by
  obtain⟨blk,h1,h2,h3,h4⟩:=hk k id h;obtain⟨m,g1,g2,g3⟩:=hH (k-1) blk h3;have:k-1+1=k:=J;rw [this] at g1 g3;exact⟨blk,m,h3,g1,g2,g3,h4,J⟩
 have fo:∀ k id,a5 k=some id->callMap μ a5 d (callName d k)=some id:=fun k id h=>by
  obtain⟨blk,m,_,_,_,_,_,h6⟩:=yj k id h;unfold callMap callName;rw [if_pos J];have:1000000+d*16+k-(1000000+d*16)=k:=J;rw [this,h];rfl
 have hinv:∀ b id,callMap μ a5 d b=some id->(∃ k,b=callName d k/\a5 k=some id)\/μ b=some id:=fun b id h=>by
  unfold callMap at h;split at h
  ·rename_i hb
   cases hq:a5 (b-(1000000+d*16)) with
   | none=>rw [hq] at h;exact .inr dX
   | some vL =>
    rw [hq] at h;simp only [Option.some_or,bF] at h;subst h;exact .inl ⟨b-(1000000+d*16),by unfold callName;omega,hq⟩
  exact .inr h
 have hold:∀ b id,μ b=some id->callMap μ a5 d b=some id:=fun b id h=>by
  unfold callMap;split
  ·rename_i hb
   cases hq:a5 (b-(1000000+d*16)) with
   | none=>simpa using h
   | some vL =>
    obtain⟨blk,m,_,_,_,g,_⟩:=yj _ _ hq;have:callName d (b-(1000000+d*16))=b:=by unfold callName;omega
    rw [this,h] at g;cases g
  exact h
 have aC:∀ k id,a5 k=some id->w.heap.size<=id:=fun k id h=>(hr.own k id h).resolve_right XS.no_any;have jl:∀ k,k<w.heap.size->w'.heap[k]?=w.heap[k]?:=fun k hk=>hr.keep.block k hk XS.no_any;have aY:=hc.frame_old jl;refine⟨fun id=>Zr id\/∃ k blk,a5 k=some id/\H (callName d k)=some blk/\blk.mt=false,⟨?_,?_,fun id h=>.inl (hr.zsup id (hc.zsup id h)),?_,?_,?_,?_,hc.xlt,fun id h=>hold 0 id (hc.x1 id h),?_,?_,?_⟩,
  fun id h=>.inl h,fun id h=>.inl (hr.zsup id h),hold,aY,fo⟩
 ·exact⟨hr.keep.os.trans hc.keep.os,hr.keep.tape.trans hc.keep.tape,hr.keep.output.trans hc.keep.output,aw hc.keep.size hr.keep.size,
   fun k hk hx=>(jl k (by have:=hc.keep.size;omega)).trans (hc.keep.block k hk hx),
   fun k hx c T fz h=>let ⟨c',g1,g2⟩:=hc.keep.xsz k hx c T fz h;⟨c',(jl k (eB.1 g1).1).trans g1,g2⟩⟩
 ·rintro id (h | ⟨k,blk,h,_⟩)
  ·exact hr.zone id h
  exact hr.lt h
 ·rintro id (h | ⟨k,blk,h,_⟩)
  ·rcases hr.zsub id h with h | h | h
   ·exact hc.zsub id h
   ·exact .inr (.inl (aw hc.keep.size h))
   exact h.elim
  exact .inr (.inl (aw hc.keep.size (aC k id h)))
 ·intro b b' id h h';rcases hinv b id h with⟨k,rfl,h1⟩ | h1<;>rcases hinv b' id h' with⟨k',rfl,h2⟩ | h2
  ·rw [hr.inj k k' id h1 h2]
  ·have:=aC k id h1;have:=hc.lt h2;omega
  ·have:=aC k' id h2;have:=hc.lt h1;omega
  exact hc.inj b b' id h1 h2
 ·intro b id h;rcases hinv b id h with⟨k,rfl,h1⟩ | h1
  ·exact .inl (aw hc.keep.size (aC k id h1))
  exact hc.own b id h1
 ·intro b id h hx;rcases hinv b id h with⟨k,rfl,h1⟩ | h1
  ·have:=aC k id h1;have:=hc.xlt id (.inl hx);have:=hc.keep.size;omega
  exact hc.x0 b id h1 hx
 ·intro b id blk h hb hm hz;rcases hinv b id h with⟨k,rfl,h1⟩ | h1
  ·obtain⟨kX,m,_,g2,g3,_,g5,_⟩:=yj k id h1;rw [g2] at hb;cases hb;simp only at hm;subst hm;have dH:kX.mt=true:=by
    cases e:kX.mt with
    | true=>rfl
    | false=>exact absurd (g3 e) aj
   rcases hz with hz | ⟨k',blk',j1,j2,j3⟩
   ·exact hr.mutz k id kX h1 g5 dH hz
   have:=hr.inj k k' id h1 j1;subst this;rw [g2] at j2;cases j2;simp at j3
  rcases hz with hz | ⟨k',blk',j1,j2,j3⟩
  ·rcases hr.zsub id hz with h | h | h
   ·exact hc.mutz b id blk h1 hb hm h
   ·have:=hc.lt h1;omega
   exact h.elim
  have:=aC k' id j1;have:=hc.lt h1;omega
 ·intro b id blk h hb hm;rcases hinv b id h with⟨k,rfl,h1⟩ | h1
  ·exact .inr ⟨k,blk,h1,hb,hm⟩
  exact .inl (hr.zsup id (hc.frz b id blk h1 hb hm))
 intro b id h;rcases hinv b id h with⟨k,rfl,h1⟩ | h1
 ·obtain⟨kX,m,g1,g2,g3,_,g5,_⟩:=yj k id h1;obtain⟨xY,j1,c,T,part,rest,j2,j3,j4⟩:=hr.heap k id h1;rw [g5] at j1;cases j1;exact⟨_,g2,c,T,part,rest,j2,j3,RepAll.repure (fun id h=>.inl h) (fun _ _=>rfl) _ _ _ (cY kX (jZ g1)) j4⟩
 obtain⟨blk,g1,g2⟩:=hc.heap b id h1;exact⟨blk,g1,g2.mono (fun id h=>.inl (hr.zsup id h)) hold aY (jl id (hc.lt h1))⟩
def heapM (blk:Blk):Heap:=fun n=>if n=0 then some blk else none
def mu0 (id:Nat):Nat->Option Nat:=fun n=>if n=0 then some id else none
def CallOKM (P:Program) (f:FuncId) (blk:Blk) (args:List LV) (r:LV) (blk':Blk):Prop :=
 Callable P f/\∀ (W:World) (Z0:Nat->Prop) (vs:List Value) (i0:Nat),(∀ id,Z0 id->id<W.heap.size)->¬ Z0 i0->BlkRep Z0 (mu0 i0) W blk i0->RepVL Z0 (mu0 i0) W args vs ->
  Calls P f vs.toArray W fun e w'=>∃ v μ Z,e=.returned v/\Core W (XS.one i0) Z0 μ Z (heapM blk') w'/\RepV Z μ w' r v
theorem Core.callM {b i0:Nat} {blk blk':Blk} (hc:Core W X Z0 μ Z H w) (hb:μ b=some i0) (hH:H b=some blk) (hm:blk.mt=true) (gp:blk'.mt=true) (dQ:pures blk'.vals=true)
  (hr:Core w (XS.one i0) Z a5 Zr (heapM blk') w') :
  ∃ Z',Core W X Z0 μ Z' (fun k=>if k=b then some blk' else H k) w'/\(∀ id,Zr id->Z' id)/\(∀ id,Z id->Z' id)/\Frame Z μ w w'/\∀ k id,a5 k=some id->k=0/\id=i0:=by
 have fH:=hr.x1 i0 rfl;have ew:∀ k id,a5 k=some id->k=0/\id=i0:=fun k id h=>by
  obtain⟨xY,h1,_⟩:=hr.heap k id h;have:k=0:=by
   unfold heapM at h1;split at h1
   ·assumption
   cases h1
  subst this;rw [fH] at h;cases h;exact⟨rfl,rfl⟩
 have ahY:=hc.lt hb;have jl:∀ k,k<w.heap.size->k≠i0->w'.heap[k]?=w.heap[k]?:=fun k hk hx=>hr.keep.block k hk (fun e=>hx (XS.one_any e));have jD:¬ Z i0:=hc.mutz b i0 blk hb hH hm;have aY:Frame Z μ w w':=by
  refine⟨fun id h=>jl id (hc.zone id h) (fun e=>jD (e ▸ h)),fun c id h cc T fz jv=>?_⟩;by_cases e:id=i0
  ·subst e;exact hr.keep.xsz id (.inl rfl) cc T fz jv
  exact⟨cc,(jl id (hc.lt h) e).trans jv,rfl⟩
 refine⟨Zr,⟨?_,hr.zone,fun id h=>hr.zsup id (hc.zsup id h),?_,hc.inj,hc.own,hc.x0,hc.xlt,hc.x1,?_,?_,?_⟩,fun _ h=>h,hr.zsup,aY,ew⟩
 ·refine⟨hr.keep.os.trans hc.keep.os,hr.keep.tape.trans hc.keep.tape,hr.keep.output.trans hc.keep.output,aw hc.keep.size hr.keep.size,fun k hk hx=>?_,fun k hx c T fz h=>?_⟩
  ·have:k≠i0:=by
    rintro rfl;rcases hc.own b k hb with h | h
    ·omega
    exact hx h
   exact(jl k (by have:=hc.keep.size;omega) this).trans (hc.keep.block k hk hx)
  obtain⟨c',g1,g2⟩:=hc.keep.xsz k hx c T fz h;by_cases e:k=i0
  ·subst e;obtain⟨c2,g3,g4⟩:=hr.keep.xsz k (.inl rfl) c' T fz g1;exact⟨c2,g3,g4.trans g2⟩
  exact⟨c',(jl k (eB.1 g1).1 e).trans g1,g2⟩
 ·intro id h;rcases hr.zsub id h with h | h | h
  ·exact hc.zsub id h
  ·exact .inr (.inl (aw hc.keep.size h))
  exact h.elim
 ·intro c id bk h g bE hz;rcases hr.zsub id hz with wz | wz | wz
  ·by_cases e:c=b
   ·subst e;rw [hb] at h;cases h;exact jD wz
   rw [if_neg e] at g;exact hc.mutz c id bk h g bE wz
  ·have:=hc.lt h;omega
  exact wz.elim
 ·intro c id bk h g bE;by_cases e:c=b
  ·rw [if_pos e] at g;cases g;rw [gp] at bE;cases bE
  rw [if_neg e] at g;exact hr.zsup id (hc.frz c id bk h g bE)
 intro c id h;by_cases e:c=b
 ·subst e;rw [hb] at h;cases h;obtain⟨bk,g1,cc,T,part,rest,g2,g3,g4⟩:=hr.heap 0 i0 fH;simp only [heapM,if_true] at g1
  cases g1
  exact⟨blk',if_pos rfl,cc,T,part,rest,g2,g3,RepAll.repure (fun _ h=>h) (fun _ _=>rfl) _ _ _ dQ g4⟩
 obtain⟨bk,g1,g2⟩:=hc.heap c id h;have ak:id≠i0:=fun e'=>e (hc.inj c b id h (e' ▸ hb));exact⟨bk,by rw [if_neg e];exact g1,g2.mono hr.zsup (fun _ _ h=>h) aY (jl id (hc.lt h) ak)⟩
end
end Go.Lg
namespace Go.Lg
def TyBytes (P:Program) (T:TypeId) (n:Nat):Prop:=∃ i,P.info? T=some i/\i.bytes=n
inductive OpA (P:Program) (ρ:Operand->LV) (d:Nat):Op->LV->Blk->Prop
 | make {T E l c kl kc z sz bu n m} (hT:P.underlying T=some (.slice E)) (hz:ZeroOK P E z) (hE:TyIs P E sz z.isAgg) (a7:z.csize=sz) (hb:TyBytes P E bu)
   (hl:ρ l=.v (.int kl (n:Nat))) (hc:ρ c=.v (.int kc (m:Nat))) (dR:n<=m) (hm:bu*m<=281474976710656) (cL:m<=9223372036854775807) :
   OpA P ρ d (.makeSlice T l c) (.ref d sz 0 n) ⟨sz,ai n z,true⟩
 | lit {T E n ps z sz} (hT:P.underlying T=some (.slice E)) (hz:ZeroOK P E z) (hE:TyIs P E sz z.isAgg) (a7:z.csize=sz) (hn:n*sz<=16777216) (h0:0<n) (aT:0<sz)
   (hp:∀ p∈ps.toList,p.1<n/\lay (ρ p.2)=lay z/\ρ p.2≠.any/\∀ m,ρ p.2≠.tup m) :
   OpA P ρ d (.buildSlice T n ps) (.ref d sz 0 n) ⟨sz,buildL (ai n z) (ps.toList.map fun p=>(p.1,ρ p.2)),true⟩
 | lit0 {T E sz ag} (hT:P.underlying T=some (.slice E)) (hE:TyIs P E sz ag):OpA P ρ d (.buildSlice T 0 #[]) (.ref d sz 0 0) ⟨sz,[],true⟩
 | box {T x} (ak:ρ x≠.any/\∀ m,ρ x≠.tup m):OpA P ρ d (.box T x) (.eptr d (ρ x).csize 0 0) ⟨(ρ x).csize,[ρ x],true⟩
 | alloc {T z} (hz:ZeroOK P T z):OpA P ρ d (.alloc T) (.eptr d z.csize 0 0) ⟨z.csize,[z],true⟩
inductive OpC (P:Program) (H:Heap) (ρ:Operand->LV) (d:Nat):Op->LV->List Blk->Prop
 | func {f xs as args r bs} (ha:ImmL H (xs.toList.map ρ) args) (hk:CallOK P f args r bs) (hlen:bs.length<16) (cY:∀ blk∈bs,pures blk.vals=true) :
   OpC P H ρ d (.call ⟨.value (.func f),xs,as⟩) (r.ren (callName d)) bs
 | clo {t f cap xs as args r bs} (ht:ρ (.tmp t)=.clo f cap) (ha:ImmL H (xs.toList.map ρ) args) (oZ:pures cap=true/\∀ x∈cap,x.csize=1/\x.isAgg=false) (hk:CallOK P f (args++cap) r bs)
   (hlen:bs.length<16) (cY:∀ blk∈bs,pures blk.vals=true) :
   OpC P H ρ d (.call ⟨.value (.tmp t),xs,as⟩) (r.ren (callName d)) bs
 | mk {f xs caps} (ha:ImmL H (xs.toList.map ρ) caps) (h1:∀ x∈caps,x.csize=1/\x.isAgg=false):OpC P H ρ d (.makeFunc (.func f) #[] xs) (.clo f caps) []
inductive OpV (P:Program) (H:Heap) (ρ:Operand->LV) (d:Nat):Op->LV->List (Nat × Blk)->Prop
 | pure {op r} (h:OpP P H ρ op r):OpV P H ρ d op r []
 | alloc {op r blk} (h:OpA P ρ d op r blk):OpV P H ρ d op r [(d,blk)]
 | call {op r bs} (h:OpC P H ρ d op r bs):OpV P H ρ d op r (bs.mapIdx fun i blk=>(callName d (i+1),blk))
section
variable {P:Program} {W w:World} {X:XS} {Z0 Z:Nat->Prop} {μ:Nat->Option Nat} {H H':Heap} {ρ:Operand->LV} {a:Act}
theorem OpP.le {op:Op} {r:LV} (hle:H.le H') (h:OpP P H ρ op r):OpP P H' ρ op r:=by
 cases h with
 | loadE hp hb hs hi hx hr hT =>
  obtain⟨m,g1,_⟩:=hle _ _ hb;exact .loadE (blk:=⟨_,_,m⟩) hp g1 hs hi hx hr hT
 | move x=>exact .move x
 | assign x=>exact .assign x
 | pick h=>exact .pick h
 | bin hx hy h=>exact .bin hx hy h
 | sh hx hy h=>exact .sh hx hy h
 | beq hx hy hT=>exact .beq hx hy hT
 | bne hx hy hT=>exact .bne hx hy hT
 | not hx=>exact .not hx
 | neg hx=>exact .neg hx
 | conv hS hD hx=>exact .conv hS hD hx
 | extract ht hr ak=>exact .extract ht hr ak
 | field hx hT hr ak=>exact .field hx hT hr ak
 | fieldAddrB hp hT hr=>exact .fieldAddrB hp hT hr
 | fieldAddrE hp hT hk=>exact .fieldAddrE hp hT hk
 | loadB hp hT hc=>exact .loadB hp hT hc
 | nilChkE hx=>exact .nilChkE hx
 | idxA hx hT hE hf hi h0 hr hp=>exact .idxA hx hT hE hf hi h0 hr hp
 | idxAE hx hT hE hi h0 hm=>exact .idxAE hx hT hE hi h0 hm
 | idxAB hx hT hE hf hi h0 hr=>exact .idxAB hx hT hE hf hi h0 hr
 | buildA hT hE hf hz hp=>exact .buildA hT hE hf hz hp
 | nilChkB hx=>exact .nilChkB hx
 | idxL hx hT hE hi h0 hr hc=>exact .idxL hx hT hE hi h0 hr hc
 | idxR hx hT hE hi h0 hn=>exact .idxR hx hT hE hi h0 hn
 | sliceL hx hT hE a b c d e f=>exact .sliceL hx hT hE a b c d e f
 | sliceR hx hT hE a b c d e f g=>exact .sliceR hx hT hE a b c d e f g
 | sliceR3 hx hT hE a b c d e f g i=>exact .sliceR3 hx hT hE a b c d e f g i
 | lenL hx has hT=>exact .lenL hx has hT
 | lenR hx has hT=>exact .lenR hx has hT
 | lenN hx has hT=>exact .lenN hx has hT
 | lenC hx has hT=>exact .lenC hx has hT
 | capC hx has hT=>exact .capC hx has hT
 | sliceC hx hT hE a b c d e f g=>exact .sliceC hx hT hE a b c d e f g
 | min2 hx hy=>exact .min2 hx hy
 | max2 hx hy=>exact .max2 hx hy
 | indexS hx hT hi h0 hb=>exact .indexS hx hT hi h0 hb
 | ext2 hf fS hb hn he hx hr h1 h2=>exact .ext2 hf fS hb hn he hx hr h1 h2
 | build hT hz hp=>exact .build hT hz hp
theorem OpV.le {op:Op} {r:LV} {d:Nat} {fr:List (Nat × Blk)} (hle:H.le H') (h:OpV P H ρ d op r fr):OpV P H' ρ d op r fr:=by
 cases h with
 | pure h=>exact .pure (h.le hle)
 | alloc h=>exact .alloc h
 | call h =>
  refine .call ?_
  cases h with
  | func ha hk hlen cY=>exact .func (ImmL.le hle ha) hk hlen cY
  | clo ht ha oZ hk hlen cY=>exact .clo ht (ImmL.le hle ha) oZ hk hlen cY
  | mk ha h1=>exact .mk (ImmL.le hle ha) h1
theorem immL_args (hc:Core W X Z0 μ Z H w):∀ (xs:List Operand) (args:List LV),ImmL H (xs.map ρ) args->(∀ x∈xs,RepV Z μ w (ρ x) (a.eval x)) ->
  RepVL Z (fun _=>none) w args (xs.map a.eval)
 | [],_,h,_=>by cases h;rfl
 | x :: xs,_,h,hr=>by
   cases h with
   | cons h t =>
    exact⟨_,_,rfl,Imm.soundV hc h (hr x aj),immL_args hc xs _ t (fun y hy=>hr y (by simp [hy]))⟩
theorem RepVL.append:∀ (l m:List LV) (vs us:List Value),RepVL Z μ w l vs->RepVL Z μ w m us->RepVL Z μ w (l++m) (vs++us)
 | [],m,vs,us,h,h'=>by cases h;exact h'
 | x :: xs,m,_,us,⟨v,dK,e,h1,h2⟩,h'=>by
   subst e;exact⟨v,dK++us,by simp,h1,RepVL.append xs m dK us h2 h'⟩
theorem repVL_of_all1 {av:Nat->Option Nat}:∀ (l:List LV) (cs:List Value),pures l=true->(∀ x∈l,x.csize=1/\x.isAgg=false)->RepAll Z μ w 1 l cs->RepVL Z av w l cs
 | [],cs,_,_,h=>by simp only [RepAll] at h;exact h
 | x :: xs,cs,hp,h1,h=>by
   simp only [RepAll] at h;obtain⟨c1,c2,rfl,h2,h3,h4⟩:=h
   match c1,h2 with
   | [y],_ =>
    refine⟨y,c2,rfl,⟨fun e=>?_,fun _=>Rep.repure (fun _ h=>h) (fun _ _=>rfl) _ _ (pure_cons hp).1 h3⟩,repVL_of_all1 xs c2 (pure_cons hp).2 (fun z hz=>h1 z (by simp [hz])) h4⟩;rw [(h1 x aj).2] at e;cases e
theorem all1_of_repVL {av:Nat->Option Nat}:∀ (l:List LV) (vs:List Value),pures l=true->(∀ x∈l,x.csize=1/\x.isAgg=false)->RepVL Z μ w l vs->RepAll Z av w 1 l vs
 | [],vs,_,_,h=>by simp only [RepAll];exact h
 | x :: xs,_,hp,h1,⟨v,dK,e,h2,h3⟩=>by
   subst e;simp only [RepAll];exact⟨[v],dK,rfl,rfl,Rep.repure (fun _ h=>h) (fun _ _=>rfl) _ _ (pure_cons hp).1 (h2.2 (h1 x aj).2),all1_of_repVL xs dK (pure_cons hp).2 (fun z hz=>h1 z (by simp [hz])) h3⟩
theorem callFunc_run {f:FuncId} {args:Array Value} (h:Callable P f):(callFunc f args).run P w=.ok (.enter f args) w:=by
 obtain⟨fn,h1,h2,h3⟩:=h;simp only [callFunc,Sem.run_bind,run_program,Result.andThen_ok,h1,h3,tC,if_false,h2,Sem.run_pure]
theorem made_list (z:Array Value) (hz:0<z.size):∀ n,(madeCells z (n*z.size)).toList=(ai n z.toList).flatten
 | 0=>by simp [madeCells]
 | n+1=>by
   have ih:=made_list z hz n;simp only [madeCells,Array.toList_map,Array.toList_range] at ih ⊢;rw [cB,List.range_add,List.map_append,ih,List.replicate_succ',ab9,List.map_map];congr 1;simp only [pI,List.flatten_nil,aS];apply lX
   ·simp
   intro j h1 h2;simp at h1;simp [cV h1,h1]
theorem repAll_replicate_split {sz:Nat} {z:LV} {ch:List Value} (h:Rep Z μ w z ch) (hl:ch.length=sz) (n m:Nat) (dR:n<=m) :
  ∃ part rest,(ai m ch).flatten=part++rest/\RepAll Z μ w sz (ai n z) part:=by
 refine⟨(ai n ch).flatten,(ai (m-n) ch).flatten,?_,RepAll.replicate h hl n⟩;rw [<-ab9,List.replicate_append_replicate,Nat.add_sub_cancel' dR]
theorem callMap_new {a5:Nat->Option Nat} {d:Nat} {b:Nat} (h:callMap μ a5 d b≠none):μ b≠none\/∃ k,b=callName d k/\a5 k≠none:=by
 unfold callMap at h;split at h
 ·cases hq:a5 (b-(1000000+d*16)) with
  | none=>rw [hq] at h;exact .inl dX
  | some id=>exact .inr ⟨b-(1000000+d*16),by unfold callName;omega,by rw [hq];simp⟩
 exact gR
structure After (W:World) (X:XS) (Z0:Nat->Prop) (μ:Nat->Option Nat) (Z:Nat->Prop) (H:Heap) (w:World) (r:LV) (fr:List (Nat × Blk)) (v:Value) (w':World) (av:Nat->Option Nat) (Z':Nat->Prop):Prop where
 core:Core W X Z0 av Z' H w'
 hz:∀ id,Z id->Z' id
 hm:∀ b id,μ b=some id->av b=some id
 hf:Frame Z μ w w'
 rep:RepV Z' av w' r v
 new:∀ b,av b≠none->μ b≠none\/b∈fr.map (·.1)
theorem call_sound {f:FuncId} {vs:Array Value} {d:Nat} {args:List LV} {r:LV} {bs:List Blk} {o:Oper} {K:Act->World->Prop} {Q:Exit->Act->World->Prop}
  (hc:Core W X Z0 μ Z H w) (hk:CallOK P f args r bs) (hlen:bs.length<16) (cY:∀ blk∈bs,pures blk.vals=true)
  (hargs:RepVL Z (fun _=>none) w args vs.toList)
  (aY:∀ i blk,bs[i]?=some blk->∃ m,H (callName d (i+1))=some ⟨blk.sz,blk.vals,m⟩/\(blk.mt=false->m=false)/\μ (callName d (i+1))=none)
  (bV:(execOp a.eval o).run P w=.ok (.enter f vs) w)
  (hK:∀ v w' av Z',After W X Z0 μ Z H w (r.ren (callName d)) (bs.mapIdx fun i blk=>(callName d (i+1),blk)) v w' av Z'->K (a.put o.dst v) w'):o.wp P a w K Q:=by
 unfold Oper.wp;rw [bV,Oper.upon_enter];have:=hk.2 w Z vs.toList hc.zone hargs;rw [Array.toArray_toList] at this;refine this.mono ?_;rintro e w' ⟨v,a5,Zr,rfl,hr,hv⟩;obtain⟨Z',h1,h2,h3,h4,h5,h6⟩:=hc.call hr hlen cY aY;refine hK v w' _ Z' ⟨h1,h3,h4,h5,?_,?_⟩
 ·exact(hv.mono h2 (fun _ _ h=>h) ⟨fun _ _=>rfl,(Frame.refl Zr a5 w').m⟩).ren (callName d) h6
 intro b hb;rcases callMap_new hb with h | ⟨k,rfl,h⟩
 ·exact gR
 right;obtain⟨id,uZ⟩:=zJ.1 h;obtain⟨blk,g1,_⟩:=hr.heap k id uZ;have h0:k≠0:=by rintro rfl;simp [outHeap] at g1
 have g2:bs[k-1]?=some blk:=by simpa [outHeap,h0] using g1
 simp only [bS,adX];refine⟨_,⟨k-1,(fV.1 g2).1,rfl⟩,?_⟩;show callName d (k-1+1)=callName d k;congr 1;omega
theorem repFs_of_all {sz:Nat}:∀ (l:List LV) (cs:List Value),(∀ x∈l,x.csize=sz)->RepAll Z μ w sz l cs->RepFs Z μ w l cs
 | [],cs,_,h=>by simpa [RepAll,RepFs] using h
 | x :: xs,cs,hx,h=>by
   simp only [RepAll,RepFs] at h ⊢;obtain⟨c1,c2,h1,h2,h3,h4⟩:=h;exact⟨c1,c2,h1,by rw [h2,hx x aj],h3,repFs_of_all xs c2 (fun y hy=>hx y (by simp [hy])) h4⟩
theorem all_of_repFs {sz:Nat}:∀ (l:List LV) (cs:List Value),(∀ x∈l,x.csize=sz)->RepFs Z μ w l cs->RepAll Z μ w sz l cs
 | [],cs,_,h=>by simpa [RepAll,RepFs] using h
 | x :: xs,cs,hx,h=>by
   simp only [RepAll,RepFs] at h ⊢;obtain⟨c1,c2,h1,h2,h3,h4⟩:=h;exact⟨c1,c2,h1,by rw [h2,hx x aj],h3,all_of_repFs xs c2 (fun y hy=>hx y (by simp [hy])) h4⟩
theorem sumL_replicate (x:Nat × Bool):∀ n,sumL (ai n x)=n*x.1
 | 0=>by simp [sumL]
 | n+1=>by simp [aaF,sumL,sumL_replicate x n,cB];omega
theorem buildL_lay:∀ (qs:List (Nat × LV)) (zs:List LV) (n:Nat × Bool),(∀ x∈zs,lay x=n)->(∀ q∈qs,lay q.2=n)->∀ x∈buildL zs qs,lay x=n
 | [],zs,n,h,_=>h
 | q :: qs,zs,n,h,hq=>by
   refine buildL_lay qs (zs.set q.1 q.2) n (fun x hx=>?_) (fun q' h'=>hq q' (by simp [h']));rcases List.mem_or_eq_of_mem_set hx with hx | rfl
   ·exact h x hx
   exact hq q aj
theorem lit_sound {T E:TypeId} {n:Nat} {ps:Array (Nat × Operand)} {z:LV} {sz:Nat} (hT:P.underlying T=some (.slice E)) (hz:ZeroOK P E z) (hE:TyIs P E sz z.isAgg) (a7:z.csize=sz)
  (hn:n*sz<=16777216) (h0:0<n) (aT:0<sz) (hp:∀ p∈ps.toList,p.1<n/\lay (ρ p.2)=lay z/\ρ p.2≠.any/\∀ m,ρ p.2≠.tup m)
  (aJ:∀ p∈ps.toList,RepV Z μ w (ρ p.2) (a.eval p.2)) :
  ∃ cs,(Instr.buildSlice T n (ps.map fun(i,x)=>(i,a.eval x))).run P w=.ok (.slice (some ⟨w.heap.size,0,none⟩) n n) (w.alloc (.cells cs E)) /\
   RepAll Z μ w sz (buildL (ai n z) (ps.toList.map fun p=>(p.1,ρ p.2))) cs.toList:=by
 obtain⟨i,zv,z1,z2,z3,z4⟩:=hz;have ak:=LV.pure_ne_any z3;have hsz:i.size=sz:=by have:=hE.1;rw [z1] at this;simpa using this
 have jL:=Rep.len (z4 Z μ w) ak;have yI:zv.cells.size=sz:=by rw [<-gG,jL,a7]
 have ae4:(madeCells zv.cells (n*sz)).toList=(ai n zv.cells.toList).flatten:=by
  have:=made_list zv.cells J n;rwa [yI] at this
 have bM:RepAll Z μ w sz (ai n z) (madeCells zv.cells (n*sz)).toList:=by
  rw [ae4];exact RepAll.replicate (z4 Z μ w) (by rw [jL,a7]) n
 have mf:∀ x∈ai n z,x.csize=sz:=fun x hx=>by rw [(jE.1 hx).2,a7]
 obtain⟨cs,f1,f2⟩:=fill_sound (Z:=Z) (μ:=μ) (w:=w) (ls:=ai n (lay z)) (fun k=>some (k*sz,sz))
  (fun k m hk=>by
   obtain⟨h1,h2⟩:=fV.1 hk;simp at h1 h2;subst h2;rw [List.take_replicate,sumL_replicate,eP J];simp [lay,a7])
  (ps.toList.map fun p=>(p.1,a.eval p.2)) (ps.toList.map fun p=>(p.1,ρ p.2)) (ai n z) (madeCells zv.cells (n*sz)) aj (repFs_of_all _ _ mf bM) aj
  (fun j p q dx jX=>by
   simp only [bU,oz] at dx jX;obtain⟨x,hx,rfl⟩:=dx;obtain⟨y,hy,rfl⟩:=jX;rw [hx] at hy;cases hy;have hm:=jZ hx;obtain⟨_,_,h3,h4⟩:=hp x hm;exact⟨RepV.to1 h4 h3 (aJ x hm),h3⟩)
  (fun q hq=>by
   simp only [bS] at hq;obtain⟨x,hx,rfl⟩:=hq;obtain⟨h1,h2,_⟩:=hp x hx;exact⟨lay z,by simp [h1],h2⟩)
 refine⟨cs,?_,all_of_repFs _ _ (fun x hx=>?_) f2⟩
 ·have oy:(zeroValue E).run P w=.ok zv w:=by simp [zeroValue,typeInfo,z1,z2]
  have hso:(sizeOf E).run P w=.ok sz w:=run_sizeOf hE;have hns:¬ n*sz=0:=by
   intro h;rcases abk.1 h with h | h<;>omega
  have hle:¬ 2 ^ 24<n*sz:=by
   have:(2:Nat) ^ 24=16777216:=ae;omega
  have kE:(vm (fun x=>match x with | (i,x)=>(i,a.eval x)) ps).toList=ps.toList.map fun p=>(p.1,a.eval p.2):=aj;simp only [Instr.buildSlice,Sem.run_bind,run_underlying hT,Result.andThen_ok,hso,gt_iff_lt,hle,if_false,Sem.run_ite,hns,oy,Sem.run_pure,kE];have tY:(adB (n*sz)).map (fun x=>zv.cells[x % zv.cells.size]!)=madeCells zv.cells (n*sz):=rfl;rw [tY,f1];rfl
 have hb:=buildL_lay (ps.toList.map fun p=>(p.1,ρ p.2)) (ai n z) (lay z) (fun x hx=>by rw [(jE.1 hx).2]) (fun q hq=>by
  simp only [bS] at hq;obtain⟨y,hy,rfl⟩:=hq;exact(hp y hy).2.1) x hx
 have:=congrArg Prod.fst hb;simpa [lay,a7] using this
theorem zeroCells_list (z:Array Value) (n:Nat):(Builtin.zeroCells z n).toList=(ai n z.toList).flatten:=by
 have hl:((ai n z.toList).flatten).length=n*z.size:=by
  induction n with
  | zero=>simp
  | succ n ih=>simp only [aaF,pI,cZ,ih,cB];simp;omega
 refine lX (by rw [hl];simp [Builtin.zeroCells]) (fun i h1 h2=>?_);have hi:i<n*z.size:=by rw [hl] at h2;exact h2
 have hz:0<z.size:=Nat.pos_of_ne_zero fun e=>by rw [e] at hi;simp at hi
 have key:∀ (n i:Nat),i<n*z.size->(ai n z.toList).flatten[i]?=z.toList[i % z.size]?:=by
  intro n
  induction n with
  | zero=>intro i h;simp at h
  | succ n ih =>
   intro i h;rw [aaF,pI];rcases cu i z.size with h3 | h3
   ·rw [abw (by simpa using h3),cV h3]
   rw [uX (by simpa using h3)];have e:z.toList.length=z.size:=aj;rw [e,ih (i-z.size) (by rw [cB] at h;omega),<-Nat.mod_eq_sub_mod h3]
 have h3:=key n i hi;rw [aB h2] at h3;have hm:i % z.size<z.size:=Nat.mod_lt _ hz;rw [aB (by simpa using hm)] at h3;simp only [bF] at h3;rw [h3];simp [Builtin.zeroCells,hm]
theorem opA_sound {op:Op} {r:LV} {d:Nat} {blk:Blk} (hc:Core W X Z0 μ Z H w) (ho:OpA P ρ d op r blk) (aJ:∀ x∈op.operands,RepV Z μ w (ρ x) (a.eval x))
  {m:Bool} (hH:H d=some ⟨blk.sz,blk.vals,m⟩) (oT:μ d=none) (dst:Option Tmp) (ty:TypeId) (pos:String) (after:Array Edge) (g:Option (Nat × Bool)) :
  ∃ v w' av Z',(execOp a.eval ⟨dst,op,ty,pos,after,g⟩).run P w=.ok (.value v) w'/\After W X Z0 μ Z H w r [(d,blk)] v w' av Z':=by
 have fo:∀ id b,upd μ d id b≠none->μ b≠none\/b∈[(d,blk)].map (·.1):=fun id b h=>by
  unfold upd at h;split at h
  ·subst_vars;right;simp
  exact gR
 cases ho with
 | @make T E l c kl kc z sz bu n cp hT hz hE a7 hb hl bN dR ja cL =>
  obtain⟨i,zv,z1,z2,z3,z4⟩:=hz;have e1:=aJ l aE;rw [hl] at e1;have e1:=e1.v_eq;have e2:=aJ c aE;rw [bN] at e2;have e2:=e2.v_eq;have ak:=LV.pure_ne_any z3;have hsz:i.size=sz:=by have:=hE.1;rw [z1] at this;simpa using this
  have cU:i.bytes=bu:=by obtain⟨i',g1,g2⟩:=hb;rw [z1] at g1;cases g1;exact g2
  have jL:=Rep.len (z4 Z μ w) ak;have yI:zv.cells.size=sz:=by rw [<-gG,jL,a7]
  have hr:=run_make (P:=P) w T E i zv hT z1 z2 kl kc (n:Int) (cp:Int) J J (by rw [cU];omega) J;simp only [Int.toNat_natCast,hsz] at hr;obtain⟨part,rest,p1,p2⟩:=repAll_replicate_split (sz:=sz) (z4 Z μ w) (by rw [jL,a7]) n cp dR;have zE:(madeCells zv.cells (cp*sz)).toList=part++rest:=by
   by_cases gC:0<zv.cells.size
   ·rw [<-yI,made_list _ gC,p1]
   have:sz=0:=J;rw [<-p1,this];have h0:zv.cells.toList=[]:=by
    apply jB;rw [gG];omega
   simp [madeCells,h0]
  obtain⟨Z',h1,h2,h3,h4,h5,h6⟩:=hc.push hH oT (Pushed.alloc w (.cells (madeCells zv.cells (cp*sz)) E)) zE p2;refine⟨_,_,_,Z',by simp only [execOp,e1,e2];rw [Sem.run_bind,hr];rfl,h1,h2,h3,h4,⟨by simp [LV.isAgg],fun _=>?_⟩,fo _⟩;simp only [Rep];exact .inr ⟨w.heap.size,cp,_,E,(0,0),by simp,h5,dR,h6,by rw [size_madeCells];simp⟩
 | @lit T E n ps z sz hT hz hE a7 hn h0 aT hp =>
  have hpm:∀ p∈ps.toList,RepV Z μ w (ρ p.2) (a.eval p.2):=fun p hp=>aJ p.2 (by simp [Op.operands];exact⟨p.1,by simpa using hp⟩);obtain⟨cs,r1,r2⟩:=lit_sound (P:=P) (Z:=Z) (μ:=μ) (w:=w) (a:=a) hT hz hE a7 hn h0 aT hp hpm;obtain⟨Z',h1,h2,h3,h4,h5,h6⟩:=hc.push hH oT (Pushed.alloc w (.cells cs E)) (aS _).symm r2;refine⟨_,_,_,Z',by simp only [execOp];rw [Sem.run_bind,r1];rfl,h1,h2,h3,h4,⟨by simp [LV.isAgg],fun _=>?_⟩,fo _⟩;simp only [Rep];have hl:=RepAll.length _ _ r2;have gQ:(buildL (ai n z) (ps.toList.map fun p=>(p.1,ρ p.2))).length=n:=by
   have:∀ (qs:List (Nat × LV)) (zs:List LV),(buildL zs qs).length=zs.length:=fun qs=>by
    induction qs with
    | nil=>intro zs;rfl
    | cons q qs ih=>intro zs;exact(ih _).trans aj
   rw [this];simp
  exact .inr ⟨w.heap.size,n,cs,E,(0,0),by simp,h5,an _,h6,by rw [<-gG,hl,gQ];simp⟩
 | @lit0 T E sz ag hT hE =>
  obtain⟨Z',h1,h2,h3,h4,h5,h6⟩:=hc.push hH oT (Pushed.alloc w (.cells #[] E)) (part:=[]) (rest:=[]) rfl (by simp [RepAll]);refine⟨_,_,_,Z',by simp [execOp,Instr.buildSlice,run_underlying hT,run_sizeOf hE,Instr.fill,newRow,show (vm (fun _:Nat=>(default:Value)) (adB 0))=#[] from by apply l8;simp];exact rfl,h1,h2,h3,h4,⟨by simp [LV.isAgg],fun _=>?_⟩,fo _⟩;simp only [Rep];exact .inr ⟨w.heap.size,0,#[],E,(0,0),by rw [jm],h5,an _,h6,by simp⟩
 | @box T x ak =>
  have e1:=aJ x aE;obtain⟨c1,c2,_,_⟩:=(RepV.to1 ak.2 ak.1 e1).cells ak.1;have mn:RepAll Z μ w (ρ x).csize [ρ x] (a.eval x).cells.toList:=by
   simp only [RepAll];exact⟨_,[],by simp,by simp [c2],c1,rfl⟩
  obtain⟨Z',h1,h2,h3,h4,h5,h6⟩:=hc.push (T:=T) (c:=(a.eval x).cells) hH oT (Pushed.alloc w _) (aS _).symm mn;refine⟨_,_,_,Z',by simp only [execOp,Instr.box,newVar,newRow,Sem.run_bind,run_newObj,Result.andThen_ok,Sem.run_pure];rfl,h1,h2,h3,h4,⟨by simp [LV.isAgg],fun _=>?_⟩,fo _⟩;simp only [Rep];exact⟨w.heap.size,by simp,h5⟩
 | @alloc T z hz =>
  obtain⟨i,zv,z1,z2,z3,z4⟩:=hz;have ak:=LV.pure_ne_any z3;have jL:=Rep.len (z4 Z μ w) ak;have mn:RepAll Z μ w z.csize [z] zv.cells.toList:=by
   simp only [RepAll];exact⟨_,[],by simp,by simpa using jL,z4 Z μ w,rfl⟩
  obtain⟨Z',h1,h2,h3,h4,h5,h6⟩:=hc.push (T:=T) (c:=zv.cells) hH oT (Pushed.alloc w _) (aS _).symm mn;have oy:(zeroValue T).run P w=.ok zv w:=by simp [zeroValue,typeInfo,z1,z2]
  refine⟨_,_,_,Z',by simp only [execOp,Instr.alloc,newVar,newRow,Sem.run_bind,oy,run_newObj,Result.andThen_ok,Sem.run_pure];rfl,h1,h2,h3,h4,⟨by simp [LV.isAgg],fun _=>?_⟩,fo _⟩;simp only [Rep];exact⟨w.heap.size,by simp,h5⟩
theorem opC_sound {op:Op} {r:LV} {d:Nat} {bs:List Blk} (hc:Core W X Z0 μ Z H w) (ho:OpC P H ρ d op r bs) (aJ:∀ x∈op.operands,RepV Z μ w (ρ x) (a.eval x))
  (aY:∀ i blk,bs[i]?=some blk->∃ m,H (callName d (i+1))=some ⟨blk.sz,blk.vals,m⟩/\(blk.mt=false->m=false)/\μ (callName d (i+1))=none)
  (dst:Option Tmp) (ty:TypeId) (pos:String) (after:Array Edge) (g:Option (Nat × Bool)) {K:Act->World->Prop} {Q:Exit->Act->World->Prop}
  (hK:∀ v w' av Z',After W X Z0 μ Z H w r (bs.mapIdx fun i blk=>(callName d (i+1),blk)) v w' av Z'->K (a.put dst v) w') :
  (⟨dst,op,ty,pos,after,g⟩:Oper).wp P a w K Q:=by
 cases ho with
 | @func f xs as args r bs ha hk hlen cY =>
  have hargs:=immL_args (a:=a) hc xs.toList args ha (fun x hx=>aJ x (by simp [Op.operands,Call.operands];right;simpa using hx));refine call_sound (vs:=xs.map a.eval) hc hk hlen cY (by simpa using hargs) aY ?_ hK;simp only [execOp,resolve,Act.eval,Deferred.ofValue,Sem.run_bind,Sem.run_pure,Result.andThen_ok,invoke];have:=callFunc_run (P:=P) (w:=w) (args:=xs.map a.eval) hk.1;simpa using this
 | @clo t f cap xs as args r bs ht ha oZ hk hlen cY =>
  have hargs:=immL_args (a:=a) hc xs.toList args ha (fun x hx=>aJ x (by simp [Op.operands,Call.operands];right;simpa using hx));have e1:=aJ (.tmp t) dI;rw [ht] at e1;have e2:=e1.2 rfl;simp only [Rep] at e2;obtain⟨cv,q1,q2,_⟩:=e2;simp only [b7,and_true] at q1;have jS:=repVL_of_all1 (av:=fun _=>none) cap cv.toList oZ.1 oZ.2 q2;refine call_sound (vs:=xs.map a.eval++cv) hc hk hlen cY (by simpa using RepVL.append _ _ _ _ hargs jS) aY ?_ hK;have:=callFunc_run (P:=P) (w:=w) (args:=xs.map a.eval++cv) hk.1;simp only [execOp,resolve,q1,Deferred.ofValue,Sem.run_bind,Sem.run_pure,Result.andThen_ok,invoke];simpa using this
 | @mk f xs caps ha h1 =>
  have hargs:=immL_args (a:=a) hc xs.toList caps ha (fun x hx=>aJ x (by simp [Op.operands];simpa using hx));have hp:=(ImmL.lay ha).2;have bV:(execOp a.eval ⟨dst,.makeFunc (.func f) #[] xs,ty,pos,after,g⟩).run P w=.ok (.value (.func (.func f) #[] (xs.map a.eval))) w:=by
   simp [execOp,Instr.makeFunc]
  unfold Oper.wp;rw [bV,Oper.upon_value];refine hK _ w μ Z ⟨hc,fun _ h=>h,fun _ _ h=>h,Frame.refl _ _ _,⟨by simp [LV.isAgg],fun _=>?_⟩,fun b h=>.inl h⟩;simp only [Rep];exact⟨_,rfl,all1_of_repVL caps _ hp h1 (by simpa using hargs),hp⟩
theorem OpV.sound {op:Op} {r:LV} {d:Nat} {fr:List (Nat × Blk)} (hc:Core W X Z0 μ Z H w) (ho:OpV P H ρ d op r fr) (aJ:∀ x∈op.operands,RepV Z μ w (ρ x) (a.eval x))
  (aY:∀ b blk,(b,blk)∈fr->∃ m,H b=some ⟨blk.sz,blk.vals,m⟩/\(blk.mt=false->m=false)/\μ b=none)
  (dst:Option Tmp) (ty:TypeId) (pos:String) (after:Array Edge) (g:Option (Nat × Bool)) {K:Act->World->Prop} {Q:Exit->Act->World->Prop}
  (hK:∀ v w' av Z',After W X Z0 μ Z H w r fr v w' av Z'->K (a.put dst v) w') :
  (⟨dst,op,ty,pos,after,g⟩:Oper).wp P a w K Q:=by
 cases ho with
 | pure h =>
  obtain⟨v,h1,h2⟩:=h.sound aJ hc.heap dst ty pos after g;unfold Oper.wp;rw [h1,Oper.upon_value];exact hK v w μ Z ⟨hc,fun _ h=>h,fun _ _ h=>h,Frame.refl _ _ _,h2,fun b h=>.inl h⟩
 | @alloc blk h =>
  obtain⟨m,g1,_,g3⟩:=aY d blk aj;obtain⟨v,w',av,Z',h1,h2⟩:=opA_sound hc h aJ g1 g3 dst ty pos after g;unfold Oper.wp;rw [h1,Oper.upon_value];exact hK v w' av Z' h2
 | @call bs h =>
  refine opC_sound hc h aJ (fun i blk hb=>aY _ blk ?_) dst ty pos after g hK;rw [adX];obtain⟨h1,h2⟩:=fV.1 hb;exact⟨i,h1,by rw [h2]⟩
end
end Go.Lg
namespace Go.Lg
mutual
def LV.kill (b:Nat):LV->LV
 | .ref c sz off len=>if c=b then .any else .ref c sz off len
 | .refc c sz off len cap=>if c=b then .any else .refc c sz off len cap
 | .eptr c sz i o=>if c=b then .any else .eptr c sz i o
 | .agg l=>.agg (kills b l)
 | .tup l=>.tup (kills b l)
 | .any=>.any
 | .v x=>.v x
 | .list sz l=>.list sz l
 | .boxp c=>.boxp c
 | .clo f l=>.clo f l
def kills (b:Nat):List LV->List LV
 | []=>[]
 | x :: xs=>x.kill b :: kills b xs
end
mutual
theorem LV.kill_csize (b:Nat):∀ (x:LV),(x.kill b).csize=x.csize
 | .any=>rfl | .v _=>rfl | .list ..=>rfl | .boxp _=>rfl | .clo ..=>rfl
 | .tup _=>rfl
 | .ref c sz off len=>by simp only [LV.kill];split<;>rfl
 | .refc c sz off len cap=>by simp only [LV.kill];split<;>rfl
 | .eptr c sz i o=>by simp only [LV.kill];split<;>rfl
 | .agg l=>by simp only [LV.kill,LV.csize,kills_csize b l]
theorem kills_csize (b:Nat):∀ (l:List LV),csizes (kills b l)=csizes l
 | []=>rfl
 | x :: xs=>by simp only [kills,csizes,LV.kill_csize b x,kills_csize b xs]
end
theorem LV.kill_isAgg (b:Nat) (x:LV):(x.kill b).isAgg=x.isAgg:=by
 cases x with
 | ref c sz off len=>simp only [LV.kill];split<;>rfl
 | refc c sz off len cap=>simp only [LV.kill];split<;>rfl
 | eptr c sz i o=>simp only [LV.kill];split<;>rfl
 | _=>rfl
mutual
theorem LV.kill_pure (b:Nat):∀ (x:LV),x.pure=true->x.kill b=x
 | .any,_=>rfl
 | .v _,_=>rfl
 | .list sz l,_=>rfl
 | .agg l,h=>by simp only [LV.kill,kills_pure b l (by simpa [LV.pure] using h)]
 | .ref ..,h=>by simp [LV.pure] at h
 | .refc ..,h=>by simp [LV.pure] at h
 | .eptr ..,h=>by simp [LV.pure] at h
 | .boxp c,_=>rfl
 | .clo g l,_=>rfl
 | .tup l,h=>by simp [LV.pure] at h
theorem kills_pure (b:Nat):∀ (l:List LV),pures l=true->kills b l=l
 | [],_=>rfl
 | x :: xs,h=>by simp only [kills,LV.kill_pure b x (pure_cons h).1,kills_pure b xs (pure_cons h).2]
end
section
variable {Z Z':Nat->Prop} {μ av:Nat->Option Nat} {w w':World} {b:Nat}
mutual
theorem Rep.kill (hz:∀ id,Z id->Z' id) (hm:∀ c id,c≠b->μ c=some id->av c=some id) (hf:Frame Z μ w w') :
  ∀ (lv:LV) (cs:List Value),Rep Z μ w lv cs->Rep Z' av w' (lv.kill b) cs
 | .any,_,h=>by simpa [Rep,LV.kill] using h
 | .v x,cs,h=>by simpa [Rep,LV.kill] using h
 | .list sz l,cs,h=>by
   have hp:(LV.list sz l).pure=true:=by
    simp only [Rep] at h;obtain⟨a,len,cap,_,_,_,_,h9⟩:=h;simpa [LV.pure] using h9
   exact Rep.repure hz hf.z _ _ hp h
 | .agg l,cs,h=>by
   simp only [Rep,LV.kill] at h ⊢;exact RepFs.kill hz hm hf l cs h
 | .ref c sz off len,cs,h=>by
   simp only [LV.kill];split
   ·exact fun u hu=>Rep.one _ _ h u hu
   rename_i ak;simp only [Rep] at h ⊢;rcases h with h | ⟨id,cap,c',T,fz,h1,h2,h3,h4,h5⟩
   ·exact gR
   obtain⟨c2,h6,h7⟩:=hf.m c id h2 c' T fz h4;exact .inr ⟨id,cap,c2,T,fz,h1,hm _ _ ak h2,h3,h6,J⟩
 | .refc c sz off len cap,cs,h=>by
   simp only [LV.kill];split
   ·exact fun u hu=>Rep.one _ _ h u hu
   rename_i ak;simp only [Rep] at h ⊢;obtain⟨id,c',T,fz,h1,h2,h3,h4,h5⟩:=h;obtain⟨c2,h6,h7⟩:=hf.m c id h2 c' T fz h4;exact⟨id,c2,T,fz,h1,hm _ _ ak h2,h3,h6,J⟩
 | .eptr c sz i o,cs,h=>by
   simp only [LV.kill];split
   ·exact fun u hu=>Rep.one _ _ h u hu
   rename_i ak;simp only [Rep] at h ⊢;obtain⟨id,h1,h2⟩:=h;exact⟨id,h1,hm _ _ ak h2⟩
 | .boxp c,cs,h=>by
   have hp:(LV.boxp c).pure=true:=by
    simp only [Rep] at h;obtain⟨blk,off,cc,T,fz,part,rest,_,_,_,_,_,_,h7⟩:=h;simpa [LV.pure] using h7
   exact Rep.repure hz hf.z _ _ hp h
 | .clo f cap,cs,h=>by
   have hp:(LV.clo f cap).pure=true:=by
    simp only [Rep] at h;obtain⟨vs,_,_,h3⟩:=h;simpa [LV.pure] using h3
   exact Rep.repure hz hf.z _ _ hp h
 | .tup _,_,h=>by simp [Rep] at h
theorem RepFs.kill (hz:∀ id,Z id->Z' id) (hm:∀ c id,c≠b->μ c=some id->av c=some id) (hf:Frame Z μ w w') :
  ∀ (l:List LV) (cs:List Value),RepFs Z μ w l cs->RepFs Z' av w' (kills b l) cs
 | [],cs,h=>by simpa [RepFs,kills] using h
 | x :: xs,cs,h=>by
   simp only [RepFs,kills] at h ⊢;obtain⟨c1,c2,h1,h2,h3,h4⟩:=h;exact⟨c1,c2,h1,by rw [LV.kill_csize];exact h2,Rep.kill hz hm hf x c1 h3,RepFs.kill hz hm hf xs c2 h4⟩
end
theorem RepAll.kill {sz:Nat} (hz:∀ id,Z id->Z' id) (hm:∀ c id,c≠b->μ c=some id->av c=some id) (hf:Frame Z μ w w') :
  ∀ (l:List LV) (cs:List Value),RepAll Z μ w sz l cs->RepAll Z' av w' sz (kills b l) cs
 | [],cs,h=>by simpa [RepAll,kills] using h
 | x :: xs,cs,h=>by
   simp only [RepAll,kills] at h ⊢;obtain⟨c1,c2,h1,h2,h3,h4⟩:=h;exact⟨c1,c2,h1,h2,Rep.kill hz hm hf x c1 h3,RepAll.kill hz hm hf xs c2 h4⟩
theorem RepV1.kill (hz:∀ id,Z id->Z' id) (hm:∀ c id,c≠b->μ c=some id->av c=some id) (hf:Frame Z μ w w') {lv:LV} {v:Value}
  (h:RepV1 Z μ w lv v):RepV1 Z' av w' (lv.kill b) v :=
 ⟨fun e=>let ⟨cs,h1,h2⟩:=h.1 (by rwa [LV.kill_isAgg] at e);⟨cs,h1,Rep.kill hz hm hf _ _ h2⟩,fun e=>Rep.kill hz hm hf _ _ (h.2 (by rwa [LV.kill_isAgg] at e))⟩
theorem RepVL.kill (hz:∀ id,Z id->Z' id) (hm:∀ c id,c≠b->μ c=some id->av c=some id) (hf:Frame Z μ w w') :
  ∀ (l:List LV) (vs:List Value),RepVL Z μ w l vs->RepVL Z' av w' (kills b l) vs
 | [],_,h=>h
 | _ :: xs,_,⟨v,dK,h1,h2,h3⟩=>⟨v,dK,h1,h2.kill hz hm hf,RepVL.kill hz hm hf xs dK h3⟩
theorem RepV.kill (hz:∀ id,Z id->Z' id) (hm:∀ c id,c≠b->μ c=some id->av c=some id) (hf:Frame Z μ w w') {lv:LV} {v:Value}
  (h:RepV Z μ w lv v):RepV Z' av w' (lv.kill b) v:=by
 cases lv with
 | tup l=>obtain⟨vs,h1,h2⟩:=h;exact⟨vs,h1,RepVL.kill hz hm hf _ _ h2⟩
 | any=>trivial
 | _ =>
  refine RepV.of1 (fun l e=>?_) (RepV1.kill hz hm hf h);simp only [LV.kill] at e
  first
   | cases e
   | (split at e<;>cases e)
end
structure St where
 slot:Nat->LV
 heap:Heap
def St.ev (L:St):Operand->LV
 | .tmp t=>L.slot t
 | .const v=>if v.oneCell' then .v v else .any
 | .func f=>.clo f []
 | .global _=>.any
def St.put (L:St) (d:Option Nat) (r:LV):St :=
 match d with
 | some t=>⟨fun s=>bif iS s t then r else L.slot s,L.heap⟩
 | none=>L
theorem put_slot (L:St) (t:Nat) (r:LV) (s:Nat):(L.put (some t) r).slot s=if s=t then r else L.slot s:=by
 show (bif iS s t then r else L.slot s)=_;by_cases h:s=t
 ·subst h;simp
 have:iS s t=false:=by rw [<-Bool.not_eq_true,Nat.beq_eq];exact h
 rw [this,if_neg h];rfl
def St.setB (L:St) (b:Nat) (x:Option Blk):St:=⟨L.slot,fun c=>if c=b then x else L.heap c⟩
def St.kill (L:St) (b:Nat):St :=
 ⟨fun t=>(L.slot t).kill b,fun c=>if c=b then none else(L.heap c).map fun blk=>⟨blk.sz,kills b blk.vals,blk.mt⟩⟩
def Sim (n:Nat) (W:World) (X:XS) (Z0:Nat->Prop) (L:St) (a:Act) (w:World):Prop :=
 a.defers=[]/\a.tmps.size=n/\∃ μ Z,Core W X Z0 μ Z L.heap w/\∀ t,RepV Z μ w (L.slot t) (a.tmps.getD t undef)
inductive ArgM (H:Heap) (b:Nat):LV->LV->Prop
 | imm {x y} (h:Imm H x y):ArgM H b x y
 | ref {sz off len}:ArgM H b (.ref b sz off len) (.ref 0 sz off len)
 | ptr {sz i o}:ArgM H b (.eptr b sz i o) (.eptr 0 sz i o)
inductive ArgML (H:Heap) (b:Nat):List LV->List LV->Prop
 | nil:ArgML H b [] []
 | cons {x y xs ys} (h:ArgM H b x y) (t:ArgML H b xs ys):ArgML H b (x :: xs) (y :: ys)
inductive Names (b:Nat):List LV->Prop
 | ref {sz off len xs} (h:0<len):Names b (.ref b sz off len :: xs)
 | ptr {sz i o xs}:Names b (.eptr b sz i o :: xs)
 | tl {x xs} (h:Names b xs):Names b (x :: xs)
inductive OpM (P:Program) (L:St) (dst:Option Tmp):Op->St->Prop
 | call {f xs as args r b blk blk'} (hb:L.heap b=some blk) (hm:blk.mt=true) (hp:pures blk.vals=true) (ha:ArgML L.heap b (xs.toList.map L.ev) args) (hn:Names b (xs.toList.map L.ev)) (hk:CallOKM P f blk args r blk')
   (gp:blk'.mt=true) (dQ:pures blk'.vals=true) :
   OpM P L dst (.call ⟨.value (.func f),xs,as⟩) ((L.setB b (some blk')).put dst (r.ren fun _=>b))
 | appzC {T U E x y z k kl sz bu len cp n d b blk} (hT:P.underlying T=some (.slice E)) (hU:P.underlying U=some (.int k)) (hz:ZeroOK P E z) (hE:TyIs P E sz z.isAgg) (a7:z.csize=sz) (hb:TyBytes P E bu)
   (hx:L.ev x=.refc b sz 0 len cp) (dP:L.heap b=some blk) (hs:blk.sz=sz) (hlen:len<=blk.vals.length) (hy:L.ev y=.v (.int kl (n:Nat))) (cm:L.heap d=none) (hg:cp<len+n) (aT:0<sz) (hm:(len+n)*bu<=140737488355328) (ck:len+n<=4611686018427387904) :
   OpM P L dst (.call ⟨.builtin .append,#[x,y],#[T,U]⟩) ((L.setB d (some ⟨sz,blk.vals.take len++ai n z,true⟩)).put dst (.ref d sz 0 (len+n)))
 | ovl {f x y Tx Ty fn b c sz o1 n1 o2 n2 ag tS tR e} (hf:P.funcs[f]?=some fn) (fS:(fn.name== "runtime.NumGoroutine")=false) (hb:fn.body.isNone=true) (hn:Extern.findNext fn=none) (he:Extern.find fn=some (Extern.SlicesOverlaps.overlaps #[tS,tS] #[tR]))
   (ht:P.underlying tS=some (.slice e)) (hE:TyIs P e sz ag) (hx:L.ev x=.ref b sz o1 n1) (hy:L.ev y=.ref c sz o2 n2) (jQ:b≠c) (h1:0<n1) (h2:0<n2) (aT:0<sz) :
   OpM P L dst (.call ⟨.value (.func f),#[x,y],#[Tx,Ty]⟩) (L.put dst (.v (.bool false)))
inductive OpT (P:Program) (L:St) (dst:Option Tmp):Op->St->Prop
 | store {T p x b sz i o blk y y'} (hp:L.ev p=.eptr b sz i o) (hb:L.heap b=some blk) (hs:blk.sz=sz) (hm:blk.mt=true) (hi:blk.vals[i]?=some y) (hy:y.csize=sz)
   (fb:y.put o (L.ev x)=some y') (hT:TyIs P T (L.ev x).csize (L.ev x).isAgg) (ak:L.ev x≠.any/\∀ l,L.ev x≠.tup l) :
   OpT P L dst (.store T p x) ((L.setB b (some ⟨sz,blk.vals.set i y',true⟩)).put dst .any)
 | appX {T U E E' d b sz len blk x y news z bu} (hx:L.ev x=.ref b sz 0 len) (hb:L.heap b=some blk) (hs:blk.sz=sz) (hm:blk.mt=true) (hlen:len<=blk.vals.length) (cm:d=b\/L.heap d=none) (bC:b≠0)
   (hT:P.underlying T=some (.slice E)) (hU:P.underlying U=some (.slice E')) (hz:ZeroOK P E z) (hE:TyIs P E sz z.isAgg) (a7:z.csize=sz) (cU:TyBytes P E bu)
   (hy:(∃ c off bB,L.ev y=.ref c sz off news.length/\c≠b/\L.heap c=some bB/\bB.sz=sz/\off+news.length<=bB.vals.length/\news=(bB.vals.drop off).take news.length/\pures news=true) \/
    L.ev y=.list sz news\/(L.ev y=.v (.slice none 0 0)/\news=[]))
   (hsz:(len+news.length)*bu<=140737488355328) (ck:len+news.length<=4611686018427387904) (aT:0<sz) :
   OpT P L dst (.call ⟨.builtin .append,#[x,y],#[T,U]⟩) (((L.kill b).setB d (some ⟨sz,kills b (blk.vals.take len++news),true⟩)).put dst (.ref d sz 0 (len+news.length)))
 | app0X {T U E E' d sz x y news z bu} (hx:L.ev x=.v (.slice none 0 0)) (cm:L.heap d=none)
   (hT:P.underlying T=some (.slice E)) (hU:P.underlying U=some (.slice E')) (hz:ZeroOK P E z) (hE:TyIs P E sz z.isAgg) (a7:z.csize=sz) (cU:TyBytes P E bu)
   (hy:(∃ c off bB,L.ev y=.ref c sz off news.length/\L.heap c=some bB/\bB.sz=sz/\off+news.length<=bB.vals.length/\news=(bB.vals.drop off).take news.length/\pures news=true) \/
    L.ev y=.list sz news)
   (hn:0<news.length) (hsz:news.length*bu<=140737488355328) (ck:news.length<=4611686018427387904) (aT:0<sz) :
   OpT P L dst (.call ⟨.builtin .append,#[x,y],#[T,U]⟩) ((L.setB d (some ⟨sz,news,true⟩)).put dst (.ref d sz 0 news.length))
 | clr {T E x b sz off n blk z} (hx:L.ev x=.ref b sz off n) (hb:L.heap b=some blk) (hs:blk.sz=sz) (hm:blk.mt=true) (hl:off+n<=blk.vals.length) (hT:P.underlying T=some (.slice E)) (hz:ZeroOK P E z) (a7:z.csize=sz) :
   OpT P L dst (.call ⟨.builtin .clear,#[x],#[T]⟩) ((L.setB b (some ⟨sz,blk.vals.take off++ai n z++blk.vals.drop (off+n),true⟩)).put dst .any)
 | cpyG {T U E E' x y b sz off n1 blk c off2 n2 bB news ag} (hx:L.ev x=.ref b sz off n1) (hb:L.heap b=some blk) (hs:blk.sz=sz) (hm:blk.mt=true) (hl:off<=blk.vals.length) (hT:P.underlying T=some (.slice E)) (hU:P.underlying U=some (.slice E')) (hE:TyIs P E sz ag)
   (hy:L.ev y=.ref c sz off2 n2) (hc:L.heap c=some bB) (oG:bB.sz=sz) (hn:news.length=Nat.min n2 n1) (h0:0<news.length) (gI:off2+news.length<=bB.vals.length) (kN:news=(bB.vals.drop off2).take news.length) :
   OpT P L dst (.call ⟨.builtin .copy,#[x,y],#[T,U]⟩) ((L.setB b (some ⟨sz,blk.vals.take off++news++blk.vals.drop (off+news.length),true⟩)).put dst .any)
theorem OpT.app {P:Program} {L:St} {dst:Option Tmp} {T:TypeId} {U:TypeId} {E:TypeId} {E':TypeId} {d:Nat} {b:Nat} {sz:Nat} {len:Nat} {blk:Blk} {x:Operand} {y:Operand} {news:List LV} {z:LV} {bu:Nat} (hd:dst=some d) (hx:L.ev x=.ref b sz 0 len) (hb:L.heap b=some blk) (hs:blk.sz=sz) (hm:blk.mt=true) (hlen:len<=blk.vals.length) (cm:d=b\/L.heap d=none) (bC:b≠0)
   (hT:P.underlying T=some (.slice E)) (hU:P.underlying U=some (.slice E')) (hz:ZeroOK P E z) (hE:TyIs P E sz z.isAgg) (a7:z.csize=sz) (cU:TyBytes P E bu)
   (hy:(∃ c off bB,L.ev y=.ref c sz off news.length/\c≠b/\L.heap c=some bB/\bB.sz=sz/\off+news.length<=bB.vals.length/\news=(bB.vals.drop off).take news.length/\pures news=true) \/
    L.ev y=.list sz news\/(L.ev y=.v (.slice none 0 0)/\news=[]))
   (hsz:(len+news.length)*bu<=140737488355328) (ck:len+news.length<=4611686018427387904) (aT:0<sz) :
  OpT P L dst (.call ⟨.builtin .append,#[x,y],#[T,U]⟩) (((L.kill b).setB d (some ⟨sz,kills b (blk.vals.take len++news),true⟩)).put dst (.ref d sz 0 (len+news.length))):=.appX hx hb hs hm hlen cm bC hT hU hz hE a7 cU hy hsz ck aT
section
variable {P:Program} {W w w':World} {X:XS} {Z0 Z:Nat->Prop} {μ:Nat->Option Nat} {H:Heap} {a:Act} {L L':St} {n:Nat}
theorem ev_rep (h:∀ t,RepV Z μ w (L.slot t) (a.tmps.getD t undef)) (x:Operand):RepV Z μ w (L.ev x) (a.eval x):=by
 cases x with
 | tmp t=>exact h t
 | const v =>
  simp only [St.ev,Act.eval];split
  ·exact RepV.v (by assumption)
  trivial
 | func f =>
  simp only [St.ev,Act.eval];exact⟨by simp [LV.isAgg],fun _=>by simp [Rep,RepAll,pures]⟩
 | global g=>simp only [St.ev];trivial
theorem put_rep {d:Option Nat} {r:LV} {v:Value} (hd:∀ t,d=some t->t<a.tmps.size) (h:∀ t,RepV Z μ w (L.slot t) (a.tmps.getD t undef)) (hv:RepV Z μ w r v) :
  ∀ t,RepV Z μ w ((L.put d r).slot t) ((a.put d v).tmps.getD t undef):=by
 intro t
 cases d with
 | none=>exact h t
 | some s =>
  rw [put_slot];simp only [Act.put];by_cases hts:t=s
  ·subst hts;have:=hd t rfl;simp [this];exact hv
  have:=h t;simp only [hts,if_false,aM,bR (Ne.symm hts)] at this ⊢;exact this
theorem put_size (a:Act) (d:Option Nat) (v:Value):(a.put d v).tmps.size=a.tmps.size:=by cases d<;>simp [Act.put]
theorem put_defers (a:Act) (d:Option Nat) (v:Value):(a.put d v).defers=a.defers:=by cases d<;>rfl
theorem put_heap (L:St) (d:Option Nat) (r:LV):(L.put d r).heap=L.heap:=by cases d<;>rfl
end
end Go.Lg
namespace Go.Lg
section
variable {P:Program} {W w w':World} {X:XS} {Z0 Z:Nat->Prop} {μ:Nat->Option Nat} {H:Heap} {a:Act} {L L':St} {n:Nat}
theorem Core.rewrite {b id:Nat} {blk blk':Blk} {c c':Array Value} {T:TypeId} {part rest:List Value} (hc:Core W X Z0 μ Z H w) (hb:μ b=some id) (hH:H b=some blk) (hm:blk.mt=true) (gp:blk'.mt=true)
  (hcell:w.heap[id]?=some (.cells c T (0,0))) (hsz:c'.size=c.size) (h1:c'.toList=part++rest) (h2:RepAll Z μ w blk'.sz blk'.vals part)
  (hw:w'=w.setRow id c') :
  Core W X Z0 μ Z (fun k=>if k=b then some blk' else H k) w'/\Frame Z μ w w':=by
 subst hw;have rn:(w.setRow id c').heap[id]?=some (.cells c' T (0,0)):=setRow_heap w id c c' T (0,0) hcell;have mN:∀ k,k≠id->(w.setRow id c').heap[k]?=w.heap[k]?:=fun k hk=>by
  simp only [World.setRow,adJ,if_neg (Ne.symm hk)]
 have vj:(w.setRow id c').heap.size=w.heap.size:=by simp [World.setRow]
 have jD:¬ Z id:=hc.mutz b id blk hb hH hm;have aY:Frame Z μ w (w.setRow id c'):=by
  refine⟨fun k hk=>mN k (fun e=>jD (e ▸ hk)),fun b' k hk cc T' fz jv=>?_⟩;by_cases e:k=id
  ·subst e;rw [hcell] at jv;cases jv;exact⟨c',rn,hsz⟩
  exact⟨cc,(mN k e).trans jv,rfl⟩
 refine⟨⟨?_,fun k hk=>by rw [vj];exact hc.zone k hk,hc.zsup,hc.zsub,hc.inj,hc.own,hc.x0,hc.xlt,hc.x1,?_,?_,?_⟩,aY⟩
 ·refine⟨hc.keep.os,hc.keep.tape,hc.keep.output,by rw [vj];exact hc.keep.size,fun k hk hx=>?_,fun k hx c0 T0 fz0 h0=>?_⟩;have:k≠id:=by
   rintro rfl;rcases hc.own b k hb with h | h
   ·omega
   exact hx h
  exact(mN k this).trans (hc.keep.block k hk hx);obtain⟨c1,g1,g2⟩:=hc.keep.xsz k hx c0 T0 fz0 h0;by_cases e:k=id
  ·subst e;rw [hcell] at g1;cases g1;exact⟨c',rn,hsz.trans g2⟩
  exact⟨c1,(mN k e).trans g1,g2⟩
 ·intro b' k bk h g bE;by_cases e:b'=b
  ·subst e;rw [hb] at h;cases h;exact jD
  rw [if_neg e] at g;exact hc.mutz b' k bk h g bE
 ·intro b' k bk h g bE;by_cases e:b'=b
  ·subst e;rw [if_pos rfl] at g;cases g;rw [gp] at bE;cases bE
  rw [if_neg e] at g;exact hc.frz b' k bk h g bE
 intro b' k h;by_cases e:b'=b
 ·subst e;rw [hb] at h;cases h;exact⟨blk',if_pos rfl,c',T,part,rest,rn,h1,h2.mono (fun _ h=>h) (fun _ _ h=>h) aY⟩
 obtain⟨bk,g1,g2⟩:=hc.heap b' k h;have ak:k≠id:=fun e'=>e (hc.inj b' b k h (e' ▸ hb));exact⟨bk,by rw [if_neg e];exact g1,g2.mono (fun _ h=>h) (fun _ _ h=>h) aY (mN k ak)⟩
theorem run_storeVar_at {T:TypeId} {id off:Nat} {c:Array Value} {U:TypeId} {v:Value} {sz:Nat} {ag:Bool} (hT:TyIs P T sz ag) (hcell:w.heap[id]?=some (.cells c U (0,0)))
  (hv:v.cells.size=sz) (h1:∀ u∈v.cells.toList,u.oneCell'=true) (kZ:off+sz<=c.size) :
  (storeVar T ⟨id,off,none⟩ v).run P w=.ok () (w.setRow id (c.toList.take off++v.cells.toList++c.toList.drop (off+sz)).toArray):=by
 have:=run_storeCells_at P id off U v.cells.toList 0 c w hcell al h1;simp only [storeVar,Sem.run_bind,run_sizeOf hT,Result.andThen_ok,hv,ne_eq,not_true_eq_false,if_false,Sem.run_ite];simpa [hv] using this
theorem store_sound {T:TypeId} {p x:Operand} {b sz i o:Nat} {blk:Blk} {y y':LV} (hc:Core W X Z0 μ Z L.heap w) (hr:∀ t,RepV Z μ w (L.slot t) (a.tmps.getD t undef))
  (hp:L.ev p=.eptr b sz i o) (hb:L.heap b=some blk) (hs:blk.sz=sz) (hm:blk.mt=true) (hi:blk.vals[i]?=some y) (hy:y.csize=sz)
  (fb:y.put o (L.ev x)=some y') (hT:TyIs P T (L.ev x).csize (L.ev x).isAgg) (ak:L.ev x≠.any/\∀ l,L.ev x≠.tup l)
  (dst:Option Tmp) (ty:TypeId) (pos:String) (after:Array Edge) (g:Option (Nat × Bool)) :
  ∃ w',(execOp a.eval ⟨dst,.store T p x,ty,pos,after,g⟩).run P w=.ok .skip w'/\Core W X Z0 μ Z (L.setB b (some ⟨sz,blk.vals.set i y',true⟩)).heap w'/\Frame Z μ w w':=by
 have e1:=ev_rep (L:=L) hr p;rw [hp] at e1;have e2:=e1.2 rfl;simp only [Rep] at e2;obtain⟨id,h1,h2⟩:=e2;simp only [b7,and_true] at h1;obtain⟨blk',lF,c,U,part,rest,q1,q2,q3⟩:=hc.heap b id h2;rw [hb] at lF;cases lF;obtain⟨c1,c2,c3,_⟩:=(RepV.to1 ak.2 ak.1 (ev_rep (L:=L) hr x)).cells ak.1;obtain⟨pre,ch,post,g1,g2,g3,g4,g5⟩:=RepAll.get blk.vals part i y q3 hi;obtain⟨oa,lL,lW,j1,j2,j3,j4,j5⟩:=LV.put_spec (L.ev x) (a.eval x).cells.toList c1 (by simpa using c2) y o y' ch fb g4 (by rw [g3,hs,hy]);have fk:=g5 y' _ j4 (by
  have:=congrArg List.length j1;simp only [cZ] at this ⊢;omega)
 have hlen:c.toList.length=pre.length+(oa.length+(lL.length+lW.length)+post.length)+rest.length:=by
  rw [q2,g1,j1];simp;omega
 have kZ:i*sz+o+(L.ev x).csize<=c.size:=by
  rw [<-gG,hlen];rw [hs] at g2;have:lL.length=(L.ev x).csize:=by rw [j3];simpa using c2
  omega
 have bV:=run_storeVar_at (P:=P) (id:=id) (off:=i*sz+o) hT q1 c2 c3 kZ;have fo:(c.toList.take (i*sz+o)++(a.eval x).cells.toList++c.toList.drop (i*sz+o+(L.ev x).csize))=(pre++((oa++((a.eval x).cells.toList++lW))++post))++rest:=by
  rw [q2,g1,j1];have en:i*sz+o=(pre++oa).length:=by rw [hs] at g2;simp;omega
  have gI:(L.ev x).csize=lL.length:=by rw [j3];simpa using c2.symm
  rw [en,gI];have e:(pre++(oa++(lL++lW)++post))++rest=(pre++oa)++(lL++(lW++(post++rest))):=aj;rw [e,zh];have e2:List.drop ((pre++oa).length+lL.length) ((pre++oa)++(lL++(lW++(post++rest))))=lW++(post++rest):=by
   rw [<-je,tz,tz]
  rw [e2];simp
 rw [fo] at bV;have hcs:c.size=c.toList.length:=gG.symm;have hA:(a.eval x).cells.toList.length=lL.length:=j3.symm;obtain⟨k1,k2⟩:=Core.rewrite (w':=w.setRow id ((pre++((oa++((a.eval x).cells.toList++lW))++post))++rest).toArray) (blk':=⟨sz,blk.vals.set i y',true⟩)
  (part:=pre++((oa++((a.eval x).cells.toList++lW))++post)) (rest:=rest) hc h2 hb hm rfl q1
  (by rw [hcs,hlen];simp only [rP,cZ,hA]) aj (by rw [<-hs];exact fk) rfl
 exact⟨_,by simp only [execOp,h1,Instr.storeAt,Instr.sureAddr,Sem.run_bind,Sem.run_pure,Result.andThen_ok,bV],k1,k2⟩
theorem ArgM.sound {b i0:Nat} (hc:Core W X Z0 μ Z H w) (hb:μ b=some i0) {x y:LV} {v:Value} (h:ArgM H b x y) (hr:RepV Z μ w x v):RepV1 Z (mu0 i0) w y v:=by
 cases h with
 | imm h=>exact Imm.soundV hc h hr
 | ref =>
  have:=hr.2 rfl;refine⟨by simp [LV.isAgg],fun _=>?_⟩;simp only [Rep] at this ⊢;rcases this with h | ⟨id,cap,c,T,fz,h1,h2,h3⟩
  ·exact gR
  rw [hb] at h2;cases h2;exact .inr ⟨i0,cap,c,T,fz,h1,rfl,h3⟩
 | ptr =>
  have:=hr.2 rfl;refine⟨by simp [LV.isAgg],fun _=>?_⟩;simp only [Rep] at this ⊢;obtain⟨id,h1,h2⟩:=this;rw [hb] at h2;cases h2;exact⟨i0,h1,rfl⟩
theorem ArgM.ne {b:Nat} {x y:LV} (h:ArgM H b x y):(x≠.any/\∀ m,x≠.tup m):=by
 cases h with
 | imm h=>exact h.ne
 | ref=>exact⟨by simp,by simp⟩
 | ptr=>exact⟨by simp,by simp⟩
theorem argML_args {b i0:Nat} (hc:Core W X Z0 μ Z H w) (hb:μ b=some i0) {ρ:Operand->LV}:∀ (xs:List Operand) (args:List LV),ArgML H b (xs.map ρ) args->(∀ x∈xs,RepV Z μ w (ρ x) (a.eval x)) ->
  RepVL Z (mu0 i0) w args (xs.map a.eval)
 | [],_,h,_=>by cases h;rfl
 | x :: xs,_,h,hr=>by
   cases h with
   | cons h t=>exact⟨_,_,rfl,h.sound hc hb (hr x aj),argML_args hc hb xs _ t (fun y hy=>hr y (by simp [hy]))⟩
theorem Names.mu {b:Nat} {ρ:Operand->LV}:∀ (xs:List Operand),Names b (xs.map ρ)->(∀ x∈xs,RepV Z μ w (ρ x) (a.eval x))->∃ id,μ b=some id
 | [],h,_=>by cases h
 | x :: xs,h,hr=>by
   have h1:=hr x aj;generalize hq:ρ x=q at h h1;simp only [gA,hq] at h
   cases h with
   | ref hl =>
    have:=h1.2 rfl;simp only [Rep] at this;rcases this with⟨_,h⟩ | ⟨id,_,_,_,_,_,h2,_⟩
    ·omega
    exact⟨id,h2⟩
   | ptr =>
    have:=h1.2 rfl;simp only [Rep] at this;obtain⟨id,_,h2⟩:=this;exact⟨id,h2⟩
   | tl h=>exact Names.mu xs h (fun y hy=>hr y (by simp [hy]))
theorem callM_sound {f:FuncId} {xs:Array Operand} {as:Array TypeId} {args:List LV} {r:LV} {b:Nat} {blk blk':Blk} {dst:Option Tmp} {ty:TypeId} {pos:String} {af:Array Edge} {g:Option (Nat × Bool)}
  {K:Act->World->Prop} {Q:Exit->Act->World->Prop}
  (hc:Core W X Z0 μ Z L.heap w) (hr:∀ t,RepV Z μ w (L.slot t) (a.tmps.getD t undef)) (hb:L.heap b=some blk) (hm:blk.mt=true) (hp:pures blk.vals=true)
  (ha:ArgML L.heap b (xs.toList.map L.ev) args) (hn:Names b (xs.toList.map L.ev)) (hk:CallOKM P f blk args r blk') (gp:blk'.mt=true) (dQ:pures blk'.vals=true)
  (hK:∀ v w' Z',Core W X Z0 μ Z' (L.setB b (some blk')).heap w'->(∀ t,RepV Z' μ w' (L.slot t) (a.tmps.getD t undef))->RepV Z' μ w' (r.ren fun _=>b) v->K (a.put dst v) w') :
  (Oper.mk dst (.call ⟨.value (.func f),xs,as⟩) ty pos af g).wp P a w K Q:=by
 obtain⟨i0,jY⟩:=Names.mu (μ:=μ) (Z:=Z) (w:=w) (a:=a) xs.toList hn (fun x _=>ev_rep (L:=L) hr x);have hargs:=argML_args (a:=a) hc jY xs.toList args ha (fun x _=>ev_rep (L:=L) hr x);have bV:(execOp a.eval (Oper.mk dst (.call ⟨.value (.func f),xs,as⟩) ty pos af g)).run P w=.ok (.enter f (xs.map a.eval)) w:=by
  have:=callFunc_run (P:=P) (w:=w) (args:=xs.map a.eval) hk.1;simp only [execOp,resolve,Act.eval,Deferred.ofValue,Sem.run_bind,Sem.run_pure,Result.andThen_ok,invoke];simpa using this
 unfold Oper.wp;rw [bV,Oper.upon_enter];obtain⟨xY,g1,g2⟩:=hc.heap b i0 jY;rw [hb] at g1;cases g1;have fW:BlkRep Z (mu0 i0) w blk i0:=by
  obtain⟨c,T,part,rest,q1,q2,q3⟩:=g2;exact⟨c,T,part,rest,q1,q2,RepAll.repure (fun _ h=>h) (fun _ _=>rfl) _ _ _ hp q3⟩
 have:=hk.2 w Z (xs.toList.map a.eval) i0 hc.zone (hc.mutz b i0 blk jY hb hm) fW hargs;rw [show (xs.toList.map a.eval).toArray=xs.map a.eval from by apply l8;simp] at this;refine this.mono ?_;rintro e w' ⟨v,a5,Zr,rfl,lG,hv⟩;obtain⟨Z',h1,h2,h3,h4,h5⟩:=hc.callM jY hb hm gp dQ lG;refine hK v w' Z' h1 (fun t=>(hr t).mono h3 (fun _ _ h=>h) h4) ?_;exact(hv.mono h2 (fun _ _ h=>h) ⟨fun _ _=>rfl,(Frame.refl Zr a5 w').m⟩).ren (fun _=>b) (fun k id h=>by obtain⟨rfl,rfl⟩:=h5 k id h;exact jY)
end
end Go.Lg
namespace Go.Lg
section
variable {P:Program} {W w w':World} {X:XS} {Z0 Z:Nat->Prop} {μ:Nat->Option Nat} {H:Heap} {a:Act} {L L':St} {n:Nat}
def drop1 (μ:Nat->Option Nat) (b:Nat):Nat->Option Nat:=fun c=>if c=b then none else μ c
theorem Core.kill (b:Nat) (bC:b≠0) (hc:Core W X Z0 μ Z L.heap w):Core W X Z0 (drop1 μ b) Z (L.kill b).heap w:=by
 have hinv:∀ c id,drop1 μ b c=some id->c≠b/\μ c=some id:=fun c id h=>by
  unfold drop1 at h;split at h
  ·cases h
  exact⟨by assumption,h⟩
 have hH:∀ c blk,(L.kill b).heap c=some blk->c≠b->∃ bk,L.heap c=some bk/\blk=⟨bk.sz,kills b bk.vals,bk.mt⟩:=fun c blk h ak=>by
  simp only [St.kill,if_neg ak,oz] at h;obtain⟨bk,h1,h2⟩:=h;exact⟨bk,h1,h2.symm⟩
 refine⟨hc.keep,hc.zone,hc.zsup,hc.zsub,?_,?_,?_,hc.xlt,fun id h=>by simp only [drop1,if_neg (Ne.symm bC)];exact hc.x1 id h,?_,?_,?_⟩
 ·intro c c' id h h';exact hc.inj c c' id (hinv c id h).2 (hinv c' id h').2
 ·intro c id h;exact hc.own c id (hinv c id h).2
 ·intro c id h;exact hc.x0 c id (hinv c id h).2
 ·intro c id blk h g hm;obtain⟨bk,g1,rfl⟩:=hH c blk g (hinv c id h).1;exact hc.mutz c id bk (hinv c id h).2 g1 hm
 ·intro c id blk h g hm;obtain⟨bk,g1,rfl⟩:=hH c blk g (hinv c id h).1;exact hc.frz c id bk (hinv c id h).2 g1 hm
 intro c id h;obtain⟨ak,h1⟩:=hinv c id h;obtain⟨bk,g1,cc,T,part,rest,g2,g3,g4⟩:=hc.heap c id h1;refine⟨⟨bk.sz,kills b bk.vals,bk.mt⟩,by simp [St.kill,ak,g1],cc,T,part,rest,g2,g3,?_⟩;exact RepAll.kill (fun _ h=>h) (fun k id hk h=>by simp [drop1,hk,h]) (Frame.refl _ _ _) _ _ g4
theorem kill_rep (b:Nat) (hr:∀ t,RepV Z μ w (L.slot t) (a.tmps.getD t undef)):∀ t,RepV Z (drop1 μ b) w ((L.kill b).slot t) (a.tmps.getD t undef):=fun t =>
 RepV.kill (fun _ h=>h) (fun k id hk h=>by simp [drop1,hk,h]) (Frame.refl _ _ _) (hr t)
theorem Core.attach {d id:Nat} {blk:Blk} {c c':Array Value} {T:TypeId} {part rest:List Value} (hc:Core W X Z0 μ Z H w) (hd:μ d=none) (hm:blk.mt=true)
  (fX:∀ k,μ k≠some id) (jD:¬ Z id) (aC:W.heap.size<=id\/X.y id) (hsz:c'.size=c.size)
  (hcell:w.heap[id]?=some (.cells c T (0,0))) (h1:c'.toList=part++rest) (h2:RepAll Z μ w blk.sz blk.vals part)
  (hw:w'=w.setRow id c') :
  Core W X Z0 (upd μ d id) Z (fun k=>if k=d then some blk else H k) w'/\Frame Z μ w w'/\(∀ b k,μ b=some k->upd μ d id b=some k)/\w'.heap[id]?=some (.cells c' T (0,0)):=by
 subst hw;have rn:(w.setRow id c').heap[id]?=some (.cells c' T (0,0)):=setRow_heap w id c c' T (0,0) hcell;have mN:∀ k,k≠id->(w.setRow id c').heap[k]?=w.heap[k]?:=fun k hk=>by
  simp only [World.setRow,adJ,if_neg (Ne.symm hk)]
 have vj:(w.setRow id c').heap.size=w.heap.size:=by simp [World.setRow]
 have aY:Frame Z μ w (w.setRow id c') :=
  ⟨fun k hk=>mN k (fun e=>jD (e ▸ hk)),fun b' k hk cc T' fz jv=>⟨cc,(mN k (fun e=>fX b' (e ▸ hk))).trans jv,rfl⟩⟩
 have oY:∀ b k,μ b=some k->upd μ d id b=some k:=fun b k h=>by
  unfold upd;split
  ·subst_vars;rw [hd] at h;cases h
  exact h
 have hinv:∀ b k,upd μ d id b=some k->(b=d/\k=id)\/(b≠d/\μ b=some k):=fun b k h=>by
  unfold upd at h;split at h
  ·cases h;exact .inl ⟨by assumption,rfl⟩
  exact .inr ⟨by assumption,h⟩
 refine⟨⟨?_,fun k hk=>by rw [vj];exact hc.zone k hk,hc.zsup,hc.zsub,?_,?_,?_,hc.xlt,fun k h=>oY 0 k (hc.x1 k h),?_,?_,?_⟩,aY,oY,rn⟩
 ·exact⟨hc.keep.os,hc.keep.tape,hc.keep.output,by rw [vj];exact hc.keep.size,fun k hk hx=>(mN k (by
    rintro rfl;rcases aC with h | h
    ·omega
    exact hx (.inr h))).trans (hc.keep.block k hk hx),
   fun k hx c0 T0 fz0 h0=>by
    obtain⟨c1,g1,g2⟩:=hc.keep.xsz k hx c0 T0 fz0 h0;by_cases e:k=id
    ·subst e;rw [hcell] at g1;cases g1;exact⟨c',rn,hsz.trans g2⟩
    exact⟨c1,(mN k e).trans g1,g2⟩⟩
 ·intro b b' k h h';rcases hinv b k h with⟨rfl,rfl⟩ | ⟨n1,h3⟩<;>rcases hinv b' _ h' with⟨rfl,e⟩ | ⟨n2,h4⟩
  ·rfl
  ·exact absurd h4 (fX b')
  ·exact absurd (e ▸ h3) (fX b)
  exact hc.inj b b' k h3 h4
 ·intro b k h;rcases hinv b k h with⟨rfl,rfl⟩ | ⟨n1,h3⟩
  ·exact aC.imp (fun h=>h) .inr
  exact hc.own b k h3
 ·intro b k h hx;rcases hinv b k h with⟨rfl,rfl⟩ | ⟨n1,h3⟩
  ·exact absurd (hc.x1 _ hx) (fX 0)
  exact hc.x0 b k h3 hx
 ·intro b k bk h g bE;rcases hinv b k h with⟨rfl,rfl⟩ | ⟨n1,h3⟩
  ·exact jD
  rw [if_neg n1] at g;exact hc.mutz b k bk h3 g bE
 ·intro b k bk h g bE;rcases hinv b k h with⟨rfl,rfl⟩ | ⟨n1,h3⟩
  ·rw [if_pos rfl] at g;cases g;rw [hm] at bE;cases bE
  rw [if_neg n1] at g;exact hc.frz b k bk h3 g bE
 intro b k h;rcases hinv b k h with⟨rfl,rfl⟩ | ⟨n1,h3⟩
 ·exact⟨blk,if_pos rfl,c',T,part,rest,rn,h1,h2.mono (fun _ h=>h) oY aY⟩
 obtain⟨bk,g1,g2⟩:=hc.heap b k h3;exact⟨bk,by rw [if_neg n1];exact g1,g2.mono (fun _ h=>h) oY aY (mN k (fun e=>fX b (e ▸ h3)))⟩
theorem src_of {U E':TypeId} {y:Operand} {news:List LV} {sz:Nat} (hc:Core W X Z0 μ Z L.heap w) (hr:∀ t,RepV Z μ w (L.slot t) (a.tmps.getD t undef)) (hU:P.underlying U=some (.slice E'))
  (hy:(∃ c off bB,L.ev y=.ref c sz off news.length/\L.heap c=some bB/\bB.sz=sz/\off+news.length<=bB.vals.length/\news=(bB.vals.drop off).take news.length) \/
    L.ev y=.list sz news\/(L.ev y=.v (.slice none 0 0)/\news=[])) :
  ∃ cells,Src P sz U (a.eval y) news.length cells w/\RepAll Z μ w sz news cells:=by
 have e1:=ev_rep (L:=L) hr y;have one:∀ (l:List LV) (cs:List Value),RepAll Z μ w sz l cs->∀ u∈cs,u.oneCell'=true:=by
  intro l
  induction l with
  | nil=>intro cs h;simp only [RepAll] at h;simp [h]
  | cons x xs ih =>
   intro cs h u hu;simp only [RepAll] at h;obtain⟨c1,c2,rfl,h2,h3,h4⟩:=h;rcases eF.1 hu with hu | hu
   ·exact Rep.one _ _ h3 u hu
   exact ih c2 h4 u hu
 rcases hy with⟨cc,off,bB,h1,h2,h3,h4,h5⟩ | h1 | ⟨h1,rfl⟩
 ·rw [h1] at e1;have e2:=e1.2 rfl;simp only [Rep] at e2;rcases e2 with⟨q1,q2⟩ | ⟨id,cap,c,T,fz,q1,q2,q3,q4,q5⟩
  ·simp only [b7,and_true] at q1;have aaZ:=jB q2;subst aaZ;refine⟨[],?_,by simp [RepAll]⟩;rw [q1];exact Src.ofNil w hU 0
  simp only [b7,and_true] at q1;obtain⟨bk,g1,c',T',part,rest,g2,g3,g4⟩:=hc.heap cc id q2;rw [h2] at g1;cases g1;rw [q4] at g2;cases g2;obtain⟨c1,c2,d1,d2,d3⟩:=RepAll.split (bB.vals.take off) (bB.vals.drop off) part rK;obtain⟨c3,c4,d4,d5,d6⟩:=RepAll.split ((bB.vals.drop off).take news.length) ((bB.vals.drop off).drop news.length) c2 (by rw [kK];exact d3);rw [<-h5,h3] at d5;have en:=RepAll.length _ _ d2;rw [bZ,eP J,h3] at en;have oN:=range_of (w:=w) (off:=off*sz) (part:=c3) (rest:=c4++rest) q4 (by rw [g3,d1,d4,<-en];simp);refine⟨c3,?_,d5⟩;rw [q1];exact Src.ofSlice w hU _ _ _ c3 (RepAll.length _ _ d5) (fun j u hj=>by rw [Addr.add_mid];exact oN j u hj) (one _ _ d5)
 ·rw [h1] at e1;have e2:=e1.2 rfl;simp only [Rep] at e2;obtain⟨ad,len,cap,q1,q2,q3,q4,_⟩:=e2;simp only [b7,and_true] at q1;rcases q4 with q4 | ⟨blk,off,c,T,fz,part,rest,g1,g2,g3,g4,g5⟩
  ·subst q4;simp at q2;subst q2;refine⟨[],?_,rfl⟩;rw [q1]
   cases ad with
   | none=>exact Src.ofNil w hU cap
   | some ad=>exact Src.ofSlice w hU ad 0 cap [] aj aj aj
  subst g1;have oN:=range_of (w:=w) (part:=part) (rest:=rest) g3 g4;refine⟨part,?_,g5⟩;rw [q1,q2];exact Src.ofSlice w hU _ _ _ part (RepAll.length _ _ g5) (fun j u hj=>by rw [Addr.add_mid];exact oN j u hj) (one _ _ g5)
 rw [h1] at e1;have e2:=e1.v_eq;refine⟨[],?_,rfl⟩;rw [e2];exact Src.ofNil w hU 0
theorem le_set {d:Nat} {blk:Blk} {H:Heap} (hd:H d=none):H.le (fun k=>if k=d then some blk else H k):=fun b bk h=>by
 have:b≠d:=by rintro rfl;rw [hd] at h;cases h
 exact⟨bk.mt,by simp only [if_neg this];exact h,fun h=>h,fun h1 h2=>by rw [h1] at h2;cases h2⟩
theorem setCells_setRow {g o:Nat} {T:TypeId} {vs:List Value} {cur:Array Value} (hg:w.heap[g]?=some (.cells cur T (0,0))) (hl:o+vs.length<=cur.size) (h1:∀ v∈vs,v.oneCell'=true) :
  w.setCells g o vs=w.setRow g (cur.toList.take o++vs++cur.toList.drop (o+vs.length)).toArray:=by
 have a:=run_storeCells_at (default:Program) g o T vs 0 cur w hg (by simpa using hl) h1;have hc:∀ j,j<vs.length->(w.cell? ⟨g,o+j,none⟩).isSome=true:=fun j hj=>by
  rw [cell_of_row w g (o+j) cur T (0,0) hg,jV J];rfl
 have hf:∀ j,j<vs.length->w.frozen? ⟨g,o+j,none⟩=false:=fun j hj=>by simp [World.frozen?,hg]
 have b:=run_storeCells_cells (P:=(default:Program)) g o vs 0 w (by simpa using hc) (by simpa using hf) h1;rw [b] at a;simp only [iH,Result.ok.injEq,true_and] at a;exact a
theorem grow_sound {T U E ty:TypeId} {d sz:Nat} {news olds:List LV} {z:LV} {bu:Nat} {oldc ca:List Value} {base:Option Addr} {sLen sCap:Nat} {xv yv:Value}
  (hc:Core W X Z0 μ Z H w) (hd:H d=none) (hT:P.underlying T=some (.slice E)) (hz:ZeroOK P E z) (hE:TyIs P E sz z.isAgg) (a7:z.csize=sz) (cU:TyBytes P E bu)
  (hx:xv=.slice base sLen sCap) (hold:(Builtin.firstCells sz sLen (.slice base sLen sCap)).run P w.drew=.ok oldc.toArray w.drew)
  (hs:Src P sz U yv news.length ca w) (ho:RepAll Z μ w sz olds oldc) (aP:olds.length=sLen) (hn:RepAll Z μ w sz news ca)
  (hg:sCap<sLen+news.length) (hsz:(sLen+news.length)*bu<=140737488355328) (ck:sLen+news.length<=4611686018427387904) :
  ∃ v w' av Z',(Builtin.append_ #[T,U] ty #[xv,yv]).run P w=.ok v w'/\Core W X Z0 av Z' (fun k=>if k=d then some ⟨sz,olds++news,true⟩ else H k) w' /\
   (∀ id,Z id->Z' id)/\(∀ b id,μ b=some id->av b=some id)/\Frame Z μ w w'/\RepV Z' av w' (.ref d sz 0 (sLen+news.length)) v:=by
 obtain⟨i,zv,z1,z2,z3,z4⟩:=hz;have mB:i.size=sz:=by have:=hE.1;rw [z1] at this;simpa using this
 have wW:i.bytes=bu:=by obtain⟨i',g1,g2⟩:=cU;rw [z1] at g1;cases g1;exact g2
 have oZ:=nextslicecap_le hg;have kZ:Builtin.nextslicecap (sLen+news.length) sCap*i.bytes<=281474976710656:=by
  rw [wW]
  calc Builtin.nextslicecap (sLen+news.length) sCap*bu<=(2*(sLen+news.length))*bu:=bw _ oZ
   _=2*((sLen+news.length)*bu):=by rw [bW]
   _<=281474976710656:=by omega
 subst hx;have bV:=run_append_grow_src (P:=P) w T U ty E i zv hT z1 z2 base sLen sCap oldc (by rw [mB];exact hold) yv news.length ca (by rw [mB];exact hs) hg J kZ;have vN:μ d=none:=by
  cases hq:μ d with
  | none=>rfl
  | some id=>obtain⟨bk,g,_⟩:=hc.heap d id hq;rw [hd] at g;cases g
 have mf:zv.cells.size=sz:=by
  have h1:=Rep.len (z4 Z μ w) (LV.pure_ne_any z3);rw [<-gG,h1,a7]
 have bM:=RepAll.append _ _ _ _ ho hn;have hlen:=RepAll.length _ _ bM;obtain⟨Z1,k1,k2⟩:=hc.widen (le_set (blk:=⟨sz,olds++news,true⟩) hd);have aeK:Pushed w (w.drew.alloc (.cells ((oldc++ca).toArray++Builtin.zeroCells zv.cells (grownCap w (sLen+news.length) sCap E-(sLen+news.length))) E)) _:=⟨rfl,rfl,rfl,rfl⟩;obtain⟨Z2,h1,h2,h3,h4,h5,h6⟩:=k1.push (d:=d) (blk:=⟨sz,olds++news,true⟩) (part:=oldc++ca) (rest:=(Builtin.zeroCells zv.cells (grownCap w (sLen+news.length) sCap E-(sLen+news.length))).toList)
  aj vN aeK aj (bM.mono k2 (fun _ _ h=>h) ⟨fun _ _=>rfl,(Frame.refl Z μ w).m⟩)
 refine⟨_,_,_,Z2,bV,h1,fun id h=>h2 id (k2 id h),h3,⟨fun id h=>h4.z id (k2 id h),h4.m⟩,⟨by simp [LV.isAgg],fun _=>?_⟩⟩;simp only [Rep];have fe:=grownCap_ge w (sLen+news.length) sCap E;refine .inr ⟨w.heap.size,_,_,E,(0,0),by simp,h5,fe,h6,?_⟩;rw [zF,rP,hlen,size_zeroCells,mf,cZ,aP,cJ,<-cI];exact bw _ J
theorem mu_none (hc:Core W X Z0 μ Z H w) {d:Nat} (hd:H d=none):μ d=none:=by
 cases hq:μ d with
 | none=>rfl
 | some id=>obtain⟨bk,g,_⟩:=hc.heap d id hq;rw [hd] at g;cases g
theorem RepAll.kill' {sz b:Nat} (l:List LV) (cs:List Value) (h:RepAll Z μ w sz l cs):RepAll Z (drop1 μ b) w sz (kills b l) cs :=
 RepAll.kill (fun _ h=>h) (fun k id hk h=>by simp [drop1,hk,h]) (Frame.refl _ _ _) _ _ h
theorem kills_length (b:Nat):∀ l:List LV,(kills b l).length=l.length
 | []=>rfl
 | x :: xs=>by simp [kills,kills_length b xs]
theorem kills_append (b:Nat):∀ l m:List LV,kills b (l++m)=kills b l++kills b m
 | [],m=>rfl
 | x :: xs,m=>by simp [kills,kills_append b xs m]
theorem Core.reheap {H':Heap} (hc:Core W X Z0 μ Z H w) (hh:∀ b id,μ b=some id->H' b=H b):Core W X Z0 μ Z H' w :=
 ⟨hc.keep,hc.zone,hc.zsup,hc.zsub,hc.inj,hc.own,hc.x0,hc.xlt,hc.x1,fun b id blk h g=>hc.mutz b id blk h ((hh b id h).symm.trans g),fun b id blk h g=>hc.frz b id blk h ((hh b id h).symm.trans g),
  fun b id h=>let ⟨blk,g1,g2⟩:=hc.heap b id h;⟨blk,(hh b id h).trans g1,g2⟩⟩
theorem app_sound {T U E E' ty:TypeId} {d b sz len:Nat} {blk:Blk} {x y:Operand} {news:List LV} {z:LV} {bu:Nat} (hc:Core W X Z0 μ Z L.heap w) (hr:∀ t,RepV Z μ w (L.slot t) (a.tmps.getD t undef))
  (hx:L.ev x=.ref b sz 0 len) (hb:L.heap b=some blk) (hs:blk.sz=sz) (hm:blk.mt=true) (hlen:len<=blk.vals.length) (cm:d=b\/L.heap d=none) (bC:b≠0)
  (hT:P.underlying T=some (.slice E)) (hU:P.underlying U=some (.slice E')) (hz:ZeroOK P E z) (hE:TyIs P E sz z.isAgg) (a7:z.csize=sz) (cU:TyBytes P E bu)
  (hy:(∃ c off bB,L.ev y=.ref c sz off news.length/\c≠b/\L.heap c=some bB/\bB.sz=sz/\off+news.length<=bB.vals.length/\news=(bB.vals.drop off).take news.length/\pures news=true) \/
    L.ev y=.list sz news\/(L.ev y=.v (.slice none 0 0)/\news=[]))
  (hsz:(len+news.length)*bu<=140737488355328) (ck:len+news.length<=4611686018427387904) :
  ∃ v w' av Z',(Builtin.append_ #[T,U] ty #[a.eval x,a.eval y]).run P w=.ok v w' /\
   Core W X Z0 av Z' ((L.kill b).setB d (some ⟨sz,kills b (blk.vals.take len++news),true⟩)).heap w' /\
   (∀ t,RepV Z' av w' ((L.kill b).slot t) (a.tmps.getD t undef))/\RepV Z' av w' (.ref d sz 0 (len+news.length)) v:=by
 obtain⟨ca,nX,kN⟩:=src_of (P:=P) hc hr hU (y:=y) (news:=news) (sz:=sz) (by
  rcases hy with⟨c,off,b2,q1,_,q3,q4,q5,q6,_⟩ | h | h
  ·exact .inl ⟨c,off,b2,q1,q3,q4,q5,q6⟩
  ·exact .inr (.inl h)
  exact .inr (.inr h))
 have e1:=ev_rep (L:=L) hr x;rw [hx] at e1;have e2:=e1.2 rfl;simp only [Rep] at e2;have mD:(L.kill b).heap d=none:=by
  rcases cm with rfl | h
  ·simp [St.kill]
  simp only [St.kill];split
  ·rfl
  rw [h];rfl
 rcases e2 with⟨q1,rfl⟩ | ⟨id,cap,c,U',fz,q1,q2,q3,q4,q5⟩
 ·simp only [b7,and_true] at q1;have hk:=hc.kill b bC;have lA:=kill_rep b hr;have dZ:(kills b news).length=news.length:=kills_length b news
  cases wE:news with
  | nil =>
   subst wE;obtain⟨i,zv,z1,z2,z3,z4⟩:=hz;have mB:i.size=sz:=by have:=hE.1;rw [z1] at this;simpa using this
   have zE:ca=[]:=by simpa [RepAll] using kN
   subst zE;have bV:=run_append_nothing (P:=P) w T U ty E i hT z1 none 0 0 (an _) (a.eval y) (mB ▸ nX);refine⟨_,w,drop1 μ b,Z,by rw [q1];exact bV,?_,lA,⟨by simp [LV.isAgg],fun _=>by simp [Rep]⟩⟩;exact hk.reheap fun c id pO=>by
    have:c≠d:=by rintro rfl;rw [mu_none hk mD] at pO;cases pO
    simp [St.setB,this]
  | cons x0 xs0 =>
   rw [<-wE];have gC:0<news.length:=by rw [wE];simp
   obtain⟨v,w',av,Z',r1,r2,r3,r4,r5,r6⟩:=grow_sound (P:=P) (ty:=ty) (U:=U) (olds:=[]) (news:=kills b news) (oldc:=[]) (sLen:=0) (sCap:=0) hk mD hT hz hE a7 cU q1 (by simp [Builtin.firstCells]) (by rw [dZ];exact nX)
    (by simp [RepAll]) rfl (RepAll.kill' _ _ kN) (by rw [dZ];omega) (by rw [dZ];exact hsz) (by rw [dZ];exact ck)
   rw [aR] at r2;rw [dZ] at r6;exact⟨v,w',av,Z',r1,by simpa [St.setB] using r2,fun t=>(lA t).mono r3 r4 r5,r6⟩
 simp only [b7,and_true,jm] at q1;obtain⟨bk,g1,c',T',part,rest,g2,g3,g4⟩:=hc.heap b id q2;rw [hb] at g1;cases g1;rw [q4] at g2;cases g2;simp only [cJ] at q5;obtain⟨p1,p2,d1,d2,d3⟩:=RepAll.split (blk.vals.take len) (blk.vals.drop len) part rK;rw [hs] at d2;have dx:=RepAll.length _ _ d2;rw [bZ,eP hlen] at dx;have hk:=hc.kill b bC;have lA:=kill_rep b hr;have fX:∀ k,drop1 μ b k≠some id:=fun k h=>by
  unfold drop1 at h;split at h
  ·cases h
  rename_i ak;exact ak (hc.inj k b id h q2)
 have aC:W.heap.size<=id\/X.y id:=by
  rcases hc.own b id q2 with h | h | h
  ·exact gR
  ·exact absurd (hc.x0 b id q2 h) bC
  exact .inr h
 have jD:=hc.mutz b id blk q2 hb hm;have ga:=RepAll.length _ _ kN;by_cases aan:len+news.length<=cap
 ·have kZ:len*sz+ca.length<=c.size:=by
   rw [ga,<-cI];exact aw (bw _ aan) q5
  have mb:∀ j,j<ca.length->(w.cell? ⟨id,0+len*sz+j,none⟩).isSome=true:=fun j hj=>by
   rw [cell_of_row w id _ c _ _ q4,jV J];rfl
  have qn:∀ j,j<ca.length->w.frozen? ⟨id,0+len*sz+j,none⟩=false:=fun j hj=>by simp [World.frozen?,q4]
  obtain⟨i,zv,z1,z2,z3,z4⟩:=hz;have mB:i.size=sz:=by have:=hE.1;rw [z1] at this;simpa using this
  have bV:=run_append_room_src (P:=P) w T U ty E i hT z1 id 0 len cap (a.eval y) news.length ca (by rw [mB];exact nX) aan (by rw [mB];exact mb) (by rw [mB];exact qn);rw [mB,cJ,setCells_setRow q4 kZ nX.one] at bV;have hold:=(RepAll.kill' (b:=b) _ _ d2);have fo:=(RepAll.kill' (b:=b) _ _ kN);have bM:=RepAll.append _ _ _ _ hold fo;rw [<-kills_append] at bM;have aeP:c.toList.take (len*sz)++ca++c.toList.drop (len*sz+ca.length)=(p1++ca)++c.toList.drop (len*sz+ca.length):=by
   rw [g3,d1,<-dx];simp
  rw [aeP] at bV;obtain⟨k1,k2,k3,k4⟩:=hk.attach (d:=d) (id:=id) (blk:=⟨sz,kills b (blk.vals.take len++news),true⟩) (c':=((p1++ca)++c.toList.drop (len*sz+ca.length)).toArray)
   (part:=p1++ca) (rest:=c.toList.drop (len*sz+ca.length)) (mu_none hk mD) rfl fX jD aC (by
    simp only [rP,cZ,dx,fJ,gG];omega) q4 aj bM rfl
  refine⟨_,_,_,Z,by rw [q1];exact bV,k1,fun t=>(lA t).mono (fun _ h=>h) k3 k2,⟨by simp [LV.isAgg],fun _=>?_⟩⟩;simp only [Rep];refine .inr ⟨id,cap,_,U',(0,0),by simp,by simp [upd],aan,k4,?_⟩;rw [cJ];simp only [rP,cZ,dx,fJ,gG];omega
 have hold:(Builtin.firstCells sz len (.slice (some ⟨id,0,none⟩) len cap)).run P w.drew=.ok p1.toArray w.drew:=by
  refine run_firstCells_some w.drew sz len ⟨id,0,none⟩ len cap p1 dx (fun j v hj=>?_);rw [Addr.add_mid];have oN:=range_of (w:=w) (off:=0) (part:=p1) (rest:=p2++rest) q4 (by rw [dY,g3,d1];simp);exact oN j v hj
 have dZ:(kills b news).length=news.length:=kills_length b news;obtain⟨v,w',av,Z',r1,r2,r3,r4,r5,r6⟩:=grow_sound (P:=P) (ty:=ty) (U:=U) (olds:=kills b (blk.vals.take len)) (news:=kills b news) hk mD hT hz hE a7 cU q1 hold (by rw [dZ];exact nX)
  (RepAll.kill' _ _ d2) (by rw [kills_length,bZ];omega) (RepAll.kill' _ _ kN) (by rw [dZ];omega) (by rw [dZ];exact hsz) (by rw [dZ];exact ck)
 rw [<-kills_append] at r2;rw [dZ] at r6;exact⟨v,w',av,Z',r1,r2,fun t=>(lA t).mono r3 r4 r5,r6⟩
theorem app0_sound {T U E E' ty:TypeId} {d sz:Nat} {x y:Operand} {news:List LV} {z:LV} {bu:Nat} (hc:Core W X Z0 μ Z L.heap w) (hr:∀ t,RepV Z μ w (L.slot t) (a.tmps.getD t undef))
  (hx:L.ev x=.v (.slice none 0 0)) (cm:L.heap d=none)
  (hT:P.underlying T=some (.slice E)) (hU:P.underlying U=some (.slice E')) (hz:ZeroOK P E z) (hE:TyIs P E sz z.isAgg) (a7:z.csize=sz) (cU:TyBytes P E bu)
  (hy:(∃ c off bB,L.ev y=.ref c sz off news.length/\L.heap c=some bB/\bB.sz=sz/\off+news.length<=bB.vals.length/\news=(bB.vals.drop off).take news.length/\pures news=true) \/
    L.ev y=.list sz news)
  (hn:0<news.length) (hsz:news.length*bu<=140737488355328) (ck:news.length<=4611686018427387904) :
  ∃ v w' av Z',(Builtin.append_ #[T,U] ty #[a.eval x,a.eval y]).run P w=.ok v w'/\Core W X Z0 av Z' (L.setB d (some ⟨sz,news,true⟩)).heap w' /\
   (∀ t,RepV Z' av w' (L.slot t) (a.tmps.getD t undef))/\RepV Z' av w' (.ref d sz 0 news.length) v:=by
 obtain⟨ca,nX,kN⟩:=src_of (P:=P) hc hr hU (y:=y) (news:=news) (sz:=sz) (by
  rcases hy with⟨c,off,b2,q1,q3,q4,q5,q6,_⟩ | h
  ·exact .inl ⟨c,off,b2,q1,q3,q4,q5,q6⟩
  exact .inr (.inl h))
 have e1:=ev_rep (L:=L) hr x;rw [hx] at e1;have e2:=e1.v_eq;obtain⟨v,w',av,Z',r1,r2,r3,r4,r5,r6⟩:=grow_sound (P:=P) (ty:=ty) (U:=U) (olds:=[]) (news:=news) (oldc:=[]) (sLen:=0) hc cm hT hz hE a7 cU e2 (by simp [Builtin.firstCells]) nX
  (by simp [RepAll]) rfl kN J (by rw [cJ];exact hsz) (by rw [cJ];exact ck)
 rw [cJ] at r6;rw [aR] at r2;exact⟨v,w',av,Z',r1,r2,fun t=>(hr t).mono r3 r4 r5,r6⟩
end
end Go.Lg
namespace Go.Lg
def GuardIs (ops:Array Oper) (L:St) (o:Oper) (res:Bool):Prop :=
 match o.guard with
 | none=>res=true
 | some (j,want)=>∃ d,(ops[j]?).bind (·.dst)=some d/\((∃ b,L.slot d=.v (.bool b)/\res=(b==want))\/(L.slot d=.tup []/\res=false))
inductive Step (P:Program) (dr:Bool) (ops:Array Oper) (o:Oper) (L L':St):Prop
 | skip (hg:GuardIs ops L o false) (h:L'=L.put o.dst (.tup []))
 | val {r fr H1} (hg:GuardIs ops L o true) (hle:L.heap.le H1) (aY:∀ b blk,(b,blk)∈fr->L.heap b=none/\∃ m,H1 b=some ⟨blk.sz,blk.vals,m⟩/\(blk.mt=false->m=false))
   (ho:OpV P H1 L.ev (o.dst.getD 0) o.op r fr) (h:L'=⟨(L.put o.dst r).slot,H1⟩)
 | st (hg:GuardIs ops L o true) (ho:OpT P L o.dst o.op L')
 | stM (cd:dr=false) (hg:GuardIs ops L o true) (ho:OpM P L o.dst o.op L')
def opsL (P:Program) (dr:Bool) (ops:Array Oper):List Oper->St->(St->Prop)->Prop
 | [],L,K=>K L
 | o :: r,L,K=>∃ L',Step P dr ops o L L'/\opsL P dr ops r L' K
section
variable {P:Program} {W w w':World} {X:XS} {Z0 Z:Nat->Prop} {μ:Nat->Option Nat} {H:Heap} {a:Act} {L L':St} {n:Nat} {dr:Bool} {ops:Array Oper}
theorem guard_wanted {o:Oper} {res:Bool} {L:St} (hr:∀ t,RepV Z μ w (L.slot t) (a.tmps.getD t undef)) (hg:GuardIs ops L o res):Region.wanted o (yielded ops a.tmps)=res:=by
 unfold GuardIs at hg;unfold Region.wanted;split at hg
 ·rename_i h;rw [h];exact hg.symm
 rename_i j want h;rw [h];obtain⟨d,h1,⟨b,h2,rfl⟩ | ⟨h2,rfl⟩⟩:=hg
 case inr =>
  have h3:=hr d;rw [h2] at h3;obtain⟨vs,h4,h5⟩:=h3;have h5:vs=#[]:=by cases vs with | mk l=>exact congrArg Array.mk h5
  subst h5;have h6:((ops[j]?).bind (·.dst)).bind (fun t=>a.tmps[t]?)=a.tmps[d]?:=by rw [h1];rfl
  rw [aM] at h4;simp only [yielded,h6]
  cases hq:a.tmps[d]? with
  | none=>rfl
  | some u=>rw [hq] at h4;simp only [iY] at h4;subst h4;rfl
 have h3:=hr d;rw [h2] at h3;have h4:=h3.v_eq;have h5:a.tmps[d]?=some (.bool b):=by
  rw [aM] at h4
  cases hq:a.tmps[d]? with
  | none=>rw [hq] at h4;simp [undef] at h4
  | some u=>rw [hq] at h4;simpa using h4
 have h6:((ops[j]?).bind (·.dst)).bind (fun t=>a.tmps[t]?)=some (.bool b):=by rw [h1];simpa using h5
 simp only [yielded,h6]
 cases b<;>cases want<;>rfl
theorem opsL_mono {P:Program} {ops:Array Oper} {dr:Bool} {K K':St->Prop} (hk:∀ L,K L->K' L):∀ (l:List Oper) (L:St),opsL P dr ops l L K->opsL P dr ops l L K'
 | [],L,h=>hk L h
 | o :: r,L,⟨L',h1,h2⟩=>⟨L',h1,opsL_mono hk r L' h2⟩
theorem clr_sound {T E ty:TypeId} {x:Operand} {b sz off n:Nat} {blk:Blk} {z:LV} (hc:Core W X Z0 μ Z L.heap w) (hr:∀ t,RepV Z μ w (L.slot t) (a.tmps.getD t undef))
  (hx:L.ev x=.ref b sz off n) (hb:L.heap b=some blk) (hs:blk.sz=sz) (hm:blk.mt=true) (hl:off+n<=blk.vals.length) (hT:P.underlying T=some (.slice E)) (hz:ZeroOK P E z) (a7:z.csize=sz) :
  ∃ w',(Builtin.clear_ #[T] ty #[a.eval x]).run P w=.ok (.tuple #[]) w' /\
   Core W X Z0 μ Z (L.setB b (some ⟨sz,blk.vals.take off++ai n z++blk.vals.drop (off+n),true⟩)).heap w'/\Frame Z μ w w':=by
 have e1:=ev_rep (L:=L) hr x;rw [hx] at e1;have e2:=e1.2 rfl;simp only [Rep] at e2;have qp:n=0->(L.setB b (some ⟨sz,blk.vals.take off++ai n z++blk.vals.drop (off+n),true⟩)).heap=L.heap:=by
  rintro rfl;funext c;show (if c=b then _ else L.heap c)=_;split
  ·rename_i e;subst e;rw [hb];obtain⟨s,v,m⟩:=blk;simp only at hs hm ⊢;subst hs;subst hm;simp
  rfl
 rcases e2 with⟨q1,rfl⟩ | ⟨id,cap,c,U',fz,q1,q2,q3,q4,q5⟩
 ·simp only [b7,and_true] at q1;rw [qp rfl];exact⟨w,by rw [q1];simp [Builtin.clear_,run_underlying hT],hc,Frame.refl _ _ _⟩
 simp only [b7,and_true] at q1
 cases n with
 | zero =>
  rw [qp rfl];exact⟨w,by rw [q1];simp [Builtin.clear_,run_underlying hT],hc,Frame.refl _ _ _⟩
 | succ n =>
  obtain⟨bk,g1,c',T',part,rest,g2,g3,g4⟩:=hc.heap b id q2;rw [hb] at g1;cases g1;rw [q4] at g2;cases g2;rw [hs] at g4;obtain⟨i,zv,z1,z2,z3,z4⟩:=hz;have oy:(zeroValue E).run P w=.ok zv w:=by simp [zeroValue,typeInfo,z1,z2]
  have ak:=LV.pure_ne_any z3;have jL:=Rep.len (z4 Z μ w) ak;rw [a7] at jL;have kN:=RepAll.replicate (z4 Z μ w) jL (n+1);have ga:=RepAll.length _ _ kN;rw [List.length_replicate] at ga;have afr:blk.vals=blk.vals.take off++((blk.vals.drop off).take (n+1)++blk.vals.drop (off+(n+1))):=by
   rw [<-je,kK,kK]
  rw [afr] at g4;obtain⟨p1,p2,d1,d2,d3⟩:=RepAll.split _ _ part g4;obtain⟨p3,p4,d4,d5,d6⟩:=RepAll.split _ _ p2 d3;have l1:=RepAll.length _ _ d2;have l2:=RepAll.length _ _ d5;rw [bZ,eP J] at l1;rw [bZ,fJ,eP J] at l2;have hlen:c.toList.length=p1.length+(p3.length+p4.length)+rest.length:=by rw [g3,d1,d4];simp;omega
  have kZ:off*sz+((ai (n+1) zv.cells.toList).flatten).length<=c.size:=by
   rw [<-gG,hlen,ga,l1,l2];omega
  have bM:=RepAll.append _ _ _ _ (RepAll.append _ _ _ _ d2 kN) d6;have vG:∀ v∈(ai (n+1) zv.cells.toList).flatten,v.oneCell'=true:=fun v hv=>by
   simp only [List.mem_flatten] at hv;obtain⟨l,en,gI⟩:=hv;rw [List.eq_of_mem_replicate en] at gI;exact Rep.one _ _ (z4 Z μ w) v gI
  have hcell:∀ j,j<((ai (n+1) zv.cells.toList).flatten).length->(w.cell? ⟨id,off*sz+j,none⟩).isSome=true:=fun j hj=>by
   rw [cell_of_row w id _ c _ _ q4,jV J];rfl
  have yM:∀ j,j<((ai (n+1) zv.cells.toList).flatten).length->w.frozen? ⟨id,off*sz+j,none⟩=false:=fun j hj=>by simp [World.frozen?,q4]
  have ba:=run_storeCells_cells (P:=P) id (off*sz) ((ai (n+1) zv.cells.toList).flatten) 0 w (by simpa using hcell) (by simpa using yM) vG;simp only [iH] at ba;rw [setCells_setRow q4 kZ vG] at ba;have fo:c.toList.take (off*sz)++(ai (n+1) zv.cells.toList).flatten++c.toList.drop (off*sz+((ai (n+1) zv.cells.toList).flatten).length)=(p1++(ai (n+1) zv.cells.toList).flatten++p4)++rest:=by
   rw [g3,d1,d4,ga,<-l1,<-l2];have e:(p1++(p3++p4))++rest=p1++(p3++(p4++rest)):=aj;rw [e,zh,<-je,tz,tz];simp
  rw [fo] at ba;obtain⟨k1,k2⟩:=Core.rewrite (blk':=⟨sz,blk.vals.take off++ai (n+1) z++blk.vals.drop (off+(n+1)),true⟩)
   (c':=((p1++(ai (n+1) zv.cells.toList).flatten++p4)++rest).toArray) (part:=p1++(ai (n+1) zv.cells.toList).flatten++p4) (rest:=rest) hc q2 hb hm rfl q4
   (by rw [<-gG (xs:=c),hlen];simp only [rP,cZ,ga,l2];omega) aj bM rfl
  refine⟨_,?_,k1,k2⟩;rw [q1];simp only [Builtin.clear_,abC,ke,Sem.run_bind,Sem.run_pure,run_underlying hT,Result.andThen_ok,oy,zeroCells_list,ba]
theorem cpyG_sound {T U E E' ty:TypeId} {x y:Operand} {b c sz off off2 n1 n2:Nat} {blk bB:Blk} {news:List LV} {ag:Bool} (hc:Core W X Z0 μ Z L.heap w) (hr:∀ t,RepV Z μ w (L.slot t) (a.tmps.getD t undef))
  (hx:L.ev x=.ref b sz off n1) (hb:L.heap b=some blk) (hs:blk.sz=sz) (hm:blk.mt=true) (hl:off<=blk.vals.length) (hT:P.underlying T=some (.slice E)) (hU:P.underlying U=some (.slice E')) (hE:TyIs P E sz ag)
  (hy:L.ev y=.ref c sz off2 n2) (fA:L.heap c=some bB) (oG:bB.sz=sz) (hn:news.length=Nat.min n2 n1) (h0:0<news.length) (gI:off2+news.length<=bB.vals.length) (agf:news=(bB.vals.drop off2).take news.length) :
  ∃ v w',(Builtin.copy_ #[T,U] ty #[a.eval x,a.eval y]).run P w=.ok v w' /\
   Core W X Z0 μ Z (L.setB b (some ⟨sz,blk.vals.take off++news++blk.vals.drop (off+news.length),true⟩)).heap w'/\Frame Z μ w w':=by
 have ja:news.length<=n1:=by rw [hn];exact Nat.min_le_right _ _
 have cL:news.length<=n2:=by rw [hn];exact Nat.min_le_left _ _
 have e1:=ev_rep (L:=L) hr x;rw [hx] at e1;have e2:=e1.2 rfl;simp only [Rep] at e2;have f1:=ev_rep (L:=L) hr y;rw [hy] at f1;have f2:=f1.2 rfl;simp only [Rep] at f2;rcases e2 with⟨q1,q0⟩ | ⟨id,cap,cc,U',fz,q1,q2,q3,q4,q5⟩
 ·omega
 rcases f2 with⟨p1,p0⟩ | ⟨sK,u4,cc2,U2,fz2,p1,p2,p3,p4,p5⟩
 ·omega
 simp only [b7,and_true] at q1 p1;have one:∀ (l:List LV) (cs:List Value),RepAll Z μ w sz l cs->∀ u∈cs,u.oneCell'=true:=by
  intro l
  induction l with
  | nil=>intro cs h;simp only [RepAll] at h;simp [h]
  | cons x xs ih =>
   intro cs h u hu;simp only [RepAll] at h;obtain⟨c1,c2,rfl,h2,h3,h4⟩:=h;rcases eF.1 hu with hu | hu
   ·exact Rep.one _ _ h3 u hu
   exact ih c2 h4 u hu
 obtain⟨bk,g1,c',T',part,rest,g2,g3,g4⟩:=hc.heap c sK p2;rw [fA] at g1;cases g1;rw [p4] at g2;cases g2;obtain⟨c1,c2,d1,d2,d3⟩:=RepAll.split (bB.vals.take off2) (bB.vals.drop off2) part rK;obtain⟨ca,c4,d4,d5,d6⟩:=RepAll.split ((bB.vals.drop off2).take news.length) ((bB.vals.drop off2).drop news.length) c2 (by rw [kK];exact d3);rw [<-agf,oG] at d5;have en:=RepAll.length _ _ d2;rw [bZ,eP J,oG] at en;have ga:=RepAll.length _ _ d5;have oN:=range_of (w:=w) (off:=off2*sz) (part:=ca) (rest:=c4++rest) p4 (by rw [g3,d1,d4,<-en];simp);have nX:Src P sz U (.slice (some ⟨sK,off2*sz,none⟩) news.length u4) news.length ca w:=Src.ofSlice w hU _ _ _ ca ga (fun j u hj=>by rw [Addr.add_mid];exact oN j u hj) (one _ _ d5);have eQ:(Builtin.firstCells sz news.length (.slice (some ⟨sK,off2*sz,none⟩) n2 u4)).run P w=.ok ca.toArray w:=nX.cells;have vG:∀ v∈ca,v.oneCell'=true:=nX.one;obtain⟨bk,g1,ct,T',part,rest,g2,g3,g4⟩:=hc.heap b id q2;rw [hb] at g1;cases g1;rw [q4] at g2;cases g2;rw [hs] at g4;obtain⟨l5,jR,r1,r2,r3⟩:=RepAll.split (blk.vals.take off) (blk.vals.drop off) part rK;have l1:=RepAll.length _ _ r2;rw [bZ,eP hl] at l1;have l2:=RepAll.length _ _ r3;rw [fJ] at l2;have kZ:off*sz+ca.length<=cc.size:=by
  rw [ga,<-cI];exact aw (bw _ J) q5
 have agm:RepAll Z μ w sz (blk.vals.drop (off+news.length)) (jR.drop ca.length):=by
  rcases cu (off+news.length) blk.vals.length with h | h
  ·obtain⟨p3,p4,t1,t2,t3⟩:=RepAll.split ((blk.vals.drop off).take news.length) ((blk.vals.drop off).drop news.length) jR (by rw [kK];exact r3);have l3:=RepAll.length _ _ t2;rw [bZ,fJ,eP J,<-ga] at l3;rw [t1,<-l3,tz,<-je];exact t3
  rw [ep h,ep (by rw [l2,ga];exact bw _ J)];simp [RepAll]
 have bM:=RepAll.append _ _ _ _ (RepAll.append _ _ _ _ r2 d5) agm;have hcell:∀ j,j<ca.length->(w.cell? ⟨id,off*sz+j,none⟩).isSome=true:=fun j hj=>by
  rw [cell_of_row w id _ cc _ _ q4,jV J];rfl
 have yM:∀ j,j<ca.length->w.frozen? ⟨id,off*sz+j,none⟩=false:=fun j hj=>by simp [World.frozen?,q4]
 have ba:=run_storeCells_cells (P:=P) id (off*sz) ca 0 w (by simpa using hcell) (by simpa using yM) vG;simp only [iH] at ba;rw [setCells_setRow q4 kZ vG] at ba;have hlen:cc.size=l5.length+jR.length+rest.length:=by rw [<-gG,g3,r1];simp;omega
 have fo:cc.toList.take (off*sz)++ca++cc.toList.drop (off*sz+ca.length)=(l5++ca++jR.drop ca.length)++rest.drop (ca.length-jR.length):=by
  rw [g3,r1,<-l1];have e:(l5++jR)++rest=l5++(jR++rest):=aj;rw [e,zh,<-je,tz,List.drop_append];simp
 rw [fo] at ba;obtain⟨k1,k2⟩:=Core.rewrite (blk':=⟨sz,blk.vals.take off++news++blk.vals.drop (off+news.length),true⟩)
  (c':=((l5++ca++jR.drop ca.length)++rest.drop (ca.length-jR.length)).toArray) (part:=l5++ca++jR.drop ca.length) (rest:=rest.drop (ca.length-jR.length)) hc q2 hb hm rfl q4
  (by
   simp only [rP,cZ,fJ];omega) aj bM rfl
 refine⟨goInt news.length,_,?_,k1,k2⟩;rw [q1,p1];simp only [Builtin.copy_,abC,ke,abZ,Sem.run_bind,Sem.run_pure,run_underlying hT,Result.andThen_ok,Builtin.lenOf,run_sizeOf hE,<-hn,eQ,ba]
theorem run_append_zerosG {P:Program} {w:World} (T U E ty:TypeId) (k kl:IntKind) (i:TypeInfo) (z:Value) (ht:P.underlying T=some (.slice E)) (hu:P.underlying U=some (.int k)) (hi:P.info? E=some i) (hz:i.zero=some z) (n:Nat)
  (base:Option Addr) (sLen sCap:Nat) (olds:List Value) (hold:(Builtin.firstCells i.size sLen (.slice base sLen sCap)).run P w.drew=.ok olds.toArray w.drew) (hg:sCap<sLen+n)
  (h0:0<n) (aT:0<i.size) (ck:sLen+n<=4611686018427387904) (cU:(sLen+n)*i.bytes<=140737488355328) (kZ:Builtin.nextslicecap (sLen+n) sCap*i.bytes<=281474976710656) :
  (Builtin.append_ #[T,U] ty #[.slice base sLen sCap,.int kl (n:Int)]).run P w =
   .ok (.slice (some ⟨w.heap.size,0,none⟩) (sLen+n) (grownCap w (sLen+n) sCap E))
    (w.drew.alloc (.cells (olds.toArray++Builtin.zeroCells z.cells n++Builtin.zeroCells z.cells (grownCap w (sLen+n) sCap E-(sLen+n))) E)):=by
 have hn:¬ (sLen+n<=sCap):=J;have dE:¬ n=0:=J;have hw:IntKind.i64.wrap (n:Int)=(n:Int):=by simp [IntKind.wrap,show IntKind.i64.bits=64 from rfl];omega
 have h1:¬ ((n:Int)<0):=J;have h2:¬ (281474976710656<(n:Int)*(i.bytes:Int)):=by
  have h4:n*i.bytes<=(sLen+n)*i.bytes:=bw _ J;have h5:((n*i.bytes:Nat):Int)<=140737488355328:=J;rw [Int.natCast_mul] at h5;omega
 have afg:¬ (9223372036854775807<((sLen:Int)+(n:Int))):=J;have afE:¬ (281474976710656<Builtin.nextslicecap (sLen+n) sCap*i.bytes):=J;have hsz:¬ (i.size=0):=J;have hns:¬ (n*i.size=0):=Nat.mul_ne_zero dE hsz;simp [Builtin.append_,run_underlying ht,run_underlying hu,sizeOf,typeInfo,zeroValue,hi,hz,hn,dE,hw,h1,h2,afg,afE,asInt,asIntOf,Question.forced,hold,hsz,newRow,grownCap];intro h;rcases abk.1 h with h | h<;>omega
theorem appzC_sound {T U E ty:TypeId} {d b sz n len cp:Nat} {x y:Operand} {z:LV} {bu:Nat} {k kl:IntKind} {blk:Blk} (hc:Core W X Z0 μ Z L.heap w) (hr:∀ t,RepV Z μ w (L.slot t) (a.tmps.getD t undef))
  (hT:P.underlying T=some (.slice E)) (hU:P.underlying U=some (.int k)) (hz:ZeroOK P E z) (hE:TyIs P E sz z.isAgg) (a7:z.csize=sz) (hb:TyBytes P E bu)
  (hx:L.ev x=.refc b sz 0 len cp) (dP:L.heap b=some blk) (hs:blk.sz=sz) (hlen:len<=blk.vals.length) (hy:L.ev y=.v (.int kl (n:Nat))) (cm:L.heap d=none) (hg:cp<len+n) (aT:0<sz)
  (hm:(len+n)*bu<=140737488355328) (ck:len+n<=4611686018427387904) :
  ∃ v w' av Z',(Builtin.append_ #[T,U] ty #[a.eval x,a.eval y]).run P w=.ok v w'/\Core W X Z0 av Z' (L.setB d (some ⟨sz,blk.vals.take len++ai n z,true⟩)).heap w' /\
   (∀ t,RepV Z' av w' (L.slot t) (a.tmps.getD t undef))/\RepV Z' av w' (.ref d sz 0 (len+n)) v:=by
 obtain⟨i,zv,z1,z2,z3,z4⟩:=hz;have e1:=ev_rep (L:=L) hr x;rw [hx] at e1;have e3:=e1.2 rfl;simp only [Rep] at e3;obtain⟨id,cc,Ti,fz,q1,q2,q3,q4,q5⟩:=e3;simp only [b7,and_true] at q1;have e2:=ev_rep (L:=L) hr y;rw [hy] at e2;have e2:=e2.v_eq;have ak:=LV.pure_ne_any z3;have mB:i.size=sz:=by have:=hE.1;rw [z1] at this;simpa using this
 have wW:i.bytes=bu:=by obtain⟨i',g1,g2⟩:=hb;rw [z1] at g1;cases g1;exact g2
 have jL:=Rep.len (z4 Z μ w) ak;have mf:zv.cells.size=sz:=by rw [<-gG,jL,a7]
 have oZ:=nextslicecap_le hg;have kZ:Builtin.nextslicecap (len+n) cp*i.bytes<=281474976710656:=by
  rw [wW]
  calc Builtin.nextslicecap (len+n) cp*bu<=(2*(len+n))*bu:=bw _ oZ
   _=2*((len+n)*bu):=by rw [bW]
   _<=281474976710656:=by omega
 obtain⟨bk,g1,c',T',part,rest,g2,g3,g4⟩:=hc.heap b id q2;rw [dP] at g1;cases g1;rw [q4] at g2;cases g2;rw [hs] at g4;obtain⟨oldc,c2,d1,d2,d3⟩:=RepAll.split (blk.vals.take len) (blk.vals.drop len) part rK;have en:=RepAll.length _ _ d2;rw [bZ,eP hlen] at en;have oN:=range_of (w:=w) (off:=0*sz) (part:=oldc) (rest:=c2++rest) q4 (by rw [g3,d1];simp);have hold:(Builtin.firstCells i.size len (.slice (some ⟨id,0*sz,none⟩) len cp)).run P w.drew=.ok oldc.toArray w.drew:=by
  rw [mB];exact run_firstCells_some w.drew sz len _ len cp oldc en (fun j u hj=>by rw [Addr.add_mid];simpa using oN j u hj)
 have bV:=run_append_zerosG (P:=P) (w:=w) T U E ty k kl i zv hT hU z1 z2 n (some ⟨id,0*sz,none⟩) len cp oldc hold hg J J ck (by rw [wW];exact hm) kZ;have vN:=mu_none hc cm;obtain⟨Z1,k1,k2⟩:=hc.widen (le_set (blk:=⟨sz,blk.vals.take len++ai n z,true⟩) cm);have bM:=RepAll.append _ _ _ _ (d2.mono k2 (fun _ _ h=>h) ⟨fun _ _=>rfl,(Frame.refl Z μ w).m⟩) (RepAll.replicate (sz:=sz) (z4 Z1 μ w) (by rw [jL,a7]) n);obtain⟨Z2,h1,h2,h3,h4,h5,h6⟩:=k1.push (d:=d) (blk:=⟨sz,blk.vals.take len++ai n z,true⟩) (part:=oldc++(ai n zv.cells.toList).flatten) (rest:=(Builtin.zeroCells zv.cells (grownCap w (len+n) cp E-(len+n))).toList) aj vN
  (⟨rfl,rfl,rfl,rfl⟩:Pushed w (w.drew.alloc (.cells (oldc.toArray++Builtin.zeroCells zv.cells n++Builtin.zeroCells zv.cells (grownCap w (len+n) cp E-(len+n))) E)) _) (by rw [ab0,ab0,zeroCells_list]) bM
 have aY:Frame Z μ w (w.drew.alloc (.cells (oldc.toArray++Builtin.zeroCells zv.cells n++Builtin.zeroCells zv.cells (grownCap w (len+n) cp E-(len+n))) E)):=⟨fun id h=>h4.z id (k2 id h),h4.m⟩;refine⟨_,_,_,Z2,by rw [q1,e2];exact bV,h1,fun t=>(hr t).mono (fun id h=>h2 id (k2 id h)) h3 aY,⟨by simp [LV.isAgg],fun _=>?_⟩⟩;simp only [Rep];have fe:=grownCap_ge w (len+n) cp E;refine .inr ⟨w.heap.size,_,_,E,(0,0),by simp,h5,fe,h6,?_⟩;rw [zF,zF,size_zeroCells,size_zeroCells,mf,rP,en,cJ,<-cI,<-cI];exact bw _ J
theorem ovl_sound {f:FuncId} {x y:Operand} {Tx Ty:TypeId} {fn:Func} {b c sz o1 n1 o2 n2:Nat} {ag:Bool} {tS tR e:TypeId} {dst:Option Tmp} {ty:TypeId} {pos:String} {af:Array Edge} {g:Option (Nat × Bool)} (hc:Core W X Z0 μ Z L.heap w) (hr:∀ t,RepV Z μ w (L.slot t) (a.tmps.getD t undef))
  (hf:P.funcs[f]?=some fn) (fS:(fn.name== "runtime.NumGoroutine")=false) (hb:fn.body.isNone=true) (hn:Extern.findNext fn=none) (he:Extern.find fn=some (Extern.SlicesOverlaps.overlaps #[tS,tS] #[tR]))
  (ht:P.underlying tS=some (.slice e)) (hE:TyIs P e sz ag) (hx:L.ev x=.ref b sz o1 n1) (hy:L.ev y=.ref c sz o2 n2) (jQ:b≠c) (h1:0<n1) (h2:0<n2) (aT:0<sz) :
  (execOp a.eval ⟨dst,.call ⟨.value (.func f),#[x,y],#[Tx,Ty]⟩,ty,pos,af,g⟩).run P w=.ok (.value (.bool false)) w:=by
 have e1:=ev_rep (L:=L) hr x;rw [hx] at e1;have e2:=e1.2 rfl;simp only [Rep] at e2;have f1:=ev_rep (L:=L) hr y;rw [hy] at f1;have f2:=f1.2 rfl;simp only [Rep] at f2;rcases e2 with⟨q1,q0⟩ | ⟨id,cap,cc,U',fz,q1,q2,q3,q4,q5⟩
 ·omega
 rcases f2 with⟨p1,p0⟩ | ⟨sK,u4,cc2,U2,fz2,p1,p2,p3,p4,p5⟩
 ·omega
 simp only [b7,and_true] at q1 p1;have afN:id≠sK:=fun h=>jQ (hc.inj _ _ _ q2 (h ▸ p2));obtain⟨bk,g1,c',T',part,rest,g2,g3,g4⟩:=hc.heap b id q2;rw [q4] at g2;cases g2;have hv:(Extern.SlicesOverlaps.overlaps #[tS,tS] #[tR] #[a.eval x,a.eval y]).run P w=.ok (.bool false) w:=by
  rw [q1,p1];refine Lib.run_overlaps_apart w tS tR e ht sz (fun w'=>run_sizeOf hE) ⟨id,o1*sz,none⟩ ⟨sK,o2*sz,none⟩ n1 cap n2 u4 afN U' U2 cc.size cc2.size (by simp only [World.shape?,q4]) (by simp only [World.shape?,p4]) ?_ (by simp [World.frozen?,q4]) (by simp [World.frozen?,q4]);have:0<(o2+u4)*sz:=Nat.mul_pos J aT;omega
 have qn:=run_callFunc_extern (P:=P) (args:=#[a.eval x,a.eval y]) hf fS hb hn he w;rw [hv] at qn;simp only [execOp,resolve,Act.eval,Deferred.ofValue,Sem.run_bind,Sem.run_pure,Result.andThen_ok,invoke];simpa using qn
theorem step_sound {o:Oper} (hs:Sim n W X Z0 L a w) (ba:Step P dr ops o L L') (hd:∀ t,o.dst=some t->t<n) {K:Act->World->Prop} {Q:Exit->Act->World->Prop}
  (hK:∀ a' w',Sim n W X Z0 L' a' w'->K a' w'):if Region.wanted o (yielded ops a.tmps) then o.wp P a w K Q else K (a.put o.dst undef) w:=by
 obtain⟨bj,hsz,μ,Z,hc,hr⟩:=hs;have cC:∀ t,o.dst=some t->t<a.tmps.size:=fun t h=>by rw [hsz];exact hd t h
 cases ba with
 | skip hg h =>
  rw [guard_wanted hr hg];simp only [tC,if_false];subst h;exact hK _ _ ⟨by rw [put_defers];exact bj,by rw [put_size];exact hsz,μ,Z,by rw [put_heap];exact hc,put_rep cC hr ⟨#[],rfl,rfl⟩⟩
 | @val r fr H1 hg hle aY ho h =>
  rw [guard_wanted hr hg];simp only [if_true];obtain⟨Z1,k1,k2⟩:=hc.widen hle;have bG:∀ t,RepV Z1 μ w (L.slot t) (a.tmps.getD t undef):=fun t=>(hr t).mono k2 (fun _ _ h=>h) ⟨fun _ _=>rfl,(Frame.refl Z μ w).m⟩;obtain⟨dst,op,ty,pos,after,g⟩:=o;refine OpV.sound k1 ho (fun x _=>ev_rep (L:=L) bG x) (fun b blk hb=>?_) dst ty pos after g ?_
  ·obtain⟨h1,m,h2,h3⟩:=aY b blk hb;exact⟨m,h2,h3,mu_none hc h1⟩
  intro v w' av Z' iv;subst h;refine hK _ _ ⟨by rw [put_defers];exact bj,by rw [put_size];exact hsz,av,Z',iv.core,?_⟩;exact put_rep (L:=L) cC (fun t=>(bG t).mono iv.hz iv.hm iv.hf) iv.rep
 | st hg ho =>
  rw [guard_wanted hr hg];simp only [if_true];obtain⟨dst,op,ty,pos,after,g⟩:=o;simp only at ho cC
  cases ho with
  | store hp hb gf hm hi hy fb hT ak =>
   obtain⟨w',h1,h2,h3⟩:=store_sound (P:=P) hc hr hp hb gf hm hi hy fb hT ak dst ty pos after g;unfold Oper.wp;rw [h1,Oper.upon_skip];refine hK _ _ ⟨by rw [put_defers];exact bj,by rw [put_size];exact hsz,μ,Z,by rw [put_heap];exact h2,?_⟩;exact put_rep cC (fun t=>(hr t).mono (fun _ h=>h) (fun _ _ h=>h) h3) trivial
  | @appX T U E E' d b sz len blk x y news z bu hx hb gf hm hlen cm bC hT hU hz hE a7 cU hy z6 ck aT =>
   obtain⟨v,w',av,Z',r1,r2,r3,r4⟩:=app_sound (P:=P) (ty:=ty) hc hr hx hb gf hm hlen cm bC hT hU hz hE a7 cU hy z6 ck;have bV:(execOp a.eval ⟨dst,.call ⟨.builtin .append,#[x,y],#[T,U]⟩,ty,pos,after,g⟩).run P w=.ok (.value v) w':=by
    simp only [execOp,resolve,Sem.run_bind,Sem.run_pure,Result.andThen_ok,invoke,builtin];simp only [u5,gA,bh,r1,Result.andThen_ok]
   unfold Oper.wp;rw [bV,Oper.upon_value];refine hK _ _ ⟨by rw [put_defers];exact bj,by rw [put_size];exact hsz,av,Z',by rw [put_heap];exact r2,?_⟩;exact put_rep cC r3 r4
  | @app0X T U E E' d sz x y news z bu hx cm hT hU hz hE a7 cU hy hn z6 ck aT =>
   obtain⟨v,w',av,Z',r1,r2,r3,r4⟩:=app0_sound (P:=P) (ty:=ty) hc hr hx cm hT hU hz hE a7 cU hy hn z6 ck;have bV:(execOp a.eval ⟨dst,.call ⟨.builtin .append,#[x,y],#[T,U]⟩,ty,pos,after,g⟩).run P w=.ok (.value v) w':=by
    simp only [execOp,resolve,Sem.run_bind,Sem.run_pure,Result.andThen_ok,invoke,builtin];simp only [u5,gA,bh,r1,Result.andThen_ok]
   unfold Oper.wp;rw [bV,Oper.upon_value];refine hK _ _ ⟨by rw [put_defers];exact bj,by rw [put_size];exact hsz,av,Z',by rw [put_heap];exact r2,?_⟩;exact put_rep cC r3 r4
  | @clr T E x b sz off n blk z hx hb gf hm hl hT hz a7 =>
   obtain⟨w',r1,r2,r3⟩:=clr_sound (P:=P) (ty:=ty) hc hr hx hb gf hm hl hT hz a7;have bV:(execOp a.eval ⟨dst,.call ⟨.builtin .clear,#[x],#[T]⟩,ty,pos,after,g⟩).run P w=.ok (.value (.tuple #[])) w':=by
    simp only [execOp,resolve,Sem.run_bind,Sem.run_pure,Result.andThen_ok,invoke,builtin];simp only [u5,gA,bh,r1,Result.andThen_ok]
   unfold Oper.wp;rw [bV,Oper.upon_value];refine hK _ _ ⟨by rw [put_defers];exact bj,by rw [put_size];exact hsz,μ,Z,by rw [put_heap];exact r2,?_⟩;exact put_rep cC (fun t=>(hr t).mono (fun _ h=>h) (fun _ _ h=>h) r3) trivial
  | @cpyG T U E E' x y b sz off n1 blk c off2 n2 bB news ag hx hb gf hm hl hT hU hE hy fA oG hn h0 gI kN =>
   obtain⟨v,w',r1,r2,r3⟩:=cpyG_sound (P:=P) (ty:=ty) hc hr hx hb gf hm hl hT hU hE hy fA oG hn h0 gI kN;have bV:(execOp a.eval ⟨dst,.call ⟨.builtin .copy,#[x,y],#[T,U]⟩,ty,pos,after,g⟩).run P w=.ok (.value v) w':=by
    simp only [execOp,resolve,Sem.run_bind,Sem.run_pure,Result.andThen_ok,invoke,builtin];simp only [u5,gA,bh,r1,Result.andThen_ok]
   unfold Oper.wp;rw [bV,Oper.upon_value];refine hK _ _ ⟨by rw [put_defers];exact bj,by rw [put_size];exact hsz,μ,Z,by rw [put_heap];exact r2,?_⟩;exact put_rep cC (fun t=>(hr t).mono (fun _ h=>h) (fun _ _ h=>h) r3) trivial
 | stM _ hg ho =>
  rw [guard_wanted hr hg];simp only [if_true];obtain⟨dst,op,ty,pos,after,g⟩:=o;simp only at ho cC
  cases ho with
  | call hb hm hp ha hn hk gp dQ =>
   refine callM_sound hc hr hb hm hp ha hn hk gp dQ fun v w' Z' h1 h2 h3=>?_;refine hK _ _ ⟨by rw [put_defers];exact bj,by rw [put_size];exact hsz,μ,Z',by rw [put_heap];exact h1,?_⟩;exact put_rep (L:=L.setB _ _) cC h2 h3
  | @appzC T U E x y z k kl sz bu len cp n d b blk hT hU hz hE a7 hb hx dP gf hlen hy cm uR aT hm ck =>
   obtain⟨v,w',av,Z',r1,r2,r3,r4⟩:=appzC_sound (P:=P) (ty:=ty) hc hr hT hU hz hE a7 hb hx dP gf hlen hy cm uR aT hm ck;have bV:(execOp a.eval ⟨dst,.call ⟨.builtin .append,#[x,y],#[T,U]⟩,ty,pos,after,g⟩).run P w=.ok (.value v) w':=by
    simp only [execOp,resolve,Sem.run_bind,Sem.run_pure,Result.andThen_ok,invoke,builtin];simp only [u5,gA,bh,r1,Result.andThen_ok]
   unfold Oper.wp;rw [bV,Oper.upon_value];refine hK _ _ ⟨by rw [put_defers];exact bj,by rw [put_size];exact hsz,av,Z',by rw [put_heap];exact r2,?_⟩;exact put_rep (L:=L.setB _ _) cC r3 r4
  | @ovl f x y Tx Ty fn b c sz o1 n1 o2 n2 ag tS tR e hf fS hb hn he ht hE hx hy jQ h1 h2 aT =>
   have bV:=ovl_sound (P:=P) (Tx:=Tx) (Ty:=Ty) (dst:=dst) (ty:=ty) (pos:=pos) (af:=after) (g:=g) hc hr hf fS hb hn he ht hE hx hy jQ h1 h2 aT;unfold Oper.wp;rw [bV,Oper.upon_value];refine hK _ _ ⟨by rw [put_defers];exact bj,by rw [put_size];exact hsz,μ,Z,by rw [put_heap];exact hc,?_⟩;exact put_rep cC hr ⟨by simp [LV.isAgg],fun _=>by simp [Rep,Value.oneCell']⟩
theorem opsL_sound {Q:Exit->Act->World->Prop} {K:St->Prop}:∀ (l:List Oper) (L:St) (a:Act) (w:World),Sim n W X Z0 L a w->opsL P dr ops l L K->(∀ o∈l,∀ t,o.dst=some t->t<n) ->
  (∀ L' a' w',K L'->Sim n W X Z0 L' a' w'->Q .normal a' w')->wpList P ops Q l a w
 | [],L,a,w,hs,hk,_,hq=>hq L a w hk hs
 | o :: r,L,a,w,hs,⟨L',h1,h2⟩,hd,hq=>by
   have:=step_sound (Q:=Q) (K:=wpList P ops Q r) hs h1 (hd o aj) (fun a' w' cH=>opsL_sound r L' a' w' cH h2 (fun o' jH=>hd o' (by simp [jH])) hq);unfold wpList;split
   ·rename_i h;rw [if_pos h] at this;exact .inl this
   rename_i h;rw [if_neg h] at this;exact this
end
def Weak (L L':St):Prop:=∀ n W X Z0 a w,Sim n W X Z0 L a w->Sim n W X Z0 L' a w
theorem Weak.refl (L:St):Weak L L:=fun _ _ _ _ _ _ h=>h
theorem Weak.trans {L L' tW:St} (h:Weak L L') (h':Weak L' tW):Weak L tW:=fun n W X Z0 a w k=>h' n W X Z0 a w (h n W X Z0 a w k)
theorem Weak.kill (L:St) (b:Nat) (h0:b≠0:=by decide):Weak L (L.kill b):=fun _ _ _ _ _ _ ⟨h1,h2,_,Z,hc,hr⟩=>⟨h1,h2,_,Z,hc.kill b h0,kill_rep b hr⟩
def dirs (o:Oper):List Nat:=o.after.toList.filterMap fun e=>if Region.binds .any e then some e.on else none
inductive Anc (ops:Array Oper):Nat->Nat->Prop
 | one {j i o} (ho:ops[i]?=some o) (h:j∈dirs o):Anc ops j i
 | step {j k i o} (h:Anc ops j k) (ho:ops[i]?=some o) (hk:k∈dirs o):Anc ops j i
def mask (acc:List Nat) (o:Oper):Nat:=(dirs o).foldl (fun s j=>s ||| (2 ^ j ||| acc.getD j 0)) 0
def bef:List Oper->List Nat->List Nat
 | [],acc=>acc
 | o :: r,acc=>bef r (acc++[mask acc o])
def opTail:Op->Bool
 | .store ..=>true
 | .call ⟨.builtin .append,_,_⟩=>true
 | .call ⟨.builtin .clear,_,_⟩=>true
 | .call ⟨.builtin .copy,_,_⟩=>true
 | _=>false
def okPair (ops:Array Oper) (b:List Nat) (i j:Nat):Bool :=
 match (ops.getD j default).dst with
 | none=>true
 | some d=>(ops.getD i default).dst != some d &&
   (!((ops.getD i default).looksAt ops).contains d || (if j<i then(b.getD i 0).testBit j else(b.getD j 0).testBit i))
def freeOp (ops:Array Oper) (m j:Nat):Bool :=
 (ops.getD j default).guard.isNone && (match (ops.getD j default).op with | .move _=>true | .binOp ..=>(ops.getD m default).dst.isNone | .extract ..=>(ops.getD m default).dst.isNone | _=>false) &&
 (match (ops.getD j default).dst with | some d=>!((ops.getD m default).looksAt ops).contains d && (ops.getD m default).dst != some d | none=>true) &&
 (match (ops.getD m default).dst with | some d=>!((ops.getD j default).looksAt ops).contains d | none=>true)
def storeOp (o:Oper):Bool:=o.guard.isNone && (match o.op with | .store ..=>o.dst.isNone | .call ⟨.builtin .append,_,_⟩=>o.dst.isSome | _=>false)
def drawOk (ops:Array Oper) (m:Nat) (fr:List Nat):Bool :=
 decide (m<=ops.size) &&
 (b9 ops.size).all (fun i=>(dirs (ops.getD i default)).all (·<i) &&
  (if m<=i then(b9 i).all (fun j=>((bef ops.toList []).getD i 0).testBit j || (i==m && fr.contains j)) else !opTail (ops.getD i default).op)) &&
 ((b9 m).all fun i=>(b9 m).all fun j=>i==j || okPair ops (bef ops.toList []) i j) &&
 (fr.isEmpty || (decide (m<ops.size) && storeOp (ops.getD m default) && fr.all fun j=>decide (j<m) && freeOp ops m j))
theorem mask_foldl (acc:List Nat) (t:Nat):∀ (l:List Nat) (s:Nat),(l.foldl (fun s j=>s ||| (2 ^ j ||| acc.getD j 0)) s).testBit t=true ->
  s.testBit t=true\/∃ j∈l,t=j\/(acc.getD j 0).testBit t=true
 | [],s,h=>.inl h
 | j :: l,s,h=>by
   rcases mask_foldl acc t l _ h with h | ⟨k,hk,h⟩
   ·rw [aey,aey,iy,iy] at h;rcases h with h | h | h
    ·exact gR
    ·rw [Nat.testBit_two_pow] at h;exact .inr ⟨j,by simp,.inl (by simpa using h.symm:j=t).symm⟩
    exact .inr ⟨j,by simp,.inr h⟩
   exact .inr ⟨k,by simp [hk],h⟩
theorem bef_anc (ops:Array Oper):∀ (l:List Oper) (acc:List Nat),(∀ i,l[i]?=ops[acc.length+i]?)->(∀ i t,(acc.getD i 0).testBit t=true->Anc ops t i) ->
  ∀ i t,((bef l acc).getD i 0).testBit t=true->Anc ops t i
 | [],acc,_,h=>h
 | o :: r,acc,hl,h=>by
   refine bef_anc ops r (acc++[mask acc o]) (fun i=>?_) (fun i t ht=>?_)
   ·have:=hl (i+1);simp only [abZ] at this;rw [this];congr 1;simp;omega
   by_cases hi:i<acc.length
   ·rw [ao,abw hi,<-ao] at ht;exact h i t ht
   by_cases he:i=acc.length
   ·subst he;have ho:ops[acc.length]?=some o:=by have:=hl 0;simpa using this.symm
    rw [ao,uX J] at ht;simp only [jy,ke,iY] at ht;rcases mask_foldl acc t (dirs o) 0 ht with h0 | ⟨j,hj,rfl | h2⟩
    ·simp at h0
    ·exact .one ho hj
    exact .step (h j t h2) ho hj
   have:(acc++[mask acc o]).getD i 0=0:=by
    rw [ao,List.getElem?_eq_none al];rfl
   rw [this] at ht;simp at ht
theorem ready_spec {ops:Array Oper} {cb:Array Bool} (_hsz:cb.size=ops.size) {i:Nat}:i∈Region.ready .any ops cb ↔
  ∃ o,ops[i]?=some o/\cb.getD i true=false/\∀ j∈dirs o,cb.getD j false=true:=by
 unfold Region.ready;simp only [List.mem_filter,my,dG,nH];constructor
 ·rintro⟨h1,h2,h3⟩;refine⟨ops[i],jV h1,h2,fun j hj=>?_⟩;rw [jV h1] at h3;simp only [ju,iY,ael] at h3;simp only [dirs,nC] at hj;obtain⟨e,he,hj⟩:=hj;have:=h3 e (by simpa using he);split at hj
  ·rename_i hb;simp only [bF] at hj;subst hj;simpa [hb] using this
  cases hj
 rintro⟨o,h1,h2,h3⟩;have hi:=(eB.1 h1).1;refine⟨hi,h2,?_⟩;rw [h1];simp only [ju,iY,ael];intro e he
 cases hb:Region.binds .any e with
 | false=>simp
 | true =>
  have:=h3 e.on (by simp only [dirs,nC];exact⟨e,by simpa using he,by simp [hb]⟩);simpa using this
theorem countP_lt {α:Type} (p q:α->Bool):∀ (l:List α),(∀ x∈l,p x=true->q x=true)->(∃ x∈l,q x=true/\p x=false)->l.countP p<l.countP q
 | [],_,⟨x,hx,_⟩=>by simp at hx
 | y :: l,h,⟨x,hx,h1,h2⟩=>by
   have hle:∀ (l:List α),(∀ x∈l,p x=true->q x=true)->l.countP p<=l.countP q:=fun l h=>List.countP_mono_left h;simp only [List.countP_cons];rcases List.mem_cons.1 hx with rfl | hx
   ·have:=hle l (fun z hz=>h z (by simp [hz]));simp [h1,h2];omega
   have ih:=countP_lt p q l (fun z hz=>h z (by simp [hz])) ⟨x,hx,h1,h2⟩;have hy:=h y aj
   cases hp:p y with
   | false=>simp;split<;>omega
   | true=>simp [hy hp];omega
theorem wpAny_inv {P:Program} {ops:Array Oper} {Q:Exit->Act->World->Prop} (Inv:Array Bool->Act->World->Prop)
  (nZ:∀ i o,ops[i]?=some o->∀ j∈dirs o,j<i)
  (se:∀ cb a w i o,cb.size=ops.size->Inv cb a w->ops[i]?=some o->cb.getD i true=false->(∀ j∈dirs o,cb.getD j false=true) ->
   if Region.wanted o (yielded ops a.tmps) then o.wp P a w (fun a' w'=>Inv (cb.setIfInBounds i true) a' w') Q else Inv (cb.setIfInBounds i true) (a.put o.dst undef) w)
  (abF:∀ cb a w,cb.size=ops.size->Inv cb a w->(∀ i,i<ops.size->cb.getD i false=true)->Q .normal a w) :
  ∀ (fuel:Nat) (cb:Array Bool) (a:Act) (w:World),cb.size=ops.size->(b9 ops.size).countP (fun i=>!cb.getD i true)<=fuel->Inv cb a w->wpAny P .any ops Q fuel cb a w:=by
 have bM:∀ (cb:Array Bool),cb.size=ops.size->Region.ready .any ops cb=[]->∀ i,i<ops.size->cb.getD i false=true:=by
  intro cb hsz hr i
  induction i using sT with
  | _ i ih =>
   intro hi
   cases hl:cb.getD i false with
   | true=>rfl
   | false =>
    have h1:cb.getD i true=false:=by
     rw [aM,jV J] at hl ⊢;simpa using hl
    have:i∈Region.ready .any ops cb:=(ready_spec hsz).2 ⟨ops[i],jV hi,h1,fun j hj=>by
     have cW:=nZ i _ (jV hi) j hj;exact ih j cW J⟩
    rw [hr] at this;cases this
 intro fuel
 induction fuel with
 | zero =>
  intro cb a w hsz hc hI;have hr:Region.ready .any ops cb=[]:=by
   apply List.eq_nil_iff_forall_not_mem.2;intro i hi;obtain⟨o,h1,h2,_⟩:=(ready_spec hsz).1 hi;have gC:0<(b9 ops.size).countP (fun i=>!cb.getD i true) :=
    List.countP_pos_iff.2 ⟨i,by simpa using (eB.1 h1).1,by rw [h2];rfl⟩
   omega
  exact⟨hr,abF cb a w hsz hI (bM cb hsz hr)⟩
 | succ fuel ih =>
  intro cb a w hsz hc hI;refine⟨fun hr=>abF cb a w hsz hI (bM cb hsz hr),fun i hi=>?_⟩;obtain⟨o,h1,h2,h3⟩:=(ready_spec hsz).1 hi;have fv:=(eB.1 h1).1;have hs:=se cb a w i o hsz hI h1 h2 h3;have agX:(b9 ops.size).countP (fun k=>!(cb.setIfInBounds i true).getD k true)<(b9 ops.size).countP (fun k=>!cb.getD k true):=by
   apply countP_lt
   ·intro k _ hk;by_cases e:i=k
    ·subst e;rw [aM,eh J] at hk;simp at hk
    rw [aM,bR e] at hk;rw [aM];exact hk
   refine⟨i,by simpa using fv,by rw [h2];rfl,?_⟩;rw [aM,eh J];rfl
  have acr:∀ a' w',Inv (cb.setIfInBounds i true) a' w'->wpAny P .any ops Q fuel (cb.setIfInBounds i true) a' w':=fun a' w' h =>
   ih _ a' w' (by simpa using hsz) J h
  unfold wpOp;rw [h1];simp only;split
  ·rename_i hw;rw [if_pos hw] at hs;exact .inl (Oper.wp_mono acr hs)
  rename_i hw;rw [if_neg hw] at hs;exact acr _ _ hs
end Go.Lg
namespace Go.Lg
theorem Heap.le_refl (H:Heap):H.le H:=fun _ blk h=>⟨blk.mt,h,fun h=>h,fun h1 h2=>by rw [h1] at h2;cases h2⟩
theorem Heap.le_trans {H H' H'':Heap} (h:H.le H') (h':H'.le H''):H.le H'':=fun b blk hb=>by
 obtain⟨m,g1,g2,g3⟩:=h b blk hb;obtain⟨m',k1,k2,k3⟩:=h' b _ g1;refine⟨m',k1,fun e=>k2 (g2 e),fun e1 e2=>?_⟩
 cases hm:m with
 | false=>exact g3 e1 hm
 | true=>exact k3 hm e2
section
variable {P:Program} {W w:World} {X:XS} {Z0 Z:Nat->Prop} {μ:Nat->Option Nat} {a:Act} {n:Nat} {ops:Array Oper}
theorem opsL_chain {K:St->Prop}:∀ (l:List Oper) (L:St),opsL P true ops l L K->∃ f:Nat->St,f 0=L/\(∀ i o,l[i]?=some o->Step P true ops o (f i) (f (i+1)))/\K (f l.length)
 | [],L,h=>⟨fun _=>L,rfl,fun i o h=>by simp at h,h⟩
 | o :: r,L,⟨L',h1,h2⟩=>by
   obtain⟨f,g1,g2,g3⟩:=opsL_chain r L' h2;refine⟨fun i=>match i with | 0=>L | i+1=>f i,rfl,fun i o' h=>?_,g3⟩
   cases i with
   | zero=>simp only [ke,bF] at h;subst h;rw [<-g1] at h1;exact h1
   | succ i=>exact g2 i o' dX
theorem OpT.tail {L L':St} {dst:Option Tmp} {op:Op} (h:OpT P L dst op L'):opTail op=true:=by cases h<;>rfl
theorem step_tail {o:Oper} {L L':St} (ht:opTail o.op=false) (h:Step P true ops o L L'):L.heap.le L'.heap/\∀ t,o.dst≠some t->L'.slot t=L.slot t:=by
 have fb:∀ (r:LV) t,o.dst≠some t->(L.put o.dst r).slot t=L.slot t:=fun r t ak=>by
  unfold St.put
  cases hd:o.dst with
  | none=>rfl
  | some d=>exact(put_slot L d r t).trans (if_neg (fun e=>ak (by rw [hd,e])))
 cases h with
 | skip hg h=>subst h;exact⟨by rw [put_heap];exact Heap.le_refl _,fb _⟩
 | val hg hle aY ho h=>subst h;exact⟨hle,fb _⟩
 | st hg ho =>
  obtain⟨dst,op,ty,pos,after,g⟩:=o
  cases ho<;>simp [opTail] at ht
 | stM cd _ _=>cases cd
open Classical in
noncomputable def slotD (ops:Array Oper) (f:Nat->St) (m:Nat) (D:Array Bool) (t:Nat):LV :=
 if ∃ i o,i<m/\D.getD i false=true/\ops[i]?=some o/\o.dst=some t then(f m).slot t else(f 0).slot t
def killO:Option Nat->LV->LV
 | none,x=>x
 | some b,x=>x.kill b
noncomputable def slotC (ops:Array Oper) (f:Nat->St) (m:Nat) (dm:Option Tmp) (kb:Option Nat) (D:Array Bool) (t:Nat):LV :=
 if dm=some t then(f (m+1)).slot t else killO kb (slotD ops f m D t)
def newAt (f:Nat->St) (i b:Nat):Prop:=(f i).heap b=none/\(f (i+1)).heap b≠none
theorem draw_coreX {m id:Nat} {fr:List Nat} {K:St->Prop} {Q:Exit->Act->World->Prop} {L:St} {f:Nat->St} (cE:P.follows .mixedOrders=true) (hs:Sim n W X Z0 L a w)
  (f0:f 0=L) (lB:∀ i o,ops[i]?=some o->i<m\/fr≠[]->Step P true ops o (f i) (f (i+1)))
  (fsB:∀ i o,ops[i]?=some o->m<=i->∀ (a:Act) (w:World) (K:Act->World->Prop) (Q:Exit->Act->World->Prop),Sim n W X Z0 (f i) a w->(∀ t,o.dst=some t->t<n)->(∀ a' w',Sim n W X Z0 (f (i+1)) a' w'->K a' w')->if Region.wanted o (yielded ops a.tmps) then o.wp P a w K Q else K (a.put o.dst undef) w) (fK:K (f ops.size)) (oe:m<=ops.size) (nZ:∀ i o,ops[i]?=some o->∀ j∈dirs o,j<i)
  (nD:∀ i o,ops[i]?=some o->m<=i->∀ j,j<i->Anc ops j i\/(i=m/\j∈fr)) (jO:∀ i o,ops[i]?=some o->i<m->opTail o.op=false)
  (oS:∀ i j oi oj d,ops[i]?=some oi->ops[j]?=some oj->i<m->j<m->i≠j->oj.dst=some d->oi.dst≠some d/\(d∈oi.looksAt ops->if j<i then Anc ops j i else Anc ops i j))
  (sd:∀ j o,ops[j]?=some o->j∈fr->j<m/\m<ops.size/\(∀ om,ops[m]?=some om->om.guard=none/\((om.dst=none/\∃ T p x,om.op=.store T p x)\/∃ d xs ts,om.dst=some d/\om.op=.call ⟨.builtin .append,xs,ts⟩) /\
    (∀ d,o.dst=some d->d∉om.looksAt ops/\om.dst≠some d)/\∀ d,om.dst=some d->d∉o.looksAt ops) /\
   o.guard=none/\((∃ x,o.op=.move x)\/(∃ q T x y U,o.op=.binOp q T x y U/\∀ om,ops[m]?=some om->om.dst=none)\/(∃ x i,o.op=.extract x i/\∀ om,ops[m]?=some om->om.dst=none) \/
    ((∀ om,ops[m]?=some om->om.dst=none)/\∃ r,OpV P (f (m+1)).heap (f j).ev (o.dst.getD 0) o.op r []/\∀ t,o.dst=some t->(f (j+1)).slot t=r)))
  (hd:∀ o∈ops.toList,∀ t,o.dst=some t->t<n) (hq:∀ L' a' w',K L'->Sim n W X Z0 L' a' w'->Q .normal a' w') :
  (Code.region id ops true).wp P Q a w:=by
 have di:∀ i o,ops[i]?=some o->ops.getD i default=o:=fun i o h=>by rw [aM,h];rfl
 have kO:∀ i o,ops[i]?=some o->i<ops.size:=fun i o h=>(eB.1 h).1;have sc:∀ i,i<ops.size->∃ o,ops[i]?=some o:=fun i h=>⟨_,jV h⟩;have se:∀ i o,ops[i]?=some o->i<m->(f i).heap.le (f (i+1)).heap/\∀ t,o.dst≠some t->(f (i+1)).slot t=(f i).slot t:=fun i o h dq=>step_tail (jO i o h dq) (lB i o h (.inl dq));have hle:∀ i j,i<=j->j<=m->(f i).heap.le (f j).heap:=by
  intro i j ss
  induction j with
  | zero =>
   intro _;have:i=0:=J;subst this;exact Heap.le_refl _
  | succ j ih =>
   intro fL;by_cases e:i=j+1
   ·subst e;exact Heap.le_refl _
   obtain⟨o,ho⟩:=sc j J;exact Heap.le_trans (ih J J) (se j o ho J).1
 have hconst:∀ i j t,i<=j->j<=m->(∀ k o,i<=k->k<j->ops[k]?=some o->o.dst≠some t)->(f j).slot t=(f i).slot t:=by
  intro i j t ss
  induction j with
  | zero =>
   intro _ _;have:i=0:=J;subst this;rfl
  | succ j ih =>
   intro fL hk;by_cases e:i=j+1
   ·subst e;rfl
   obtain⟨o,ho⟩:=sc j J;rw [(se j o ho J).2 t (hk j o J J ho)];exact ih J J (fun k o h1 h2=>hk k o h1 J)
 have zb:∀ i j b,i<=j->j<=m->(f i).heap b≠none->(f j).heap b≠none:=fun i j b ss fL hb=>by
  obtain⟨blk,af2⟩:=zJ.1 hb;obtain⟨mm,g,_⟩:=hle i j ss fL b blk af2;rw [g];simp
 have abc:∀ i o t,ops[i]?=some o->i<m->o.dst=some t->(f m).slot t=(f (i+1)).slot t:=fun i o t ho dq g8 =>
  hconst (i+1) m t J (an _) (fun k ok h1 h2 hk e=>(oS i k o ok t ho hk dq h2 J e).1 g8)
 let closed:Array Bool->Prop:=fun D=>∀ i o,ops[i]?=some o->D.getD i false=true->∀ j∈dirs o,D.getD j false=true
 have tE:∀ D,closed D->∀ j i,Anc ops j i->(∀ o,ops[i]?=some o->∀ k∈dirs o,D.getD k false=true)->D.getD j false=true:=by
  intro D hD j i hA
  induction hA with
  | @one i o ho h=>intro hr;exact hr o ho _ h
  | @step k i o hA ho hk ih=>intro hr;exact ih (fun o' jH k' jb=>hD k o' jH (hr o ho k hk) k' jb)
 let qD:Array Bool->Act->World->Prop:=fun D a w=>(∀ i,D.getD i false=true->i<m)/\a.defers=[]/\a.tmps.size=n/\∃ μ Z,Core W X Z0 μ Z (f m).heap w /\
  (∀ b,μ b≠none->(f 0).heap b≠none\/∃ i,i<m/\D.getD i false=true/\newAt f i b)/\∀ t,RepV Z μ w (slotD ops f m D t) (a.tmps.getD t undef)
 let rh:Array Bool->Act->World->Prop:=fun D a w=>∃ k,m<=k/\(∀ i,i<ops.size->(D.getD i false=true↔i<k))/\k<=ops.size/\Sim n W X Z0 (f k) a w
 let rQ:Array Bool->Act->World->Prop:=fun D a w=>m<ops.size/\(∃ om kb,ops[m]?=some om/\(om.dst=none->kb=none)/\(∀ t,om.dst≠some t->(f (m+1)).slot t=killO kb ((f m).slot t)) /\
  Sim n W X Z0 ⟨slotC ops f m om.dst kb D,(f (m+1)).heap⟩ a w)/\(∀ i,D.getD i false=true->i<=m)/\D.getD m false=true/\(∀ i,i<m->i∉fr->D.getD i false=true)
 have xf:∀ D a w,qD D a w->(∀ i,i<m->D.getD i false=true)->Sim n W X Z0 (f m) a w:=by
  rintro D a w ⟨_,bj,hsz,μ,Z,hc,_,hr⟩ bM;refine⟨bj,hsz,μ,Z,hc,fun t=>?_⟩;have:=hr t;unfold slotD at this;split at this
  ·exact this
  rename_i fX;rw [hconst 0 m t (az _) (an _) (fun k o _ eA hk e=>fX ⟨k,o,eA,bM k eA,hk,e⟩)];exact this
 refine wp_region_any cE (wpAny_inv (fun D a w=>closed D/\(qD D a w\/rh D a w\/rQ D a w)) nZ ?_ ?_ ops.size _ _ _ aj ?_ ?_)
 ·
  intro D a w i o hDs ⟨eQ,hI⟩ ho mV mA;have nJ:=kO i o ho;have tI:D.getD i false=false:=by
   rw [aM,jV J] at mV ⊢;simpa using mV
  have fk:∀ k,(D.setIfInBounds i true).getD k false=true↔k=i\/D.getD k false=true:=fun k=>by
   by_cases e:i=k
   ·subst e;rw [aM,eh J];simp
   rw [aM,bR e,<-aM];constructor
   ·exact fun h=>.inr h
   rintro(h | h)
   ·exact absurd h.symm e
   exact h
  have vI:closed (D.setIfInBounds i true):=fun k ok hk a6 j hj=>by
   rcases(fk k).1 a6 with rfl | h
   ·rw [ho] at hk;cases hk;exact(fk j).2 (.inr (mA j hj))
   exact(fk j).2 (.inr (eQ k ok hk h j hj))
  have uV:∀ o',ops[i]?=some o'->∀ k∈dirs o',D.getD k false=true:=fun o' jH k hk=>(by rw [ho] at jH;cases jH;exact mA k hk);have nz:∀ t,o.dst=some t->t<n:=hd o (by rw [rN];exact aeh ho);have tail:∀ k,m<=k->(∀ j,j<ops.size->(D.getD j false=true↔j<k))->k=i->Sim n W X Z0 (f k) a w ->
    if Region.wanted o (yielded ops a.tmps) then o.wp P a w (fun a' w'=>closed (D.setIfInBounds i true)/\(qD (D.setIfInBounds i true) a' w'\/rh (D.setIfInBounds i true) a' w'\/rQ (D.setIfInBounds i true) a' w')) Q
    else closed (D.setIfInBounds i true)/\(qD (D.setIfInBounds i true) (a.put o.dst undef) w\/rh (D.setIfInBounds i true) (a.put o.dst undef) w\/rQ (D.setIfInBounds i true) (a.put o.dst undef) w):=by
   intro k tY a6 e gJ;subst e;refine fsB k o ho tY a w (fun a' w'=>closed (D.setIfInBounds k true)/\(qD (D.setIfInBounds k true) a' w'\/rh (D.setIfInBounds k true) a' w'\/rQ (D.setIfInBounds k true) a' w')) _ gJ nz (fun a' w' cH=>⟨vI,.inr (.inl ⟨k+1,J,fun j hj=>?_,J,cH⟩)⟩);rw [fk j,a6 j hj];omega
  have aau:i<m->∀ t,t∈o.looksAt ops->(f i).slot t=slotD ops f m D t:=by
   intro dq t ht;by_cases hex:∃ j oj,j<m/\ops[j]?=some oj/\oj.dst=some t
   ·obtain⟨j,oj,fL,hj,nv⟩:=hex;have vJ:∀ k ok,k<m->ops[k]?=some ok->ok.dst=some t->k=j:=fun k ok eA hk ji =>
     im fun ak=>(oS k j ok oj t hk hj eA fL ak nv).1 ji
    by_cases cW:j=i
    ·subst cW;have e1:(f j).slot t=(f 0).slot t:=hconst 0 j t (az _) J (fun k ok _ hkj hk e=>by have:=vJ k ok J hk e;omega);have e2:slotD ops f m D t=(f 0).slot t:=by
      unfold slotD;rw [if_neg];rintro⟨k,ok,eA,a6,hk,ji⟩;have:=vJ k ok eA hk ji;subst this;rw [tI] at a6;cases a6
     rw [e1,e2]
    have hp:=(oS i j o oj t ho hj dq fL (Ne.symm cW) nv).2 ht;by_cases aG:j<i
    ·rw [if_pos aG] at hp;have lb:=tE D eQ j i hp uV;have e2:slotD ops f m D t=(f m).slot t:=by
      unfold slotD;rw [if_pos ⟨j,oj,fL,lb,hj,nv⟩]
     rw [e2,abc j oj t hj fL nv];exact hconst (j+1) i t J J (fun k ok gU eU hk e=>by have:=vJ k ok J hk e;omega)
    rw [if_neg aG] at hp;have e1:(f i).slot t=(f 0).slot t:=hconst 0 i t (az _) J (fun k ok _ eU hk e=>by have:=vJ k ok J hk e;omega);have e2:slotD ops f m D t=(f 0).slot t:=by
     unfold slotD;rw [if_neg];rintro⟨k,ok,eA,a6,hk,ji⟩;have:=vJ k ok eA hk ji;subst this;have:=tE D eQ i k hp (fun o' jH k' jb=>eQ k o' jH a6 k' jb);rw [tI] at this;cases this
    rw [e1,e2]
   have e1:(f i).slot t=(f 0).slot t:=hconst 0 i t (az _) J (fun k ok _ eU hk e=>hex ⟨k,ok,J,hk,e⟩);have e2:slotD ops f m D t=(f 0).slot t:=by
    unfold slotD;rw [if_neg];rintro⟨k,ok,eA,a6,hk,ji⟩;exact hex ⟨k,ok,eA,hk,ji⟩
   rw [e1,e2]
  have aaO:i<m->∀ t,slotD ops f m (D.setIfInBounds i true) t=if o.dst=some t then(f (i+1)).slot t else slotD ops f m D t:=by
   intro dq t;by_cases g8:o.dst=some t
   ·rw [if_pos g8];unfold slotD;rw [if_pos ⟨i,o,dq,(fk i).2 (.inl rfl),ho,g8⟩];exact abc i o t ho dq g8
   rw [if_neg g8];unfold slotD;congr 1;apply propext;constructor
   ·rintro⟨k,ok,eA,a6,hk,ji⟩;rcases(fk k).1 a6 with rfl | h
    ·rw [ho] at hk;cases hk;exact absurd ji g8
    exact⟨k,ok,eA,h,hk,ji⟩
   rintro⟨k,ok,eA,a6,hk,ji⟩;exact⟨k,ok,eA,(fk k).2 (.inr a6),hk,ji⟩
  have afu:(∀ j,j<m->D.getD j false=true)->∀ t,slotD ops f m D t=(f m).slot t:=by
   intro bM t;unfold slotD;split
   ·rfl
   rename_i fX;rw [hconst 0 m t (az _) (an _) (fun k o _ eA hk e=>fX ⟨k,o,eA,bM k eA,hk,e⟩)]
  rcases hI with hA | ⟨k,tY,a6,yl,gJ⟩ | ⟨uO,⟨om,kb,dN,pJ,uz,gJ⟩,pW,wk,xx⟩
  ·by_cases dq:i<m
   ·obtain⟨pW,bj,hsz,μ,Z,hc,fo,hr⟩:=hA;have aeS:∀ k,(D.setIfInBounds i true).getD k false=true->k<m:=fun k hk=>by
     rcases(fk k).1 hk with rfl | h
     ·exact dq
     exact pW k h
    have cC:∀ t,o.dst=some t->t<a.tmps.size:=fun t h=>by rw [hsz];exact nz t h
    have aez:∀ res,GuardIs ops (f i) o res->Region.wanted o (yielded ops a.tmps)=res:=by
     intro res hg;refine guard_wanted (L:=⟨slotD ops f m D,(f m).heap⟩) hr ?_;unfold GuardIs at hg ⊢
     cases h:o.guard with
     | none=>rw [h] at hg;exact hg
     | some p =>
      obtain⟨j,want⟩:=p;rw [h] at hg;obtain⟨d,q1,q⟩:=hg;have e:(f i).slot d=slotD ops f m D d:=aau dq d (by unfold Oper.looksAt;rw [h];simp [q1]);refine⟨d,q1,?_⟩;show (∃ b,slotD ops f m D d=_/\_)\/(slotD ops f m D d=_/\_);rw [<-e];exact q
    have xJ:∀ (r:LV) (v:Value) (w':World) (av:Nat->Option Nat) (Z':Nat->Prop),(∀ t,o.dst=some t->(f (i+1)).slot t=r)->Core W X Z0 av Z' (f m).heap w' ->
      (∀ b,av b≠none->μ b≠none\/newAt f i b)->(∀ t,RepV Z' av w' (slotD ops f m D t) (a.tmps.getD t undef))->RepV Z' av w' r v ->
      closed (D.setIfInBounds i true)/\(qD (D.setIfInBounds i true) (a.put o.dst v) w'\/rh (D.setIfInBounds i true) (a.put o.dst v) w'\/rQ (D.setIfInBounds i true) (a.put o.dst v) w'):=by
     intro r v w' av Z' gV nt wE fF hv;refine⟨vI,.inl ⟨aeS,by rw [put_defers];exact bj,by rw [put_size];exact hsz,av,Z',nt,fun b hb=>?_,fun t=>?_⟩⟩
     ·rcases wE b hb with h | h
      ·rcases fo b h with h | ⟨k,eA,a6,hk⟩
       ·exact gR
       exact .inr ⟨k,eA,(fk k).2 (.inr a6),hk⟩
      exact .inr ⟨i,dq,(fk i).2 (.inl rfl),h⟩
     rw [aaO dq t];have:=put_rep (L:=⟨slotD ops f m D,(f m).heap⟩) (d:=o.dst) cC fF hv t;split
     ·rename_i g8;rw [gV t g8];rw [g8,put_slot,if_pos rfl] at this;rw [g8];exact this
     rename_i g8
     cases jh:o.dst with
     | none=>rw [jh] at this;exact this
     | some d =>
      rw [jh] at this g8;rwa [put_slot,if_neg (fun e=>g8 (by rw [e]))] at this
    have agd:=lB i o ho (by first | exact .inl J | (refine .inr ?_;rintro rfl;simp_all))
    cases agL:agd with
    | skip hg h =>
     rw [aez false hg];simp only [tC,if_false];exact xJ (.tup []) undef w μ Z (fun t ht=>by rw [h,ht,put_slot,if_pos rfl]) hc (fun b hb=>.inl hb) hr ⟨#[],rfl,rfl⟩
    | @val r fr H1 hg hH aY eY h =>
     rw [aez true hg];simp only [if_true];have mM:H1=(f (i+1)).heap:=by rw [h]
     have xG:H1.le (f m).heap:=by rw [mM];exact hle (i+1) m J (an _)
     have af5:=eY.le xG;obtain⟨dst,op,ty,pos,after,g⟩:=o;have aa2:∀ x∈op.operands,RepV Z μ w ((f i).ev x) (a.eval x):=by
      intro x hx
      cases x with
      | tmp t =>
       have ht:t∈Oper.looksAt ops ⟨dst,op,ty,pos,after,g⟩:=by
        unfold Oper.looksAt;simp only [eF,nC];exact .inl ⟨.tmp t,by simpa using hx,rfl⟩
       show RepV Z μ w ((f i).slot t) (a.tmps.getD t undef);rw [aau dq t ht];exact hr t
      | const v=>exact ev_rep (L:=⟨slotD ops f m D,(f m).heap⟩) hr (.const v)
      | func g=>exact ev_rep (L:=⟨slotD ops f m D,(f m).heap⟩) hr (.func g)
      | global g=>exact ev_rep (L:=⟨slotD ops f m D,(f m).heap⟩) hr (.global g)
     refine OpV.sound hc af5 aa2 (fun b blk hb=>?_) dst ty pos after g (fun v w' av Z' iv=>?_)
     ·obtain⟨q1,mm,q2,q3⟩:=aY b blk hb;obtain⟨m2,q4,q5,_⟩:=xG b _ q2;refine⟨m2,q4,fun e=>q5 (q3 e),?_⟩
      cases oT:μ b with
      | none=>rfl
      | some id =>
       rcases fo b (by rw [oT];simp) with h0 | ⟨k,eA,a6,fR,dk⟩
       ·exact absurd q1 (zb 0 i b (az _) J h0)
       have eU:k≠i:=by rintro rfl;rw [tI] at a6;cases a6
       by_cases aG:k<i
       ·exact absurd q1 (zb (k+1) i b J J dk)
       have:(f (i+1)).heap b≠none:=by rw [<-mM,q2];simp
       exact absurd fR (zb (i+1) k b J J this)
     refine xJ r v w' av Z' (fun t ht=>by rw [h];simp only at ht;subst ht;exact(put_slot _ _ _ _).trans (if_pos rfl)) iv.core (fun b hb=>?_) (fun t=>(hr t).mono iv.hz iv.hm iv.hf) iv.rep;rcases iv.new b hb with h' | h'
     ·exact .inl h'
     simp only [bS] at h';obtain⟨⟨b',blk⟩,lF,rfl⟩:=h';obtain⟨q1,mm,q2,_⟩:=aY b' blk lF;exact .inr ⟨q1,by rw [<-mM,q2];simp⟩
    | st hg jH =>
     have:=jO i o ho dq;rw [jH.tail] at this;cases this
    | stM cd _ _=>cases cd
   have yw:i=m:=by
    by_cases e:i=m
    ·exact e
    rcases nD i o ho J (i-1) J with h | ⟨h,_⟩
    ·have:=hA.1 (i-1) (tE D eQ _ i h uV);omega
    exact absurd h e
   by_cases bM:∀ j,j<i->D.getD j false=true
   ·subst yw;exact tail i (an _) (fun j hj=>⟨fun h=>hA.1 j h,fun h=>bM j h⟩) rfl (xf D a w hA bM)
   ·
    obtain⟨j0,hj0,afJ⟩:∃ j,j<i/\D.getD j false=false:=by
     obtain⟨j,h⟩:=afn.1 bM;obtain⟨h,h'⟩:=afx.1 h;exact⟨j,h,by simpa using h'⟩
    have hnf:∀ j,j<m->j∉fr->D.getD j false=true:=fun j hj hjf=>by
     rcases nD i o ho J j J with h | ⟨_,h⟩
     ·exact tE D eQ j i h uV
     exact absurd h hjf
    have afa:j0∈fr:=im fun h=>by have:=hnf j0 J h;rw [afJ] at this;cases this
    obtain⟨oj0,agn⟩:=sc j0 J;subst yw;obtain⟨_,uO,ba,_⟩:=sd j0 oj0 agn afa;obtain⟨fO,dT,_⟩:=ba o ho;have bg:∀ t,t∈o.looksAt ops->slotD ops f i D t=(f i).slot t:=by
     intro t ht;unfold slotD;split
     ·rfl
     rename_i fX;refine(hconst 0 i t (az _) (an _) (fun k ok _ eU hk e=>fX ⟨k,ok,eU,?_,hk,e⟩)).symm;by_cases qH:k∈fr
     ·exact absurd ht (((sd k ok hk qH).2.2.1 o ho).2.2.1 t e).1
     exact hnf k eU qH
    have bl:∀ y,y∈o.op.operands->St.ev ⟨slotD ops f i D,(f i).heap⟩ y=(f i).ev y:=by
     intro y hy
     cases y with
     | tmp t =>
      show slotD ops f i D t=(f i).slot t;refine bg t ?_;unfold Oper.looksAt;simp only [eF,nC];exact .inl ⟨.tmp t,by simpa using hy,rfl⟩
     | const v=>rfl
     | func g=>rfl
     | global g=>rfl
    have lp:Sim n W X Z0 ⟨slotD ops f i D,(f i).heap⟩ a w:=by
     obtain⟨_,bj,hsz,μ,Z,hc,_,hr⟩:=hA;exact⟨bj,hsz,μ,Z,hc,hr⟩
    have uw:∃ kb,(o.dst=none->kb=none)/\(∀ t,o.dst≠some t->(f (i+1)).slot t=killO kb ((f i).slot t)) /\
      Step P true ops o ⟨slotD ops f i D,(f i).heap⟩ ⟨slotC ops f i o.dst kb D,(f (i+1)).heap⟩:=by
     have dj:=lB i o ho (by first | exact .inl J | (refine .inr ?_;rintro rfl;simp_all));obtain⟨dst,op,ty,pos,after,g⟩:=o;simp only at fO dT;rcases dT with⟨dt,T,p,x,dT⟩ | ⟨d,xs,ts,dt,dT⟩
     ·subst fO dt dT;have e1:=bl p aE;have e2:=bl x aE
      cases dj with
      | skip hg h=>cases hg
      | val hg hle aY eY h =>
       cases eY with
       | pure h=>cases h
       | alloc h=>cases h
       | call h=>cases h
      | st hg jd =>
       generalize x7:f (i+1)=F at jd
       cases jd with
       | store hp hb hs hm hi hy fb hT ak =>
        refine⟨none,fun _=>rfl,fun t _=>rfl,.st rfl ?_⟩;have:=OpT.store (P:=P) (L:=⟨slotD ops f i D,(f i).heap⟩) (dst:=none) (x:=x) (e1.trans hp) hb hs hm hi hy (by rw [e2];exact fb) (by rw [e2];exact hT) (by rw [e2];exact ak);exact this
      | stM cd _ _=>cases cd
     subst fO dt dT
     cases dj with
     | skip hg h=>cases hg
     | val hg hle aY eY h =>
      cases eY with
      | pure h=>cases h
      | alloc h=>cases h
      | call h=>cases h
     | st hg jd =>
      generalize x7:f (i+1)=F at jd
      cases jd with
      | @appX T U E E' d1 b sz len blk x y news z bu hx hb hs hm hlen cm bC hT hU hz hE a7 cU hy hsz ck aT =>
       have e1:=bl x dI;have e2:=bl y dI;refine⟨some b,(fun h=>by cases h),fun t ht=>?_,.st rfl ?_⟩
       ·exact(put_slot _ _ _ _).trans (if_neg (fun e=>ht (by rw [e])))
       have:=OpT.appX (P:=P) (L:=⟨slotD ops f i D,(f i).heap⟩) (dst:=some d) (x:=x) (y:=y) (e1.trans hx) hb hs hm hlen cm bC hT hU hz hE a7 cU (by rw [e2];exact hy) hsz ck aT;have hq:(⟨slotC ops f i (some d) (some b) D,((((f i).kill b).setB d1 (some ⟨sz,kills b (blk.vals.take len++news),true⟩)).put (some d) (.ref d1 sz 0 (len+news.length))).heap⟩:St) =
         (((St.kill ⟨slotD ops f i D,(f i).heap⟩ b).setB d1 (some ⟨sz,kills b (blk.vals.take len++news),true⟩)).put (some d) (.ref d1 sz 0 (len+news.length))):=by
        show (⟨_,_⟩:St)=⟨_,_⟩;congr 1;funext t;unfold slotC;rw [x7,put_slot];refine Eq.trans ?_ (put_slot _ _ _ _).symm;by_cases e:t=d
        ·subst e;rw [if_pos rfl,if_pos rfl,if_pos rfl]
        rw [if_neg (by simpa using fun h=>e h.symm),if_neg e];rfl
       rw [hq];exact this
      | @app0X T U E E' d1 sz x y news z bu hx cm hT hU hz hE a7 cU hy hn hsz ck aT =>
       have e1:=bl x dI;have e2:=bl y dI;refine⟨none,(fun h=>by cases h),fun t ht=>?_,.st rfl ?_⟩
       ·exact(put_slot _ _ _ _).trans (if_neg (fun e=>ht (by rw [e])))
       have:=OpT.app0X (P:=P) (L:=⟨slotD ops f i D,(f i).heap⟩) (dst:=some d) (x:=x) (y:=y) (e1.trans hx) cm hT hU hz hE a7 cU (by rw [e2];exact hy) hn hsz ck aT;have hq:(⟨slotC ops f i (some d) none D,((((f i).setB d1 (some ⟨sz,news,true⟩)).put (some d) (.ref d1 sz 0 news.length))).heap⟩:St) =
         (((St.setB ⟨slotD ops f i D,(f i).heap⟩ d1 (some ⟨sz,news,true⟩)).put (some d) (.ref d1 sz 0 news.length))):=by
        show (⟨_,_⟩:St)=⟨_,_⟩;congr 1;funext t;unfold slotC;rw [x7,put_slot];refine Eq.trans ?_ (put_slot _ _ _ _).symm;by_cases e:t=d
        ·subst e;rw [if_pos rfl,if_pos rfl,if_pos rfl]
        rw [if_neg (by simpa using fun h=>e h.symm),if_neg e];rfl
       rw [hq];exact this
     | stM cd _ _=>cases cd
    obtain⟨kb,pJ,agk,uw⟩:=uw;refine step_sound lp uw nz (K:=fun a' w'=>closed (D.setIfInBounds i true)/\(qD (D.setIfInBounds i true) a' w'\/rh (D.setIfInBounds i true) a' w'\/rQ (D.setIfInBounds i true) a' w')) (fun a' w' cH=>⟨vI,.inr (.inr ⟨uO,⟨o,kb,ho,pJ,agk,?_⟩,fun k hk=>?_,(fk i).2 (.inl rfl),fun k hk qH=>(fk k).2 (.inr (hnf k hk qH))⟩)⟩)
    ·have:slotD ops f i (D.setIfInBounds i true)=slotD ops f i D:=by
      funext t;unfold slotD;congr 1;apply propext;constructor
      ·rintro⟨k,ok,eA,a6,hk,ji⟩;rcases(fk k).1 a6 with rfl | h
       ·omega
       exact⟨k,ok,eA,h,hk,ji⟩
      rintro⟨k,ok,eA,a6,hk,ji⟩;exact⟨k,ok,eA,(fk k).2 (.inr a6),hk,ji⟩
     have e:slotC ops f i o.dst kb (D.setIfInBounds i true)=slotC ops f i o.dst kb D:=by
      funext t;unfold slotC;rw [this]
     rw [e];exact cH
    rcases(fk k).1 hk with rfl | h
    ·exact an _
    have:=hA.1 k h;omega
  ·have hik:k<=i:=by
    by_cases e:i<k
    ·have:=(a6 i nJ).2 e;rw [tI] at this;cases this
    omega
   have:k=i:=by
    by_cases e:k=i
    ·exact e
    rcases nD i o ho J k J with h | ⟨h,_⟩
    ·have:=tE D eQ k i h uV;have:=(a6 k J).1 this;omega
    omega
   exact tail k tY a6 this gJ
  ·
   have aeT:i≠m:=by rintro rfl;rw [tI] at wk;cases wk
   by_cases dq:i<m
   ·have hif:i∈fr:=im fun h=>by have:=xx i dq h;rw [tI] at this;cases this
    obtain⟨_,_,ba,fO,dT⟩:=sd i o ho hif;obtain⟨_,_,dV,o7⟩:=ba om dN;have aci:∀ t,t∈o.looksAt ops->slotC ops f m om.dst kb D t=killO kb ((f i).slot t):=fun t ht=>by
     unfold slotC;rw [if_neg (fun e=>o7 t e ht),<-aau dq t ht]
    have acm:∀ t,Operand.tmp t∈o.op.operands->t∈o.looksAt ops:=fun t hy=>by
     unfold Oper.looksAt;simp only [eF,nC];exact .inl ⟨.tmp t,by simpa using hy,rfl⟩
    have bl:kb=none->∀ y,y∈o.op.operands->(f i).ev y=St.ev ⟨slotC ops f m om.dst kb D,(f (m+1)).heap⟩ y:=by
     intro hk y hy
     cases y with
     | tmp t =>
      show (f i).slot t=slotC ops f m om.dst kb D t;rw [aci t (acm t hy),hk];rfl
     | const v=>rfl
     | func g=>rfl
     | global g=>rfl
    have aeO:∀ y,y∈o.op.operands->St.ev ⟨slotC ops f m om.dst kb D,(f (m+1)).heap⟩ y=killO kb ((f i).ev y):=by
     intro y hy
     cases y with
     | tmp t=>exact aci t (acm t hy)
     | const v =>
      show (if _ then _ else _:LV)=killO kb (if _ then _ else _)
      cases kb<;>split<;>rfl
     | func g=>cases kb<;>rfl
     | global g=>cases kb<;>rfl
    by_cases abV:∃ r,OpV P (f (m+1)).heap (f i).ev (o.dst.getD 0) o.op r []/\(∀ t,o.dst=some t->(f (i+1)).slot t=r)/\om.dst=none
    ·obtain⟨r,eY,gV,hnd⟩:=abV;have ew:=pJ hnd;obtain⟨bj,hsz,μ,Z,hc,hr⟩:=gJ;have cC:∀ t,o.dst=some t->t<a.tmps.size:=fun t h=>by rw [hsz];exact nz t h
     have afV:Region.wanted o (yielded ops a.tmps)=true:=guard_wanted (L:=⟨slotC ops f m om.dst kb D,(f (m+1)).heap⟩) hr (by unfold GuardIs;rw [fO]);rw [afV];simp only [if_true];have iv:=aaO dq;obtain⟨dst,op,ty,pos,after,g⟩:=o;have aa2:∀ x∈op.operands,RepV Z μ w ((f i).ev x) (a.eval x):=by
      intro x hx;have h1:=ev_rep (L:=⟨slotC ops f m om.dst kb D,(f (m+1)).heap⟩) hr x;rwa [<-bl ew x hx] at h1
     refine OpV.sound hc eY aa2 (fun b blk hb=>by cases hb) dst ty pos after g (fun v w' av Z' vp=>?_);refine⟨vI,.inr (.inr ⟨uO,⟨om,kb,dN,pJ,uz,by rw [put_defers];exact bj,by rw [put_size];exact hsz,av,Z',vp.core,fun t=>?_⟩,fun k hk=>?_,(fk m).2 (.inr wk),fun k hk qH=>(fk k).2 (.inr (xx k hk qH))⟩)⟩
     ·have h1:=put_rep (L:=⟨slotC ops f m om.dst kb D,(f (m+1)).heap⟩) (d:=dst) cC (fun t=>(hr t).mono vp.hz vp.hm vp.hf) vp.rep t;have e:slotC ops f m om.dst kb (D.setIfInBounds i true) t=(St.put ⟨slotC ops f m om.dst kb D,(f (m+1)).heap⟩ dst r).slot t:=by
       unfold slotC;rw [iv t,hnd,ew]
       cases dst with
       | none=>rw [if_neg (c:=(none:Option Tmp)=some t) aj,if_neg (c:=(none:Option Tmp)=some t) aj];rfl
       | some d =>
        rw [if_neg (c:=(none:Option Tmp)=some t) aj,put_slot];by_cases e:t=d
        ·subst e;rw [if_pos rfl,if_pos rfl];exact gV t rfl
        rw [if_neg (c:=(some d:Option Tmp)=some t) (by simpa using fun h=>e h.symm),if_neg e];show killO none (slotD ops f m D t)=if (none:Option Tmp)=some t then(f (m+1)).slot t else killO none (slotD ops f m D t)
        rw [if_neg aj]
      show RepV Z' av w' (slotC ops f m om.dst kb (D.setIfInBounds i true) t) _;rw [e];exact h1
     rcases(fk k).1 hk with rfl | h
     ·omega
     exact pW k h
    replace dT:(∃ x,o.op=.move x)\/(∃ q T x y U,o.op=.binOp q T x y U/\∀ om,ops[m]?=some om->om.dst=none)\/(∃ x i,o.op=.extract x i/\∀ om,ops[m]?=some om->om.dst=none):=by
     rcases dT with h | h | h | ⟨h1,r,h2,h3⟩
     ·exact gR
     ·exact .inr (.inl h)
     ·exact .inr (.inr h)
     exact absurd ⟨r,h2,h3,h1 om dN⟩ abV
    have uw:Step P true ops o ⟨slotC ops f m om.dst kb D,(f (m+1)).heap⟩ ⟨slotC ops f m om.dst kb (D.setIfInBounds i true),(f (m+1)).heap⟩:=by
     have dj:=lB i o ho (by first | exact .inl J | (refine .inr ?_;rintro rfl;simp_all));have iv:=aaO dq;obtain⟨dst,op,ty,pos,after,g⟩:=o;simp only at fO dT iv dV;subst fO;have yO:∀ r,OpP P (f (m+1)).heap (St.ev ⟨slotC ops f m om.dst kb D,(f (m+1)).heap⟩) op (killO kb r)->(∀ t,dst=some t->(f (i+1)).slot t=r)->Step P true ops ⟨dst,op,ty,pos,after,none⟩ ⟨slotC ops f m om.dst kb D,(f (m+1)).heap⟩ ⟨slotC ops f m om.dst kb (D.setIfInBounds i true),(f (m+1)).heap⟩:=by
      intro r hr gV;refine .val rfl (Heap.le_refl _) (fr:=[]) (fun _ _ h=>by cases h) (.pure hr) ?_;show (_:St)=⟨_,_⟩;congr 1;funext t;unfold slotC;rw [iv t]
      cases dst with
      | none=>rw [if_neg (c:=(none:Option Tmp)=some t) aj];rfl
      | some d =>
       show _=(St.put _ (some d) _).slot t;rw [put_slot];by_cases e:t=d
       ·subst e;rw [if_neg (dV t rfl).2,if_pos rfl,if_pos rfl,gV t rfl]
       rw [if_neg (c:=(some d:Option Tmp)=some t) (by simpa using fun h=>e h.symm),if_neg e]
     cases dj with
     | skip hg h=>cases hg
     | @val r fr' H1 hg hle aY eY h =>
      have gV:∀ t,dst=some t->(f (i+1)).slot t=r:=fun t ht=>by rw [h];simp only;subst ht;exact(put_slot _ _ _ _).trans (if_pos rfl)
      rcases dT with⟨x,rfl⟩ | ⟨q,T,x,y,U,rfl,hnd⟩ | ⟨x,i,rfl,hnd⟩
      ·cases eY with
       | pure hp =>
        cases hp with
        | move =>
         refine yO _ ?_ gV;rw [<-aeO x aE];exact .move x
       | alloc hp=>cases hp
       | call hp=>cases hp
      ·have ew:=pJ (hnd om dN);have e1:=bl ew x aE;have e2:=bl ew y aE
       cases eY with
       | pure hp =>
        refine yO _ ?_ gV;rw [ew] at e1 e2 ⊢
        cases hp with
        | bin hx hy hb=>exact .bin (e1.symm.trans hx) (e2.symm.trans hy) hb
        | sh hx hy hb=>exact .sh (e1.symm.trans hx) (e2.symm.trans hy) hb
        | beq hx hy hb=>exact .beq (e1.symm.trans hx) (e2.symm.trans hy) hb
        | bne hx hy hb=>exact .bne (e1.symm.trans hx) (e2.symm.trans hy) hb
       | alloc hp=>cases hp
       | call hp=>cases hp
      have ew:=pJ (hnd om dN);have e1:=bl ew x aE
      cases eY with
      | pure hp =>
       refine yO _ ?_ gV;rw [ew] at e1 ⊢
       cases hp with
       | extract ht hr ak=>exact .extract (e1.symm.trans ht) hr ak
      | alloc hp=>cases hp
      | call hp=>cases hp
     | st hg jd=>rcases dT with⟨x,rfl⟩ | ⟨q,T,x,y,U,rfl,_⟩ | ⟨x,i,rfl,_⟩<;>cases jd
     | stM cd _ _=>cases cd
    refine step_sound gJ uw nz (K:=fun a' w'=>closed (D.setIfInBounds i true)/\(qD (D.setIfInBounds i true) a' w'\/rh (D.setIfInBounds i true) a' w'\/rQ (D.setIfInBounds i true) a' w')) (fun a' w' cH=>⟨vI,.inr (.inr ⟨uO,⟨om,kb,dN,pJ,uz,cH⟩,fun k hk=>?_,(fk m).2 (.inr wk),fun k hk qH=>(fk k).2 (.inr (xx k hk qH))⟩)⟩);rcases(fk k).1 hk with rfl | h
    ·omega
    exact pW k h
   have bM:∀ j,j<i->D.getD j false=true:=fun j hj=>by
    rcases nD i o ho J j hj with h | ⟨h,_⟩
    ·exact tE D eQ j i h uV
    exact absurd h aeT
   have yw:i=m+1:=by
    by_cases e:i=m+1
    ·exact e
    have:=pW (m+1) (bM (m+1) J);omega
   refine tail (m+1) J (fun j hj=>⟨fun h=>by have:=pW j h;omega,fun h=>bM j J⟩) yw.symm ?_;have bg:=afu (fun j hj=>bM j J);have:(⟨slotC ops f m om.dst kb D,(f (m+1)).heap⟩:St)=f (m+1):=by
    show (⟨_,_⟩:St)=⟨_,_⟩;congr 1;funext t;unfold slotC;split
    ·rfl
    rename_i e;rw [bg t,uz t e]
   rw [<-this];exact gJ
 ·
  rintro D a w hDs ⟨eQ,hI⟩ bM;rcases hI with hA | ⟨k,tY,a6,yl,gJ⟩ | ⟨uO,⟨om,kb,dN,pJ,uz,gJ⟩,pW,wk,xx⟩
  ·have aeR:m=ops.size:=by
    by_cases e:m=ops.size
    ·exact e
    have:=hA.1 m (bM m J);omega
   exact hq _ a w (aeR ▸ fK) (xf D a w hA (fun i hi=>bM i J))
  ·have:k=ops.size:=by
    by_cases e:k=ops.size
    ·exact e
    have:=(a6 k J).1 (bM k J);omega
   subst this;exact hq _ a w fK gJ
  have ja:m+1=ops.size:=by
   by_cases e:m+1=ops.size
   ·exact e
   have:=pW (m+1) (bM (m+1) J);omega
  have bg:slotD ops f m D=(f m).slot:=by
   funext t;unfold slotD;split
   ·rfl
   rename_i fX;rw [hconst 0 m t (az _) (an _) (fun k o _ eA hk e=>fX ⟨k,o,eA,bM k J,hk,e⟩)]
  have:(⟨slotC ops f m om.dst kb D,(f (m+1)).heap⟩:St)=f (m+1):=by
   show (⟨_,_⟩:St)=⟨_,_⟩;congr 1;funext t;unfold slotC;split
   ·rfl
   rename_i e;rw [bg,uz t e]
  exact hq _ a w (ja ▸ fK) (this ▸ gJ)
 ·
  refine aw List.countP_le_length ?_;simp
 ·
  have vO:∀ i,(gX ops.size false).getD i false=false:=fun i=>by
   rw [aM,Array.getElem?_replicate];split<;>rfl
  refine⟨fun i o _ h=>(by rw [vO] at h;cases h),.inl ⟨fun i h=>(by rw [vO] at h;cases h),?_⟩⟩;rw [<-f0] at hs;obtain⟨bj,hsz,μ,Z,hc,hr⟩:=hs;obtain⟨Z1,k1,k2⟩:=hc.widen (hle 0 m (az _) (an _));have aeQ:∀ (w':World),w'.heap=w.heap->Frame Z μ w w':=fun w' h=>⟨fun _ _=>by rw [h],fun _ id _ c _ _ hh=>⟨c,by rw [h];exact hh,rfl⟩⟩;have agb:∀ (w':World),w'.heap=w.heap->Frame Z1 μ w w':=fun w' h=>⟨fun _ _=>by rw [h],fun _ id _ c _ _ hh=>⟨c,by rw [h];exact hh,rfl⟩⟩;refine⟨bj,hsz,μ,Z1,⟨⟨k1.keep.os,k1.keep.tape,k1.keep.output,k1.keep.size,k1.keep.block,k1.keep.xsz⟩,k1.zone,k1.zsup,k1.zsub,k1.inj,k1.own,k1.x0,k1.xlt,k1.x1,k1.mutz,k1.frz,fun b id hb=>?_⟩,fun b hb=>?_,fun t=>?_⟩
  ·obtain⟨blk,g1,g2⟩:=k1.heap b id hb;exact⟨blk,g1,g2.mono (fun _ h=>h) (fun _ _ h=>h) (agb _ rfl) rfl⟩
  ·left;obtain⟨id,uZ⟩:=zJ.1 hb;obtain⟨blk,g1,_⟩:=hc.heap b id uZ;rw [g1];simp
  have:slotD ops f m (gX ops.size false) t=(f 0).slot t:=by
   unfold slotD;rw [if_neg];rintro⟨i,o,_,h,_⟩;rw [vO] at h;cases h
  rw [this];exact(hr t).mono k2 (fun _ _ h=>h) (aeQ { w with drawn:=w.drawn+1 } rfl)
theorem draw_core {m id:Nat} {fr:List Nat} {K:St->Prop} {Q:Exit->Act->World->Prop} {L:St} {f:Nat->St} (cE:P.follows .mixedOrders=true) (hs:Sim n W X Z0 L a w)
  (f0:f 0=L) (lB:∀ i o,ops[i]?=some o->Step P true ops o (f i) (f (i+1))) (fK:K (f ops.size)) (oe:m<=ops.size) (nZ:∀ i o,ops[i]?=some o->∀ j∈dirs o,j<i)
  (nD:∀ i o,ops[i]?=some o->m<=i->∀ j,j<i->Anc ops j i\/(i=m/\j∈fr)) (jO:∀ i o,ops[i]?=some o->i<m->opTail o.op=false)
  (oS:∀ i j oi oj d,ops[i]?=some oi->ops[j]?=some oj->i<m->j<m->i≠j->oj.dst=some d->oi.dst≠some d/\(d∈oi.looksAt ops->if j<i then Anc ops j i else Anc ops i j))
  (sd:∀ j o,ops[j]?=some o->j∈fr->j<m/\m<ops.size/\(∀ om,ops[m]?=some om->om.guard=none/\((om.dst=none/\∃ T p x,om.op=.store T p x)\/∃ d xs ts,om.dst=some d/\om.op=.call ⟨.builtin .append,xs,ts⟩) /\
    (∀ d,o.dst=some d->d∉om.looksAt ops/\om.dst≠some d)/\∀ d,om.dst=some d->d∉o.looksAt ops) /\
   o.guard=none/\((∃ x,o.op=.move x)\/(∃ q T x y U,o.op=.binOp q T x y U/\∀ om,ops[m]?=some om->om.dst=none)\/(∃ x i,o.op=.extract x i/\∀ om,ops[m]?=some om->om.dst=none) \/
    ((∀ om,ops[m]?=some om->om.dst=none)/\∃ r,OpV P (f (m+1)).heap (f j).ev (o.dst.getD 0) o.op r []/\∀ t,o.dst=some t->(f (j+1)).slot t=r)))
  (hd:∀ o∈ops.toList,∀ t,o.dst=some t->t<n) (hq:∀ L' a' w',K L'->Sim n W X Z0 L' a' w'->Q .normal a' w') :
  (Code.region id ops true).wp P Q a w :=
 draw_coreX cE hs f0 (fun i o ho _=>lB i o ho) (fun i o ho _ a w K Q gJ nz hK=>step_sound gJ (lB i o ho) nz hK) fK oe nZ nD jO oS sd hd hq
theorem draw_sound {m id:Nat} {fr:List Nat} {K:St->Prop} {Q:Exit->Act->World->Prop} {L:St} (cE:P.follows .mixedOrders=true) (cF:drawOk ops m fr=true) (hs:Sim n W X Z0 L a w)
  (hL:opsL P true ops ops.toList L K) (hd:∀ o∈ops.toList,∀ t,o.dst=some t->t<n) (hq:∀ L' a' w',K L'->Sim n W X Z0 L' a' w'->Q .normal a' w') :
  (Code.region id ops true).wp P Q a w:=by
 obtain⟨f,f0,fs,fK⟩:=opsL_chain _ _ hL;have lB:∀ i o,ops[i]?=some o->Step P true ops o (f i) (f (i+1)):=fun i o h=>fs i o dX;rw [gG] at fK;unfold drawOk at cF;simp only [dG,decide_eq_true_eq,ie,my] at cF;obtain⟨⟨⟨oe,h1⟩,h2⟩,h3⟩:=cF;have di:∀ i o,ops[i]?=some o->ops.getD i default=o:=fun i o h=>by rw [aM,h];rfl
 have kO:∀ i o,ops[i]?=some o->i<ops.size:=fun i o h=>(eB.1 h).1;have sc:∀ i,i<ops.size->∃ o,ops[i]?=some o:=fun i h=>⟨_,jV h⟩;have nZ:∀ i o,ops[i]?=some o->∀ j∈dirs o,j<i:=fun i o h j hj=>by
  have:=(h1 i (kO i o h)).1 j (by rw [di i o h];exact hj);simpa using this
 have mO:=bef_anc ops ops.toList [] (fun i=>by simp) (fun i t h=>by simp at h);have nD:∀ i o,ops[i]?=some o->m<=i->∀ j,j<i->Anc ops j i\/(i=m/\j∈fr):=fun i o h oc j hj=>by
  have:=(h1 i (kO i o h)).2;rw [if_pos oc] at this;have:=(ie.1 this) j (by simpa using hj);simp only [iy,dG,beq_iff_eq,gk] at this;rcases this with g | g
  ·exact .inl (mO i j (by simpa using g))
  exact .inr g
 have jO:∀ i o,ops[i]?=some o->i<m->opTail o.op=false:=fun i o h oc=>by
  have:=(h1 i (kO i o h)).2;rw [if_neg J,di i o h] at this;simpa using this
 have oS:∀ i j oi oj d,ops[i]?=some oi->ops[j]?=some oj->i<m->j<m->i≠j->oj.dst=some d->oi.dst≠some d/\(d∈oi.looksAt ops->if j<i then Anc ops j i else Anc ops i j):=by
  intro i j oi oj d hi hj dq fL ak nv;have:=h2 i dq j fL;simp only [iy,beq_iff_eq] at this;rcases this with h | h
  ·exact absurd h ak
  unfold okPair at h;rw [di j oj hj,di i oi hi,nv] at h;simp only [dG,bne_iff_ne,ne_eq,iy,nH] at h;refine⟨h.1,fun mC=>?_⟩;rcases h.2 with h' | h'
  ·rw [gk.2 mC] at h';cases h'
  split
  ·rename_i aG;rw [if_pos aG] at h';exact mO i j h'
  rename_i aG;rw [if_neg aG] at h';exact mO j i h'
 have sd:∀ j o,ops[j]?=some o->j∈fr->j<m/\m<ops.size/\(∀ om,ops[m]?=some om->om.guard=none/\((om.dst=none/\∃ T p x,om.op=.store T p x)\/∃ d xs ts,om.dst=some d/\om.op=.call ⟨.builtin .append,xs,ts⟩) /\
    (∀ d,o.dst=some d->d∉om.looksAt ops/\om.dst≠some d)/\∀ d,om.dst=some d->d∉o.looksAt ops) /\
   o.guard=none/\((∃ x,o.op=.move x)\/(∃ q T x y U,o.op=.binOp q T x y U/\∀ om,ops[m]?=some om->om.dst=none)\/(∃ x i,o.op=.extract x i/\∀ om,ops[m]?=some om->om.dst=none) \/
    ((∀ om,ops[m]?=some om->om.dst=none)/\∃ r,OpV P (f (m+1)).heap (f j).ev (o.dst.getD 0) o.op r []/\∀ t,o.dst=some t->(f (j+1)).slot t=r)):=by
  intro j o ho hj;simp only [iy,List.isEmpty_iff,dG,decide_eq_true_eq,ie] at h3;rcases h3 with h3 | ⟨⟨hm,ba⟩,bM⟩
  ·rw [h3] at hj;cases hj
  obtain⟨fL,hf⟩:=bM j hj;unfold freeOp at hf;rw [di j o ho] at hf;simp only [dG,lT] at hf;obtain⟨⟨⟨nA,gD⟩,lf⟩,tV⟩:=hf;refine⟨fL,hm,fun om dN=>?_,nA,?_⟩
  ·unfold storeOp at ba;rw [di m om dN] at ba lf tV;simp only [dG,lT] at ba;refine⟨ba.1,?_,fun d hd=>⟨fun mC=>?_,fun e=>?_⟩,fun d hd mC=>?_⟩
   ·have:=ba.2;split at this
    ·rename_i T p x e;exact .inl ⟨lT.1 this,T,p,x,e⟩
    ·rename_i xs ts e;obtain⟨d,hd⟩:=Option.isSome_iff_exists.1 this;exact .inr ⟨d,xs,ts,hd,e⟩
    cases this
   ·rw [hd] at lf;simp only [gk.2 mC] at lf
    cases lf
   ·rw [hd,e] at lf;simp at lf
   rw [hd] at tV;simp only [gk.2 mC] at tV
   cases tV
  split at gD
  ·rename_i x e;exact .inl ⟨x,e⟩
  ·rename_i q T x y U e;exact .inr (.inl ⟨q,T,x,y,U,e,fun om dN=>by rw [di m om dN] at gD;exact lT.1 gD⟩)
  ·rename_i x i e;exact .inr (.inr (.inl ⟨x,i,e,fun om dN=>by rw [di m om dN] at gD;exact lT.1 gD⟩))
  cases gD
 exact draw_core cE hs f0 lB fK oe nZ nD jO oS sd hd hq
def freeOpH (ops:Array Oper) (m j:Nat):Bool :=
 (ops.getD j default).guard.isNone && (match (ops.getD j default).op with | .makeSlice ..=>false | .buildSlice ..=>false | .box ..=>false | .alloc ..=>false | _=>true) &&
 (match (ops.getD j default).dst with | some d=>!((ops.getD m default).looksAt ops).contains d | none=>false)
def drawOkH (ops:Array Oper) (m:Nat) (fr:List Nat):Bool :=
 decide (m<ops.size) &&
 (b9 ops.size).all (fun i=>(dirs (ops.getD i default)).all (·<i) &&
  (if m<=i then(b9 i).all (fun j=>((bef ops.toList []).getD i 0).testBit j || (i==m && fr.contains j)) else !opTail (ops.getD i default).op)) &&
 ((b9 m).all fun i=>(b9 m).all fun j=>i==j || okPair ops (bef ops.toList []) i j) &&
 ((ops.getD m default).guard.isNone && (ops.getD m default).dst.isNone && (match (ops.getD m default).op with | .store ..=>true | _=>false)) &&
 (fr.all fun j=>decide (j<m) && freeOpH ops m j)
theorem step_show {o:Oper} {L L':St} {b:Nat} {x:Blk} (ht:opTail o.op=false) (hL:L.heap b=none) (hL':L'.heap b=none) (h:Step P true ops o L L'):Step P true ops o (L.setB b (some x)) (L'.setB b (some x)):=by
 have fb:∀ (d:Option Tmp) (r:LV),(L.put d r).setB b (some x)=(L.setB b (some x)).put d r:=fun d r=>by cases d<;>rfl
 have hG:∀ res,GuardIs ops L o res->GuardIs ops (L.setB b (some x)) o res:=fun res h=>h
 cases h with
 | skip hg h=>exact .skip (hG _ hg) (by rw [h,fb])
 | @val r fr H1 hg hle aY ho h =>
  have mM:H1 b=none:=by rw [h] at hL';exact hL'
  have agu:∀ {A B:Heap},A.le B->A b=none->Heap.le (fun c=>if c=b then some x else A c) (fun c=>if c=b then some x else B c):=fun {A B} aW hA c blk hc=>by
   change (if c=b then some x else A c)=some blk at hc;show ∃ m,(if c=b then some x else B c)=_/\_;by_cases e:c=b
   ·rw [if_pos e] at hc ⊢
    cases hc
    exact⟨x.mt,rfl,fun h=>h,fun h1 h2=>by rw [h1] at h2;cases h2⟩
   rw [if_neg e] at hc ⊢;exact aW c blk hc
  have zS:H1.le (fun c=>if c=b then some x else H1 c):=fun c blk hc=>by
   have e:c≠b:=fun e=>by subst e;rw [mM] at hc;cases hc
   exact⟨blk.mt,by show (if c=b then _ else _)=_;rw [if_neg e];exact hc,fun h=>h,fun h1 h2=>by rw [h1] at h2;cases h2⟩
  refine .val (r:=r) (fr:=fr) (H1:=fun c=>if c=b then some x else H1 c) (hG _ hg) (agu hle hL) (fun c blk hc=>?_) (ho.le zS) (by rw [h];cases o.dst<;>rfl);obtain⟨q1,mm,q2,q3⟩:=aY c blk hc;have e:c≠b:=fun e=>by subst e;rw [mM] at q2;cases q2
  exact⟨by show (if c=b then _ else _)=_;rw [if_neg e];exact q1,mm,by show (if c=b then _ else _)=_;rw [if_neg e];exact q2,q3⟩
 | st hg ho =>
  obtain⟨dst,op,ty,pos,after,g⟩:=o;rw [ho.tail] at ht;cases ht
 | stM cd _ _=>cases cd
theorem drawH_sound {m id b:Nat} {fr:List Nat} {x0:Blk} {K:St->Prop} {Q:Exit->Act->World->Prop} {L:St} (cE:P.follows .mixedOrders=true) (cF:drawOkH ops m fr=true) (hs:Sim n W X Z0 L a w) (hb:L.heap b=some x0)
  (hL:opsL P true ops (ops.toList.take m) (L.setB b none) (fun Lm=>Lm.heap b=none/\(fr.all fun j=>match (ops.getD j default).dst with | some d=>(Lm.heap (callName d 1)).isNone | none=>true)=true /\
   (∀ om,ops[m]?=some om->∃ T p v i o,om.op=.store T p v/\Lm.ev p=.eptr b x0.sz i o)/\opsL P true ops (ops.toList.drop m) (Lm.setB b (some x0)) K))
  (hd:∀ o∈ops.toList,∀ t,o.dst=some t->t<n) (hq:∀ L' a' w',K L'->Sim n W X Z0 L' a' w'->Q .normal a' w') :
  (Code.region id ops true).wp P Q a w:=by
 obtain⟨g,g0,gs,gK,gN,gP,gT⟩:=opsL_chain _ _ hL;unfold drawOkH at cF;simp only [dG,decide_eq_true_eq,ie,my] at cF;obtain⟨⟨⟨⟨oe,h1⟩,h2⟩,ba⟩,h3⟩:=cF;have di:∀ i o,ops[i]?=some o->ops.getD i default=o:=fun i o h=>by rw [aM,h];rfl
 have kO:∀ i o,ops[i]?=some o->i<ops.size:=fun i o h=>(eB.1 h).1;have hlen:(ops.toList.take m).length=m:=by rw [bZ,gG];omega
 rw [hlen] at gK gN gP gT;obtain⟨e,e0,es,eK⟩:=opsL_chain _ _ gT;have gs':∀ i o,ops[i]?=some o->i<m->Step P true ops o (g i) (g (i+1)):=fun i o h hi=>gs i o (by rw [List.getElem?_take,if_pos hi];simpa using h);have jO:∀ i o,ops[i]?=some o->i<m->opTail o.op=false:=fun i o h oc=>by
  have:=(h1 i (kO i o h)).2;rw [if_neg J,di i o h] at this;simpa using this
 have sc:∀ i,i<ops.size->∃ o,ops[i]?=some o:=fun i h=>⟨_,jV h⟩;have gle:∀ i j,i<=j->j<=m->(g i).heap.le (g j).heap:=by
  intro i j ss
  induction j with
  | zero =>
   intro _;have:i=0:=J;subst this;exact Heap.le_refl _
  | succ j ih =>
   intro fL;by_cases q:i=j+1
   ·subst q;exact Heap.le_refl _
   obtain⟨o,ho⟩:=sc j J;exact Heap.le_trans (ih J J) (step_tail (jO j o ho J) (gs' j o ho J)).1
 have gb:∀ i,i<=m->(g i).heap b=none:=fun i hi=>by
  cases hq:(g i).heap b with
  | none=>rfl
  | some blk =>
   obtain⟨mm,q,_⟩:=gle i m hi (an _) b blk hq;rw [gK] at q;cases q
 let f:Nat->St:=fun i=>if i<=m then(g i).setB b (some x0) else e (i-m)
 have fm:∀ i,i<=m->f i=(g i).setB b (some x0):=fun i hi=>if_pos hi;have ft:∀ i,m<=i->f i=e (i-m):=fun i hi=>by
  show (if i<=m then _ else _)=_;by_cases q:i<=m
  ·have:i=m:=J;subst this;rw [if_pos q,jy,e0]
  rw [if_neg q]
 have f0:f 0=L:=by
  rw [fm 0 (az _),g0];obtain⟨sl,hp⟩:=L;show (⟨sl,fun c=>if c=b then some x0 else(if c=b then none else hp c)⟩:St)=⟨sl,hp⟩;congr 1;funext c;split
  ·rename_i q;subst q;exact hb.symm
  rfl
 have lB:∀ i o,ops[i]?=some o->Step P true ops o (f i) (f (i+1)):=fun i o ho=>by
  by_cases dq:i<m
  ·rw [fm i J,fm (i+1) J];exact step_show (jO i o ho dq) (gb i J) (gb (i+1) J) (gs' i o ho dq)
  rw [ft i J,ft (i+1) J,show i+1-m=i-m+1 by omega];refine es (i-m) o ?_;rw [List.getElem?_drop,show m+(i-m)=i by omega];simpa using ho
 have fK:K (f ops.size):=by
  rw [ft _ J];rw [fJ,gG] at eK;exact eK
 have nZ:∀ i o,ops[i]?=some o->∀ j∈dirs o,j<i:=fun i o h j hj=>by
  have:=(h1 i (kO i o h)).1 j (by rw [di i o h];exact hj);simpa using this
 have mO:=bef_anc ops ops.toList [] (fun i=>by simp) (fun i t h=>by simp at h);have nD:∀ i o,ops[i]?=some o->m<=i->∀ j,j<i->Anc ops j i\/(i=m/\j∈fr):=fun i o h oc j hj=>by
  have:=(h1 i (kO i o h)).2;rw [if_pos oc] at this;have:=(ie.1 this) j (by simpa using hj);simp only [iy,dG,beq_iff_eq,gk] at this;rcases this with g | g
  ·exact .inl (mO i j (by simpa using g))
  exact .inr g
 have oS:∀ i j oi oj d,ops[i]?=some oi->ops[j]?=some oj->i<m->j<m->i≠j->oj.dst=some d->oi.dst≠some d/\(d∈oi.looksAt ops->if j<i then Anc ops j i else Anc ops i j):=by
  intro i j oi oj d hi hj dq fL ak nv;have:=h2 i dq j fL;simp only [iy,beq_iff_eq] at this;rcases this with h | h
  ·exact absurd h ak
  unfold okPair at h;rw [di j oj hj,di i oi hi,nv] at h;simp only [dG,bne_iff_ne,ne_eq,iy,nH] at h;refine⟨h.1,fun mC=>?_⟩;rcases h.2 with h' | h'
  ·rw [gk.2 mC] at h';cases h'
  split
  ·rename_i aG;rw [if_pos aG] at h';exact mO i j h'
  rename_i aG;rw [if_neg aG] at h';exact mO j i h'
 have aaD:∀ om,ops[m]?=some om->om.guard=none/\om.dst=none/\∃ T p x,om.op=.store T p x:=fun om dN=>by
  rw [di m om dN] at ba;refine⟨lT.1 ba.1.1,lT.1 ba.1.2,?_⟩;have:=ba.2;split at this
  ·rename_i T p x q;exact⟨T,p,x,q⟩
  cases this
 have hHm:(g m).heap.le (f (m+1)).heap:=by
  obtain⟨om,dN⟩:=sc m oe;obtain⟨q1,q2,_⟩:=aaD om dN;obtain⟨T,p,v,ii,oo,q3,q4⟩:=gP om dN;have dj:=lB m om dN;rw [fm m (an _)] at dj;obtain⟨dst,op,ty,pos,after,gd⟩:=om;simp only at q1 q2 q3;subst q1 q2 q3;intro c blk hc;have fA:c≠b:=fun q=>by subst q;rw [gK] at hc;cases hc
  cases dj with
  | skip hg h=>cases hg
  | val hg hle aY eY h =>
   cases eY with
   | pure h=>cases h
   | alloc h=>cases h
   | call h=>cases h
  | st hg jd =>
   generalize x7:f (m+1)=F at jd ⊢
   cases jd with
   | store hp mT gf hm hi hy fb hT ak =>
    have e1:(LV.eptr _ _ _ _)=LV.eptr b x0.sz ii oo:=hp.symm.trans q4
    cases e1
    exact⟨blk.mt,by
     show (if c=b then _ else if c=b then _ else(g m).heap c)=_;rw [if_neg fA,if_neg fA];exact hc,fun h=>h,fun h1 h2=>by rw [h1] at h2;cases h2⟩
  | stM cd _ _=>cases cd
 refine draw_core cE hs f0 lB fK J nZ nD jO oS ?_ hd hq;intro j o ho hj;have tp:=h3 j hj;obtain⟨fL,hf⟩:=tp;unfold freeOpH at hf;rw [di j o ho] at hf;simp only [dG,lT] at hf;obtain⟨⟨nA,gD⟩,lf⟩:=hf;refine⟨fL,oe,fun om dN=>?_,nA,.inr (.inr (.inr ⟨fun om dN=>(aaD om dN).2.1,?_⟩))⟩
 ·obtain⟨q1,q2,q3⟩:=aaD om dN;refine⟨q1,.inl ⟨q2,q3⟩,fun d jh=>⟨fun mC=>?_,fun q=>by rw [q2] at q;cases q⟩,fun d jh=>by rw [q2] at jh;cases jh⟩;rw [jh,di m om dN] at lf;simp only [gk.2 mC] at lf
  cases lf
 have hsj:=gs' j o ho fL;have bl:∀ y,(f j).ev y=(g j).ev y:=fun y=>by rw [fm j J];rfl
 have bg:∀ t,(f (j+1)).slot t=(g (j+1)).slot t:=fun t=>by rw [fm (j+1) J];rfl
 cases hsj with
 | skip hg h=>unfold GuardIs at hg;rw [nA] at hg;cases hg
 | @val r fr' H1 hg hle aY eY h =>
  have mM:H1=(g (j+1)).heap:=by rw [h]
  have xG:H1.le (f (m+1)).heap:=by rw [mM];exact Heap.le_trans (gle (j+1) m J (an _)) hHm
  have gV:∀ t,o.dst=some t->(f (j+1)).slot t=r:=fun t ht=>by rw [bg,h];simp only [ht];exact(put_slot _ _ _ _).trans (if_pos rfl)
  refine⟨r,?_,gV⟩;have agw:(f j).ev=(g j).ev:=funext bl;rw [agw];have pH:=eY.le xG;obtain⟨dst,op,ty,pos,after,gd⟩:=o;simp only at gD pH eY aY
  cases pH with
  | pure h=>exact .pure h
  | alloc h=>cases h<;>cases gD
  | @call bs h =>
   cases bs with
   | nil=>exact .call h
   | cons x bs =>
    exfalso;obtain⟨_,mm,q2,_⟩:=aY (callName (dst.getD 0) 1) x aj;have er:=ie.1 gN j hj;rw [di j _ ho] at er;simp only at er;rw [mM] at q2;obtain⟨_,q4,_⟩:=gle (j+1) m J (an _) _ _ q2
    cases dst with
    | none=>simp at lf
    | some d =>
     simp only [iY] at q4;change ((g m).heap (callName d 1)).isNone=true at er;rw [q4] at er;cases er
 | st hg pF =>
  have:=jO j o ho fL;obtain⟨dst,op,ty,pos,after,gd⟩:=o;rw [pF.tail] at this;cases this
 | stM cd _ _=>cases cd
def anyL (P:Program) (ops:Array Oper):Nat->Array Bool->St->(St->Prop)->Prop
 | 0,D,L,K=>Region.ready .any ops D=[]/\K L
 | fuel+1,D,L,K=>(Region.ready .any ops D=[]->K L)/\∀ i∈Region.ready .any ops D,∃ o L',ops[i]?=some o/\Step P false ops o L L'/\anyL P ops fuel (D.setIfInBounds i true) L' K
theorem anyL_mono {K K':St->Prop} (hk:∀ L,K L->K' L):∀ (fuel:Nat) (D:Array Bool) (L:St),anyL P ops fuel D L K->anyL P ops fuel D L K'
 | 0,D,L,h=>⟨h.1,hk L h.2⟩
 | fuel+1,D,L,h=>⟨fun e=>hk L (h.1 e),fun i hi=>by obtain⟨o,L',h1,h2,h3⟩:=h.2 i hi;exact⟨o,L',h1,h2,anyL_mono hk fuel _ L' h3⟩⟩
theorem Sim.drew {L:St} {w':World} (hs:Sim n W X Z0 L a w) (hh:w'.heap=w.heap) (h1:w'.os=w.os) (h2:w'.tape=w.tape) (h3:w'.output=w.output):Sim n W X Z0 L a w':=by
 obtain⟨bj,hsz,μ,Z,hc,hr⟩:=hs;have aY:Frame Z μ w w':=⟨fun _ _=>by rw [hh],fun _ id _ c _ _ h=>⟨c,by rw [hh];exact h,rfl⟩⟩;refine⟨bj,hsz,μ,Z,⟨⟨h1.trans hc.keep.os,h2.trans hc.keep.tape,h3.trans hc.keep.output,by rw [hh];exact hc.keep.size,by rw [hh];exact hc.keep.block,by rw [hh];exact hc.keep.xsz⟩,by rw [hh];exact hc.zone,hc.zsup,hc.zsub,
  hc.inj,hc.own,hc.x0,hc.xlt,hc.x1,hc.mutz,hc.frz,fun b id hb=>?_⟩,fun t=>(hr t).mono (fun _ h=>h) (fun _ _ h=>h) aY⟩
 obtain⟨blk,g1,g2⟩:=hc.heap b id hb;exact⟨blk,g1,g2.mono (fun _ h=>h) (fun _ _ h=>h) aY (by rw [hh])⟩
theorem anyL_sound {K:St->Prop} {Q:Exit->Act->World->Prop} (hd:∀ o∈ops.toList,∀ t,o.dst=some t->t<n) (hq:∀ L' a' w',K L'->Sim n W X Z0 L' a' w'->Q .normal a' w') :
  ∀ (fuel:Nat) (D:Array Bool) (L:St) (a:Act) (w:World),Sim n W X Z0 L a w->anyL P ops fuel D L K->wpAny P .any ops Q fuel D a w
 | 0,D,L,a,w,hs,h=>⟨h.1,hq L a w h.2 hs⟩
 | fuel+1,D,L,a,w,hs,h=>by
   refine⟨fun e=>hq L a w (h.1 e) hs,fun i hi=>?_⟩;obtain⟨o,L',h1,h2,h3⟩:=h.2 i hi;unfold wpOp;rw [h1];simp only;have:=step_sound (Q:=Q) (K:=wpAny P .any ops Q fuel (D.setIfInBounds i true)) hs h2 (hd o (by rw [rN];exact aeh h1)) (fun a' w' cH=>anyL_sound hd hq fuel _ L' a' w' cH h3);split
   ·rename_i hw;rw [if_pos hw] at this;exact .inl this
   rename_i hw;rw [if_neg hw] at this;exact this
theorem any_sound {id:Nat} {K:St->Prop} {Q:Exit->Act->World->Prop} {L:St} (cE:P.follows .mixedOrders=true) (hs:Sim n W X Z0 L a w)
  (hL:anyL P ops ops.size (gX ops.size false) L K) (hd:∀ o∈ops.toList,∀ t,o.dst=some t->t<n) (hq:∀ L' a' w',K L'->Sim n W X Z0 L' a' w'->Q .normal a' w') :
  (Code.region id ops true).wp P Q a w :=
 wp_region_any cE (anyL_sound hd hq _ _ L a _ (hs.drew rfl rfl rfl rfl) hL)
end
section
variable {P:Program} {ops:Array Oper}
theorem getD_sz {D:Array Bool} {i:Nat} (h:i<D.size) (a b:Bool):D.getD i a=D.getD i b:=by
 rw [aM,aM,jV h];rfl
end
end Go.Lg
namespace Go.Lg
inductive LEx where
 | normal
 | exit (id:Nat)
 | ret
def thenL (K:St->Prop) (Q:LEx->St->Prop):LEx->St->Prop
 | .normal,L=>K L
 | e,L=>Q e L
def blockL (id:Nat) (Q:LEx->St->Prop):LEx->St->Prop
 | .exit i,L=>if i=id then Q .normal L else Q (.exit i) L
 | e,L=>Q e L
def dstsOk (n:Nat):Code->Bool
 | .region _ ops _=>ops.toList.all fun o=>match o.dst with | some t=>decide (t<n) | none=>true
 | .seq x y=>dstsOk n x && dstsOk n y
 | .cond _ x y=>dstsOk n x && dstsOk n y
 | .block _ c=>dstsOk n c
 | .loop c=>dstsOk n c
 | _=>true
def PostL (n:Nat) (W:World) (X:XS) (Z0:Nat->Prop) (Q:LEx->St->Prop):Exit->Act->World->Prop
 | .normal,a,w=>∃ L,Q .normal L/\Sim n W X Z0 L a w
 | .exit id,a,w=>∃ L,Q (.exit id) L/\Sim n W X Z0 L a w
 | .ret,a,w=>∃ L,Q .ret L/\Sim n W X Z0 L a w
 | _,_,_=>False
def wpL (P:Program):Code->(LEx->St->Prop)->St->Prop
 | .skip,Q,L=>Q .normal L
 | .region _ ops d,Q,L=>∃ L0,Weak L L0/\(((d=true->∃ m fr,drawOk ops m fr=true)/\opsL P d ops ops.toList L0 (Q .normal))\/(d=true/\anyL P ops ops.size (gX ops.size false) L0 (Q .normal)) \/
   ∀ n W X Z0 a w,Sim n W X Z0 L0 a w->dstsOk n (.region 0 ops d)=true->∀ id,(Code.region id ops d).wp P (PostL n W X Z0 Q) a w)
 | .seq x y,Q,L=>wpL P x (thenL (wpL P y Q) Q) L
 | .cond c x y,Q,L=>∃ t,L.ev c=.v (.bool t)/\(t=true->wpL P x Q L)/\(t=false->wpL P y Q L)
 | .block id c,Q,L=>wpL P c (blockL id Q) L
 | .loop c,Q,L=>∀ I:St->Prop,(∀ L,wpL P c (thenL (fun L'=>∃ tW,Weak L' tW/\I tW) Q) L->I L)->∃ L0,Weak L L0/\I L0
 | .exit id,Q,L=>Q (.exit id) L
 | .ret,Q,L=>Q .ret L
 | _,_,_=>False
section
variable {P:Program} {W w w':World} {X:XS} {Z0 Z:Nat->Prop} {μ:Nat->Option Nat} {H:Heap} {a:Act} {L L':St} {n:Nat}
def LoopIn (P:Program) (c:Code) (Q:Exit->Act->World->Prop) (a:Act) (w:World):Prop :=
 ∀ b k cs,∃ e a' w',Q e a' w'/\Arrives P (lone (b.at a (.code c :: .inLoop c :: k)) cs w) b k cs e a' w'
theorem loopIn_step {c:Code} {Q:Exit->Act->World->Prop} {a:Act} {w:World} (h:c.wp P (Exit.then (LoopIn P c Q) Q) a w):LoopIn P c Q a w:=by
 intro b k cs;obtain⟨e,uJ,uE,hq,qz⟩:=h b (.inLoop c :: k) cs
 cases e with
 | normal =>
  obtain⟨agB,agD,aga,afA,agA⟩:=hq b k cs;exact⟨agB,agD,aga,afA,.of_steps (Steps.trans qz (.one step_inLoop)) agA⟩
 | exit id=>exact⟨_,uJ,uE,hq,.pass (x:=.inLoop c) rfl (fun _ _=>.inl aj) qz⟩
 | goto l=>exact⟨_,uJ,uE,hq,.pass (x:=.inLoop c) rfl (fun _ _=>.inl aj) qz⟩
 | ret=>exact⟨_,uJ,uE,hq,.pass (x:=.inLoop c) rfl (fun _ _=>.inl aj) qz⟩
 | panic ch=>exact⟨_,uJ,uE,hq,.pass (x:=.inLoop c) rfl (fun _ _=>.inl aj) qz⟩
 | outgrown=>exact⟨_,uJ,uE,hq,.pass (x:=.inLoop c) rfl (fun _ _=>.inl aj) qz⟩
theorem loopIn_wp {c:Code} {Q:Exit->Act->World->Prop} {a:Act} {w:World} (h:LoopIn P c Q a w):(Code.loop c).wp P Q a w:=by
 intro b k cs;obtain⟨e,a',w',hq,qz⟩:=h b k cs;exact⟨e,a',w',hq,.of_steps (.one step_loop) qz⟩
theorem wpL_sound (cE:P.follows .mixedOrders=true):∀ (c:Code) (Q:LEx->St->Prop) (L:St) (a:Act) (w:World),Sim n W X Z0 L a w->wpL P c Q L->dstsOk n c=true ->
  c.wp P (PostL n W X Z0 Q) a w
 | .skip,Q,L,a,w,hs,h,_=>wp_skip ⟨L,h,hs⟩
 | .region id ops d,Q,L,a,w,hs,h,hd=>by
   obtain⟨L0,hw,hdL⟩:=h;have cC:∀ o∈ops.toList,∀ t,o.dst=some t->t<n:=fun o ho t ht=>by
    simp only [dstsOk,ie] at hd;have:=hd o ho;rw [ht] at this;simpa using this
   rcases hdL with⟨cd,hL⟩ | ⟨rfl,hL⟩ | hL
   case inr.inr=>exact hL _ _ _ _ _ _ (hw _ _ _ _ _ _ hs) hd id
   case inr.inl=>exact any_sound cE (hw _ _ _ _ _ _ hs) hL cC (fun L' a' w' hk cH=>⟨L',hk,cH⟩)
   cases d with
   | true =>
    obtain⟨m,_,hm⟩:=cd rfl;exact draw_sound cE hm (hw _ _ _ _ _ _ hs) hL cC (fun L' a' w' hk cH=>⟨L',hk,cH⟩)
   | false=>exact wp_region_list (opsL_sound _ _ _ _ (hw _ _ _ _ _ _ hs) hL cC (fun L' a' w' hk cH=>⟨L',hk,cH⟩))
 | .seq x y,Q,L,a,w,hs,h,hd=>by
   simp only [dstsOk,dG] at hd;refine wp_seq (wp_mono (wpL_sound cE x _ L a w hs h hd.1) fun e a' w' q=>?_)
   cases e with
   | normal=>obtain⟨L',q1,q2⟩:=q;exact wpL_sound cE y Q L' a' w' q2 q1 hd.2
   | exit id=>exact q
   | ret=>exact q
   | _=>exact q.elim
 | .cond c x y,Q,L,a,w,hs,h,hd=>by
   simp only [dstsOk,dG] at hd;obtain⟨t,h1,h2,h3⟩:=h;have hc:a.eval c=.bool t:=by
    obtain⟨_,_,μ,Z,hc,hr⟩:=hs;have:=ev_rep (L:=L) hr c;rw [h1] at this;exact this.v_eq
   exact wp_cond_split hc (fun e=>wpL_sound cE x Q L a w hs (h2 e) hd.1) (fun e=>wpL_sound cE y Q L a w hs (h3 e) hd.2)
 | .block id c,Q,L,a,w,hs,h,hd=>by
   refine wp_block (wp_mono (wpL_sound cE c _ L a w hs h hd) fun e a' w' q=>?_)
   cases e with
   | normal=>exact q
   | exit i =>
    obtain⟨L',q1,q2⟩:=q;simp only [blockL] at q1;simp only [Exit.inBlock];split
    ·rename_i e;rw [if_pos e] at q1;exact⟨L',q1,q2⟩
    rename_i e;rw [if_neg e] at q1;exact⟨L',q1,q2⟩
   | ret=>exact q
   | _=>exact q.elim
 | .loop c,Q,L,a,w,hs,h,hd=>by
   obtain⟨L0,hw,h0⟩:=h (fun L=>∀ a w,Sim n W X Z0 L a w->LoopIn P c (PostL n W X Z0 Q) a w) (fun L hL a w hs=>by
    refine loopIn_step (wp_mono (wpL_sound cE c _ L a w hs hL hd) fun e a' w' q=>?_)
    cases e with
    | normal =>
     obtain⟨L',⟨tW,k1,k2⟩,k4⟩:=q;exact k2 _ _ (k1 _ _ _ _ _ _ k4)
    | exit id=>exact q
    | ret=>exact q
    | _=>exact q.elim)
   exact loopIn_wp (h0 a w (hw _ _ _ _ _ _ hs))
 | .exit id,Q,L,a,w,hs,h,_=>wp_exit ⟨L,h,hs⟩
 | .ret,Q,L,a,w,hs,h,_=>wp_ret ⟨L,h,hs⟩
 | .rangeFunc ..,_,_,_,_,_,h,_=>h.elim
 | .scope _,_,_,_,_,_,h,_=>h.elim
 | .label _,_,_,_,_,_,h,_=>h.elim
 | .goto _,_,_,_,_,_,h,_=>h.elim
 | .refuse _,_,_,_,_,_,h,_=>h.elim
end
def resAt (P:Program) (L:St):ResultVar->LV->Prop
 | .tmp t,x=>L.slot t=x
 | .cell a T,x=>∃ b sz i o blk y n ag,L.slot a=.eptr b sz i o/\L.heap b=some blk/\blk.sz=sz/\blk.vals[i]?=some y/\y.csize=sz/\y.at o n ag=some x/\TyIs P T n ag
inductive ResL (P:Program) (L:St):List ResultVar->List LV->Prop
 | nil:ResL P L [] []
 | cons {v x vs xs} (h:resAt P L v x) (t:ResL P L vs xs):ResL P L (v :: vs) (x :: xs)
inductive Ret1 (H:Heap) (own:List Nat):LV->LV->Prop
 | imm {x y} (h:Imm H x y):Ret1 H own x y
 | ref {b sz off len k} (hk:own[k]?=some b):Ret1 H own (.ref b sz off len) (.ref (k+1) sz off len)
 | ptr {b sz i o k} (hk:own[k]?=some b):Ret1 H own (.eptr b sz i o) (.eptr (k+1) sz i o)
 | net {x y x' y' b sz off len k} (h1:Imm H x x') (h2:Imm H y y') (hk:own[k]?=some b):Ret1 H own (.agg [x,y,.ref b sz off len]) (.agg [x',y',.ref (k+1) sz off len])
 | bx3 {x x' b1 s1 o1 l1 k1 b2 s2 o2 l2 k2 b3 s3 o3 l3 k3} (hx:Imm H x x') (h1:own[k1]?=some b1) (h2:own[k2]?=some b2) (h3:own[k3]?=some b3) :
   Ret1 H own (.agg [.ref b1 s1 o1 l1,.ref b2 s2 o2 l2,x,.ref b3 s3 o3 l3]) (.agg [.ref (k1+1) s1 o1 l1,.ref (k2+1) s2 o2 l2,x',.ref (k3+1) s3 o3 l3])
inductive RetLs (H:Heap) (own:List Nat):List LV->List LV->Prop
 | nil:RetLs H own [] []
 | cons {x y xs ys} (h:Ret1 H own x y) (t:RetLs H own xs ys):RetLs H own (x :: xs) (y :: ys)
def one_or_tup:List LV->LV
 | [y]=>y
 | ys=>.tup ys
def RetL (P:Program) (rs:List ResultVar) (L:St) (r:LV) (bs:List Blk):Prop :=
 ∃ (xs ys:List LV) (H1:Heap) (own:List Nat),ResL P L rs xs/\L.heap.le H1/\RetLs H1 own xs ys/\own.Nodup/\own.length=bs.length /\
  (∀ (k b:Nat),own[k]?=some b->∃ blk:Blk,H1 b=some blk/\bs[k]?=some blk/\pures blk.vals=true)/\r=one_or_tup ys
def St0 (args:List LV):St:=⟨fun t=>args.getD t .any,fun _=>none⟩
section
variable {P:Program} {W w w':World} {X:XS} {Z0 Z:Nat->Prop} {μ:Nat->Option Nat} {H:Heap} {a:Act} {L L':St} {n:Nat}
def resSem (tmps:Array Value) (v:ResultVar):Sem Value :=
 match v with
 | .tmp t=>pure (tmps.getD t undef)
 | .cell p T=>do loadVar T (<-asAddr (tmps.getD p undef))
theorem results_eq (fn:Func) (tmps:Array Value):results fn tmps=(do let vs <-fn.results.mapM (resSem tmps);pure (if h:vs.size=1 then vs[0] else .tuple vs)):=by
 rfl
theorem resAt_sound {v:ResultVar} {x:LV} (hc:Core W X Z0 μ Z L.heap w) (hr:∀ t,RepV Z μ w (L.slot t) (a.tmps.getD t undef)) (h:resAt P L v x) (hx:x≠.any/\∀ l,x≠.tup l) :
  ∃ u,(resSem a.tmps v).run P w=.ok u w/\RepV1 Z μ w x u:=by
 cases v with
 | tmp t =>
  simp only [resAt] at h;have:=hr t;rw [h] at this;exact⟨_,rfl,RepV.to1 hx.2 hx.1 this⟩
 | cell p T =>
  obtain⟨b,sz,i,o,blk,y,m,ag,h1,h2,h3,h4,h5,h6,h7⟩:=h;have e1:=hr p;rw [h1] at e1;have hl:OpP P L.heap L.ev (.load T (.tmp p)) x:=.loadE (b:=b) (sz:=sz) h1 h2 h3 h4 h5 h6 h7;obtain⟨u,r1,r2⟩:=hl.sound (a:=a) (fun y hy=>ev_rep (L:=L) hr y) hc.heap none 0 "" #[] none;have e2:=e1.2 rfl;simp only [Rep] at e2;obtain⟨id,q1,q2⟩:=e2;simp only [b7,and_true] at q1;have bl:a.eval (.tmp p)=a.tmps.getD p undef:=rfl;refine⟨u,?_,RepV.to1 hx.2 hx.1 r2⟩;simp only [execOp,bl,q1,Instr.loadAt,Instr.sureAddr,Sem.run_bind,Sem.run_pure,Result.andThen_ok] at r1;simp only [resSem,q1,asAddr,Sem.run_bind,Sem.run_pure,Result.andThen_ok]
  cases hq:(loadVar T ⟨id,i*sz+o,none⟩).run P w with
  | ok v' w'' =>
   rw [hq] at r1;simp only [Result.andThen_ok,Result.ok.injEq,Next.value.injEq] at r1;rw [r1.1,r1.2]
  | halt x' w''=>rw [hq] at r1;simp at r1
theorem Ret1.ne {own:List Nat} {x y:LV} (h:Ret1 H own x y):x≠.any/\∀ l,x≠.tup l:=by
 cases h with
 | imm h=>exact h.ne
 | ref _=>exact⟨by simp,by simp⟩
 | ptr _=>exact⟨by simp,by simp⟩
 | net _ _ _=>exact⟨by simp,by simp⟩
 | bx3 _ _ _ _=>exact⟨by simp,by simp⟩
def ownMap (μ:Nat->Option Nat) (own:List Nat):Nat->Option Nat:=fun k=>if k=0 then none else(own[k-1]?).bind μ
theorem Ret1.sound {own:List Nat} {x y:LV} {u:Value} (hc:Core W X Z0 μ Z H w) (h:Ret1 H own x y) (hu:RepV1 Z μ w x u):RepV1 Z (ownMap μ own) w y u:=by
 cases h with
 | imm h=>exact Imm.soundV hc h (RepV.of1 h.ne.2 hu)
 | @ref b sz off len k hk =>
  have:=hu.2 rfl;refine⟨by simp [LV.isAgg],fun _=>?_⟩;simp only [Rep] at this ⊢;rcases this with h | ⟨id,cap,c,T,fz,h1,h2,h3⟩
  ·exact gR
  exact .inr ⟨id,cap,c,T,fz,h1,by simp [ownMap,hk,h2],h3⟩
 | @ptr b sz i o k hk =>
  have:=hu.2 rfl;refine⟨by simp [LV.isAgg],fun _=>?_⟩;simp only [Rep] at this ⊢;obtain⟨id,h1,h2⟩:=this;exact⟨id,h1,by simp [ownMap,hk,h2]⟩
 | @net x y x' y' b sz off len k hx hy hk =>
  obtain⟨cs,rfl,hr⟩:=hu.1 rfl;refine⟨fun _=>⟨cs,rfl,?_⟩,by simp [LV.isAgg]⟩;simp only [Rep,RepFs] at hr ⊢;obtain⟨c1,d1,e1,l1,r1,c2,d2,e2,l2,r2,c3,d3,e3,l3,r3,r4⟩:=hr;refine⟨c1,d1,e1,by rw [l1,hx.lay.2.1],Imm.sound hc hx r1,c2,d2,e2,by rw [l2,hy.lay.2.1],Imm.sound hc hy r2,c3,d3,e3,l3,?_,r4⟩;rcases r3 with h | ⟨id,cap,c,T,fz,h1,h2,h3⟩
  ·exact gR
  exact .inr ⟨id,cap,c,T,fz,h1,by simp [ownMap,hk,h2],h3⟩
 | @bx3 x x' b1 s1 o1 l1 k1 b2 s2 o2 l2 k2 b3 s3 o3 l3 k3 hx fR dk qZ =>
  obtain⟨cs,rfl,hr⟩:=hu.1 rfl;refine⟨fun _=>⟨cs,rfl,?_⟩,by simp [LV.isAgg]⟩;simp only [Rep,RepFs] at hr ⊢;obtain⟨c1,d1,e1,m1,r1,c2,d2,e2,m2,r2,c3,d3,e3,m3,r3,c4,d4,e4,m4,r4,r5⟩:=hr;refine⟨c1,d1,e1,m1,?_,c2,d2,e2,m2,?_,c3,d3,e3,by rw [m3,hx.lay.2.1],Imm.sound hc hx r3,c4,d4,e4,m4,?_,r5⟩
  ·rcases r1 with h | ⟨id,cap,c,T,fz,h1,h2,h3⟩
   ·exact gR
   exact .inr ⟨id,cap,c,T,fz,h1,by simp [ownMap,fR,h2],h3⟩
  ·rcases r2 with h | ⟨id,cap,c,T,fz,h1,h2,h3⟩
   ·exact gR
   exact .inr ⟨id,cap,c,T,fz,h1,by simp [ownMap,dk,h2],h3⟩
  rcases r4 with h | ⟨id,cap,c,T,fz,h1,h2,h3⟩
  ·exact gR
  exact .inr ⟨id,cap,c,T,fz,h1,by simp [ownMap,qZ,h2],h3⟩
theorem results_sound {own:List Nat} (hc:Core W X Z0 μ Z L.heap w) (hr:∀ t,RepV Z μ w (L.slot t) (a.tmps.getD t undef)) {Z1:Nat->Prop} {H1:Heap} (mb:Core W X Z0 μ Z1 H1 w) (hz:∀ id,Z id->Z1 id) :
  ∀ (rs:List ResultVar) (xs ys:List LV),ResL P L rs xs->RetLs H1 own xs ys ->
  ∃ us,(rs.mapM (resSem a.tmps)).run P w=.ok us w/\RepVL Z1 (ownMap μ own) w ys us
 | _,_,_,.nil,.nil=>⟨[],rfl,rfl⟩
 | _,_,_,.cons (vs:=vs) (xs:=xs) h t,.cons (ys:=ys) h' t'=>by
   obtain⟨u,q1,q2⟩:=resAt_sound hc hr h h'.ne;obtain⟨us,q3,q4⟩:=results_sound hc hr mb hz _ _ _ t t';refine⟨u :: us,?_,u,us,rfl,h'.sound mb (q2.mono hz (fun _ _ h=>h) ⟨fun _ _=>rfl,(Frame.refl Z μ w).m⟩),q4⟩;rw [adD,Sem.run_bind,q1];simp only [Result.andThen_ok,Sem.run_bind,q3,Sem.run_pure]
theorem St0_rep:∀ (args:List LV) (vs us:List Value),RepVL Z μ w args vs->∀ t,RepV Z μ w ((St0 args).slot t) ((vs++us).toArray.getD t undef)
 | [],_,us,h,t=>by simp only [St0,List.getD_nil];trivial
 | x :: xs,_,us,⟨v,dK,e,h1,h2⟩,t=>by
   subst e
   cases t with
   | zero =>
    have:∀ l,x≠.tup l:=fun l e=>by subst e;have:=h1.2 rfl;simp [Rep] at this
    simpa [St0] using RepV.of1 this h1
   | succ t =>
    have:=St0_rep xs dK us h2 t;simpa [St0] using this
theorem repVL_length:∀ (args:List LV) (vs:List Value),RepVL Z μ w args vs->vs.length=args.length
 | [],_,h=>by cases h;rfl
 | _ :: xs,_,⟨v,dK,e,_,h2⟩=>by subst e;simp [repVL_length xs dK h2]
theorem callOK_of {f:FuncId} {fn:Func} {c:Code} {args:List LV} {r:LV} {bs:List Blk} (cE:P.follows .mixedOrders=true) (hf:P.funcs[f]?=some fn) (hb:fn.body=some c)
  (hn:(fn.name== "runtime.NumGoroutine")=false) (hd:dstsOk fn.ntmps c=true) (hlen:args.length<=fn.ntmps)
  (h:wpL P c (fun e L=>match e with | .exit _=>False | _=>RetL P fn.results.toList L r bs) (St0 args)):CallOK P f args r bs:=by
 refine⟨⟨fn,hf,by rw [hb];rfl,hn⟩,fun W Z0 vs hz hargs=>?_⟩;have iU:=repVL_length _ _ hargs;refine calls_of_wp hf hb ?_;have gJ:Sim fn.ntmps W XS.no Z0 (St0 args) ⟨vs.toArray++gX (fn.ntmps-vs.toArray.size) undef,[]⟩ W:=by
  have dE:∀ {p:Prop} (b id:Nat),(fun _:Nat=>(none:Option Nat)) b=some id->p:=fun b id h=>by cases h
  refine⟨rfl,by simp;omega,fun _=>none,Z0,⟨Kept.refl _ _,hz,fun _ h=>h,fun _ h=>.inl h,fun b _ id h _=>dE b id h,fun b id h=>dE b id h,fun b id h _=>dE b id h,fun _ h=>(XS.no_any h).elim,fun _ h=>False.elim h,
   fun b id _ h _ _=>dE b id h,fun b id _ h _ _=>dE b id h,fun b id h=>dE b id h⟩,fun t=>?_⟩
  have e:vs.toArray++gX (fn.ntmps-vs.toArray.size) undef=(vs++ai (fn.ntmps-vs.toArray.size) undef).toArray:=by apply l8;simp
  show RepV Z0 (fun _=>none) W ((St0 args).slot t) ((vs.toArray++gX (fn.ntmps-vs.toArray.size) undef).getD t undef);rw [e];exact St0_rep (Z:=Z0) (μ:=fun _=>none) (w:=W) args vs _ hargs t
 refine wp_mono (wpL_sound cE c _ _ _ _ gJ h hd) fun e a w q=>?_;have main:∀ L,RetL P fn.results.toList L r bs->Sim fn.ntmps W XS.no Z0 L a w ->
   a.defers=[]/\∃ v,(results fn a.tmps).run P w=.ok v w/\∃ v' μ Z,Ending.returned v=.returned v'/\Core W XS.no Z0 μ Z (outHeap bs) w/\RepV Z μ w r v':=by
  rintro L ⟨xs,ys,H1,own,h1,h2,h3,h4,h5,h6,h7⟩ ⟨bj,hsz,μ,Z,hc,hr⟩;obtain⟨Z1,k1,k2⟩:=hc.widen h2;obtain⟨us,q1,q2⟩:=results_sound hc hr k1 k2 _ _ _ h1 h3;have hinv:∀ k id,ownMap μ own k=some id->∃ b,k≠0/\own[k-1]?=some b/\μ b=some id:=fun k id hk=>by
   unfold ownMap at hk;split at hk
   ·cases hk
   rename_i h0;rw [Option.bind_eq_some_iff] at hk;obtain⟨b,g1,g2⟩:=hk;exact⟨b,h0,g1,g2⟩
  have aaJ:∀ k b,k≠0->own[k-1]?=some b->∃ blk,H1 b=some blk/\outHeap bs k=some blk/\pures blk.vals=true:=fun k b h0 hb=>by
   obtain⟨blk,g1,g2,g3⟩:=h6 _ b hb;exact⟨blk,g1,by simp [outHeap,h0,g2],g3⟩
  have aaT:Core W XS.no Z0 (ownMap μ own) Z1 (outHeap bs) w:=by
   refine⟨k1.keep,k1.zone,k1.zsup,k1.zsub,?_,?_,fun _ _ _ h=>h.elim,fun _ h=>(XS.no_any h).elim,fun _ h=>h.elim,?_,?_,?_⟩
   ·intro k k' id hk jb;obtain⟨b,g0,g1,g2⟩:=hinv k id hk;obtain⟨b',g0',y9,yE⟩:=hinv k' id jb;have:=k1.inj b b' id g2 yE;subst this;obtain⟨l1,e1⟩:=fV.1 g1;obtain⟨l2,e2⟩:=fV.1 y9;have hp:=List.pairwise_iff_getElem.1 h4;rcases Nat.lt_trichotomy (k-1) (k'-1) with h | h | h
    ·exact absurd (e1.trans e2.symm) (hp _ _ l1 l2 h)
    ·omega
    exact absurd (e2.trans e1.symm) (hp _ _ l2 l1 h)
   ·intro k id hk;obtain⟨b,g0,g1,g2⟩:=hinv k id hk;exact k1.own b id g2
   ·intro k id blk hk hb hm;obtain⟨b,g0,g1,g2⟩:=hinv k id hk;obtain⟨blk',j1,j2,_⟩:=aaJ k b g0 g1;rw [hb] at j2;cases j2;exact k1.mutz b id blk g2 j1 hm
   ·intro k id blk hk hb hm;obtain⟨b,g0,g1,g2⟩:=hinv k id hk;obtain⟨blk',j1,j2,_⟩:=aaJ k b g0 g1;rw [hb] at j2;cases j2;exact k1.frz b id blk g2 j1 hm
   intro k id hk;obtain⟨b,g0,g1,g2⟩:=hinv k id hk;obtain⟨blk',j1,j2,j3⟩:=aaJ k b g0 g1;obtain⟨bk,l1,cc,T,part,rest,l2,l3,l4⟩:=k1.heap b id g2;rw [j1] at l1;cases l1;exact⟨_,j2,cc,T,part,rest,l2,l3,RepAll.repure (fun _ h=>h) (fun _ _=>rfl) _ _ _ j3 l4⟩
  have gV:(fn.results.mapM (resSem a.tmps)).run P w=.ok us.toArray w:=by
   rw [ad0,Sem.run_map,q1];rfl
  refine⟨bj,(if h:us.toArray.size=1 then us.toArray[0] else .tuple us.toArray),?_,_,ownMap μ own,Z1,rfl,aaT,?_⟩
  ·rw [results_eq,Sem.run_bind,gV];rfl
  subst h7;have ot:=repVL_length _ _ q2
  match ys,us,q2,ot with
  | [y],[u],q2,_ =>
   obtain⟨v,dK,e,g1,g2⟩:=q2;simp only [b7] at e;obtain⟨rfl,_⟩:=e;have uF:∀ l,y≠.tup l:=fun l e=>by subst e;have:=g1.2 rfl;simp [Rep] at this
   exact RepV.of1 uF g1
  | [],[],q2,_=>exact⟨_,rfl,by simpa using q2⟩
  | y :: y' :: ys,u :: u' :: us,q2,_ =>
   refine⟨(u :: u' :: us).toArray,by simp,by simpa using q2⟩
 cases e with
 | normal=>obtain⟨L,q1,q2⟩:=q;exact main L q1 q2
 | ret=>obtain⟨L,q1,q2⟩:=q;exact main L q1 q2
 | exit id=>obtain⟨L,q1,q2⟩:=q;exact q1.elim
 | _=>exact q.elim
def StM (args:List LV) (blk:Blk):St:=⟨fun t=>args.getD t .any,fun n=>if n=0 then some blk else none⟩
def RetM (P:Program) (rs:List ResultVar) (L:St) (r:LV) (blk':Blk):Prop :=
 ∃ (xs ys:List LV) (H1:Heap),ResL P L rs xs/\L.heap.le H1/\ArgML H1 0 xs ys/\H1 0=some blk'/\blk'.mt=true/\pures blk'.vals=true/\r=one_or_tup ys
theorem resultsM_sound {i0:Nat} (hc:Core W X Z0 μ Z L.heap w) (hr:∀ t,RepV Z μ w (L.slot t) (a.tmps.getD t undef)) {Z1:Nat->Prop} {H1:Heap} (mb:Core W X Z0 μ Z1 H1 w) (hz:∀ id,Z id->Z1 id) (h0:μ 0=some i0) :
  ∀ (rs:List ResultVar) (xs ys:List LV),ResL P L rs xs->ArgML H1 0 xs ys ->
  ∃ us,(rs.mapM (resSem a.tmps)).run P w=.ok us w/\RepVL Z1 (mu0 i0) w ys us
 | _,_,_,.nil,.nil=>⟨[],rfl,rfl⟩
 | _,_,_,.cons (vs:=vs) (xs:=xs) h t,.cons (ys:=ys) h' t'=>by
   obtain⟨u,q1,q2⟩:=resAt_sound hc hr h h'.ne;obtain⟨us,q3,q4⟩:=resultsM_sound hc hr mb hz h0 _ _ _ t t';refine⟨u :: us,?_,u,us,rfl,h'.sound mb h0 (RepV.of1 h'.ne.2 (q2.mono hz (fun _ _ h=>h) ⟨fun _ _=>rfl,(Frame.refl Z μ w).m⟩)),q4⟩;rw [adD,Sem.run_bind,q1];simp only [Result.andThen_ok,Sem.run_bind,q3,Sem.run_pure]
theorem callOKM_of {f:FuncId} {fn:Func} {c:Code} {args:List LV} {r:LV} {blk blk':Blk} (cE:P.follows .mixedOrders=true) (hf:P.funcs[f]?=some fn) (hb:fn.body=some c)
  (hn:(fn.name== "runtime.NumGoroutine")=false) (hd:dstsOk fn.ntmps c=true) (hlen:args.length<=fn.ntmps) (bE:blk.mt=true)
  (h:wpL P c (fun e L=>match e with | .exit _=>False | _=>RetM P fn.results.toList L r blk') (StM args blk)):CallOKM P f blk args r blk':=by
 refine⟨⟨fn,hf,by rw [hb];rfl,hn⟩,fun W Z0 vs i0 hz jD fW hargs=>?_⟩;have iU:=repVL_length _ _ hargs;refine calls_of_wp hf hb ?_;have dH:∀ b id,mu0 i0 b=some id->b=0/\id=i0:=fun b id h=>by
  unfold mu0 at h;split at h
  ·cases h;exact⟨by assumption,rfl⟩
  cases h
 have aG:i0<W.heap.size:=by
  obtain⟨c,T,part,rest,h1,_⟩:=fW;exact(eB.1 h1).1
 have gJ:Sim fn.ntmps W (XS.one i0) Z0 (StM args blk) ⟨vs.toArray++gX (fn.ntmps-vs.toArray.size) undef,[]⟩ W:=by
  refine⟨rfl,by simp;omega,mu0 i0,Z0,⟨Kept.refl _ _,hz,fun _ h=>h,fun _ h=>.inl h,fun b b' id h h'=>(dH b id h).1.trans (dH b' id h').1.symm,fun b id h=>.inr (.inl (dH b id h).2),
   fun b id h _=>(dH b id h).1,fun id h=>by rw [XS.one_any h];exact aG,fun id h=>by rw [show id=i0 from h];rfl,fun b id bk h _ _=>by rw [(dH b id h).2];exact jD,
   fun b id bk h g hm=>?_,fun b id h=>?_⟩,fun t=>?_⟩
  ·obtain⟨rfl,rfl⟩:=dH b id h;simp only [StM,if_true] at g;cases g;rw [bE] at hm;cases hm
  ·obtain⟨rfl,rfl⟩:=dH b id h;exact⟨blk,rfl,fW⟩
  have e:vs.toArray++gX (fn.ntmps-vs.toArray.size) undef=(vs++ai (fn.ntmps-vs.toArray.size) undef).toArray:=by apply l8;simp
  show RepV Z0 (mu0 i0) W ((St0 args).slot t) ((vs.toArray++gX (fn.ntmps-vs.toArray.size) undef).getD t undef);rw [e];exact St0_rep args vs _ hargs t
 refine wp_mono (wpL_sound cE c _ _ _ _ gJ h hd) fun e a w q=>?_;have main:∀ L,RetM P fn.results.toList L r blk'->Sim fn.ntmps W (XS.one i0) Z0 L a w ->
   a.defers=[]/\∃ v,(results fn a.tmps).run P w=.ok v w/\∃ v' μ Z,Ending.returned v=.returned v'/\Core W (XS.one i0) Z0 μ Z (heapM blk') w/\RepV Z μ w r v':=by
  rintro L ⟨xs,ys,H1,h1,h2,h3,h4,h5,h6,h7⟩ ⟨bj,hsz,μ,Z,hc,hr⟩;obtain⟨Z1,k1,k2⟩:=hc.widen h2;have h0:=k1.x1 i0 rfl;obtain⟨us,q1,q2⟩:=resultsM_sound hc hr k1 k2 h0 _ _ _ h1 h3;have aaT:Core W (XS.one i0) Z0 (mu0 i0) Z1 (heapM blk') w:=by
   refine⟨k1.keep,k1.zone,k1.zsup,k1.zsub,fun b b' id h h'=>(dH b id h).1.trans (dH b' id h').1.symm,fun b id h=>.inr (.inl (dH b id h).2),fun b id h _=>(dH b id h).1,k1.xlt,fun id h=>by rw [show id=i0 from h];rfl,?_,?_,?_⟩
   ·intro b id bk h g hm;obtain⟨rfl,rfl⟩:=dH b id h;exact k1.mutz 0 id blk' h0 h4 h5
   ·intro b id bk h g hm;obtain⟨rfl,rfl⟩:=dH b id h;simp only [heapM,if_true] at g;cases g;rw [h5] at hm;cases hm
   intro b id h;obtain⟨rfl,rfl⟩:=dH b id h;obtain⟨bk,l1,cc,T,part,rest,l2,l3,l4⟩:=k1.heap 0 id h0;rw [h4] at l1;cases l1;exact⟨_,rfl,cc,T,part,rest,l2,l3,RepAll.repure (fun _ h=>h) (fun _ _=>rfl) _ _ _ h6 l4⟩
  have gV:(fn.results.mapM (resSem a.tmps)).run P w=.ok us.toArray w:=by
   rw [ad0,Sem.run_map,q1];rfl
  refine⟨bj,(if h:us.toArray.size=1 then us.toArray[0] else .tuple us.toArray),?_,_,mu0 i0,Z1,rfl,aaT,?_⟩
  ·rw [results_eq,Sem.run_bind,gV];rfl
  subst h7;have ot:=repVL_length _ _ q2
  match ys,us,q2,ot with
  | [y],[u],q2,_ =>
   obtain⟨v,dK,e,g1,g2⟩:=q2;simp only [b7] at e;obtain⟨rfl,_⟩:=e;have uF:∀ l,y≠.tup l:=fun l e=>by subst e;have:=g1.2 rfl;simp [Rep] at this
   exact RepV.of1 uF g1
  | [],[],q2,_=>exact⟨_,rfl,by simpa using q2⟩
  | y :: y' :: ys,u :: u' :: us,q2,_ =>
   refine⟨(u :: u' :: us).toArray,by simp,by simpa using q2⟩
 cases e with
 | normal=>obtain⟨L,q1,q2⟩:=q;exact main L q1 q2
 | ret=>obtain⟨L,q1,q2⟩:=q;exact main L q1 q2
 | exit id=>obtain⟨L,q1,q2⟩:=q;exact q1.elim
 | _=>exact q.elim
end
end Go.Lg
namespace Go.Lg
def St.frz (L:St) (bs:List Nat):St:=⟨L.slot,fun c=>(L.heap c).map fun blk=>⟨blk.sz,blk.vals,blk.mt && !bs.contains c⟩⟩
section
variable {P:Program} {dr:Bool} {ops:Array Oper} {rest:List Oper} {L:St} {K:St->Prop} {dst:Option Tmp} {ty:TypeId} {pos:String} {af:Array Edge} {g:Option (Nat × Bool)}
theorem frz_le (bs:List Nat) (h0:bs.contains 0=false):L.heap.le (L.frz bs).heap:=fun b blk h=>by
 refine⟨blk.mt && !bs.contains b,by simp [St.frz,h],fun e=>by simp [e],fun e1 e2=>?_⟩;rintro rfl;rw [e1,h0] at e2;cases e2
theorem st_pure {op:Op} {r:LV} (hg:GuardIs ops L ⟨dst,op,ty,pos,af,g⟩ true) (h:OpP P L.heap L.ev op r) (k:opsL P dr ops rest (L.put dst r) K) :
  opsL P dr ops (⟨dst,op,ty,pos,af,g⟩ :: rest) L K:=by
 refine⟨L.put dst r,.val hg (Heap.le_refl _) (fr:=[]) (fun _ _ h=>by cases h) (.pure h) ?_,k⟩
 cases dst<;>rfl
theorem st_skip {op:Op} (hg:GuardIs ops L ⟨dst,op,ty,pos,af,g⟩ false) (k:opsL P dr ops rest (L.put dst (.tup [])) K):opsL P dr ops (⟨dst,op,ty,pos,af,g⟩ :: rest) L K :=
 ⟨_,.skip hg rfl,k⟩
theorem st_opm {op:Op} {L':St} (hg:GuardIs ops L ⟨dst,op,ty,pos,af,g⟩ true) (hd:dr=false) (h:OpM P L dst op L') (k:opsL P dr ops rest L' K):opsL P dr ops (⟨dst,op,ty,pos,af,g⟩ :: rest) L K:=⟨L',.stM hd hg h,k⟩
theorem st_alloc {op:Op} {d:Nat} {r:LV} {blk:Blk} (hg:GuardIs ops L ⟨some d,op,ty,pos,af,g⟩ true) (hd:L.heap d=none) (h:OpA P L.ev d op r blk)
  (k:opsL P dr ops rest ((L.setB d (some blk)).put (some d) r) K):opsL P dr ops (⟨some d,op,ty,pos,af,g⟩ :: rest) L K:=by
 refine⟨_,.val hg (r:=r) (fr:=[(d,blk)]) (H1:=(L.setB d (some blk)).heap) ?_ ?_ (.alloc h) ?_,k⟩
 ·intro b bk hb;have:b≠d:=by rintro rfl;rw [hd] at hb;cases hb
  exact⟨bk.mt,by simp only [St.setB,if_neg this];exact hb,fun h=>h,fun h1 h2=>by rw [h1] at h2;cases h2⟩
 ·intro b bk hb;simp only [bD,vU] at hb;obtain⟨rfl,rfl⟩:=hb;exact⟨hd,bk.mt,by simp [St.setB],fun h=>h⟩
 rfl
theorem st_opc {op:Op} {r r':LV} (bs:List Nat) (hg:GuardIs ops L ⟨dst,op,ty,pos,af,g⟩ true) (h0:bs.contains 0=false) (h:OpC P (L.frz bs).heap L.ev (dst.getD 0) op r []) (hr:r=r')
  (k:opsL P dr ops rest ((L.frz bs).put dst r') K):opsL P dr ops (⟨dst,op,ty,pos,af,g⟩ :: rest) L K:=by
 subst hr;refine⟨(L.frz bs).put dst r,.val hg (r:=r) (fr:=[]) (H1:=(L.frz bs).heap) (frz_le bs h0) (fun _ _ h=>by cases h) (.call h) ?_,k⟩
 cases dst<;>rfl
theorem st_call {f:FuncId} {xs:Array Operand} {as:Array TypeId} {args:List LV} {r:LV} (bs:List Nat) (hg:GuardIs ops L ⟨dst,.call ⟨.value (.func f),xs,as⟩,ty,pos,af,g⟩ true) (h0:bs.contains 0=false)
  (ha:ImmL (L.frz bs).heap (xs.toList.map L.ev) args) (hk:CallOK P f args r []) (hr:r.ren (callName (dst.getD 0))=r)
  (k:opsL P dr ops rest ((L.frz bs).put dst r) K):opsL P dr ops (⟨dst,.call ⟨.value (.func f),xs,as⟩,ty,pos,af,g⟩ :: rest) L K :=
 st_opc bs hg h0 (.func ha hk aj aj) hr k
theorem frz_nil:L.frz []=L:=by
 cases L
 simp only [St.frz,St.mk.injEq,true_and];funext c;rename_i s h
 cases h c<;>simp
theorem st_call0 {f:FuncId} {xs:Array Operand} {as:Array TypeId} {args:List LV} {r:LV} (hg:GuardIs ops L ⟨dst,.call ⟨.value (.func f),xs,as⟩,ty,pos,af,g⟩ true)
  (ha:ImmL L.heap (xs.toList.map L.ev) args) (hk:CallOK P f args r []) (hr:r.ren (callName (dst.getD 0))=r)
  (k:opsL P dr ops rest (L.put dst r) K):opsL P dr ops (⟨dst,.call ⟨.value (.func f),xs,as⟩,ty,pos,af,g⟩ :: rest) L K :=
 st_call [] hg rfl (by rw [frz_nil];exact ha) hk hr (by rw [frz_nil];exact k)
theorem st_call1 {f:FuncId} {xs:Array Operand} {as:Array TypeId} {args:List LV} {r:LV} {blk:Blk} {d:Nat} (bs:List Nat) (hg:GuardIs ops L ⟨some d,.call ⟨.value (.func f),xs,as⟩,ty,pos,af,g⟩ true) (h0:bs.contains 0=false)
  (ha:ImmL (L.frz bs).heap (xs.toList.map L.ev) args) (hk:CallOK P f args r [blk]) (hp:pures blk.vals=true) (hd:L.heap (callName d 1)=none)
  (k:opsL P dr ops rest (((L.frz bs).setB (callName d 1) (some blk)).put (some d) (r.ren (callName d))) K):opsL P dr ops (⟨some d,.call ⟨.value (.func f),xs,as⟩,ty,pos,af,g⟩ :: rest) L K:=by
 have cC:(L.frz bs).heap (callName d 1)=none:=by simp [St.frz,hd]
 refine⟨_,.val hg (r:=r.ren (callName d)) (fr:=[blk].mapIdx fun i blk=>(callName d (i+1),blk)) (H1:=((L.frz bs).setB (callName d 1) (some blk)).heap) (Heap.le_trans (frz_le bs h0) ?_) ?_
  (.call (.func (ImmL.le ?_ ha) hk aj (by simpa using hp))) ?_,k⟩
 ·exact le_set cC
 ·intro b bk hb;simp only [List.mapIdx_cons,List.mapIdx_nil,bD,vU] at hb;obtain⟨rfl,rfl⟩:=hb;exact⟨hd,bk.mt,by simp [St.setB],fun h=>h⟩
 ·exact le_set cC
 rfl
theorem st_store {op:Op} {L':St} (hg:GuardIs ops L ⟨dst,op,ty,pos,af,g⟩ true) (h:OpT P L dst op L') (k:opsL P dr ops rest L' K):opsL P dr ops (⟨dst,op,ty,pos,af,g⟩ :: rest) L K :=
 ⟨_,.st hg h,k⟩
theorem st_callM {f:FuncId} {xs:Array Operand} {as:Array TypeId} {args:List LV} {r:LV} {ops:Array Oper} (b:Nat) {blk blk':Blk} (hg:GuardIs ops L ⟨dst,.call ⟨.value (.func f),xs,as⟩,ty,pos,af,g⟩ true)
  (hb:L.heap b=some blk) (hm:blk.mt=true) (hp:pures blk.vals=true) (ha:ArgML L.heap b (xs.toList.map L.ev) args) (hn:Names b (xs.toList.map L.ev)) (hk:CallOKM P f blk args r blk')
  (gp:blk'.mt=true) (dQ:pures blk'.vals=true) (k:opsL P false ops rest ((L.setB b (some blk')).put dst (r.ren fun _=>b)) K) :
  opsL P false ops (⟨dst,.call ⟨.value (.func f),xs,as⟩,ty,pos,af,g⟩ :: rest) L K :=
 ⟨_,.stM rfl hg (.call hb hm hp ha hn hk gp dQ),k⟩
theorem st_nil (k:K L):opsL P dr ops [] L K:=k
end
structure EncOK {α:Type} (e:α->LV) (sz:Nat) (ag:Bool):Prop where
 csize:∀ a,(e a).csize=sz
 isAgg:∀ a,(e a).isAgg=ag
 pure:∀ a,(e a).pure=true
theorem pures_map {α:Type} {e:α->LV} {sz:Nat} {ag:Bool} (h:EncOK e sz ag) (l:List α):pures (l.map e)=true:=by
 rw [pures_iff];intro x hx;obtain⟨a,_,rfl⟩:=bS.1 hx;exact h.pure a
theorem at_self (x:LV) (h:x.pure=true):x.at 0 x.csize x.isAgg=some x:=by
 cases x<;>simp_all [LV.at,LV.csize,LV.isAgg,LV.pure]
theorem put_whole (x y:LV) (h1:x.csize=y.csize) (h2:x.isAgg=y.isAgg):x.put 0 y=some y:=by
 cases x<;>simp_all [LV.put,LV.csize,LV.isAgg]
section
variable {P:Program} {H:Heap} {ρ:Operand->LV} {α:Type} {e:α->LV}
theorem OpP.idxLm [Inhabited α] {T E:TypeId} {x i:Operand} {sz:Nat} {l:List α} {k:IntKind} {n:Int} {ag:Bool} (he:EncOK e sz ag) (hx:ρ x=.list sz (l.map e)) (hT:P.underlying T=some (.slice E)) (hE:TyIs P E sz ag)
  (hi:ρ i=.v (.int k n)) (h0:0<=n) (hn:n<l.length):OpP P H ρ (.indexAddr T x i) (.boxp (e (l.getD n.toNat default))):=by
 have aG:n.toNat<l.length:=J;refine .idxL hx hT hE hi h0 ?_ (he.csize _);rw [bU,aB aG,ao,aB aG];rfl
theorem OpP.loadBm {T:TypeId} {p:Operand} {sz:Nat} {ag:Bool} {a:α} (he:EncOK e sz ag) (hp:ρ p=.boxp (e a)) (hT:TyIs P T sz ag):OpP P H ρ (.load T p) (e a) :=
 .loadB hp (by rw [he.csize,he.isAgg];exact hT) (he.pure a)
theorem OpP.loadEm [Inhabited α] {T:TypeId} {p:Operand} {b sz i:Nat} {l:List α} {m:Bool} {ag:Bool} (he:EncOK e sz ag) (hp:ρ p=.eptr b sz i 0) (hb:H b=some ⟨sz,l.map e,m⟩) (hT:TyIs P T sz ag)
  (hi:i<l.length):OpP P H ρ (.load T p) (e (l.getD i default)):=by
 have hv:(l.map e)[i]?=some (e (l.getD i default)):=by
  rw [bU,aB hi,ao,aB hi];rfl
 refine .loadE (blk:=⟨sz,l.map e,m⟩) (n:=sz) (ag:=ag) hp hb rfl hv (he.csize _) ?_ hT;have:=at_self (e (l.getD i default)) (he.pure _);rwa [he.csize,he.isAgg] at this
theorem OpT.storeM [Inhabited α] {L:St} {dst:Option Tmp} {T:TypeId} {p x:Operand} {b sz i:Nat} {l:List α} {ag:Bool} {a:α} (he:EncOK e sz ag) (hp:L.ev p=.eptr b sz i 0) (hb:L.heap b=some ⟨sz,l.map e,true⟩)
  (hx:L.ev x=e a) (hT:TyIs P T sz ag) (hi:i<l.length):OpT P L dst (.store T p x) ((L.setB b (some ⟨sz,(l.set i a).map e,true⟩)).put dst .any):=by
 have hv:(l.map e)[i]?=some (e l[i]):=by rw [bU,aB hi];rfl
 have:=OpT.store (P:=P) (L:=L) (dst:=dst) (T:=T) (p:=p) (x:=x) (y':=e a) hp hb rfl rfl hv (he.csize _) (by rw [hx];exact put_whole _ _ (by rw [he.csize,he.csize]) (by rw [he.isAgg,he.isAgg]))
  (by rw [hx,he.csize,he.isAgg];exact hT) (by rw [hx];exact⟨LV.pure_ne_any (he.pure _),LV.pure_ne_tup (he.pure _)⟩)
 rwa [<-List.map_set] at this
theorem OpA.makeM {T E:TypeId} {x c:Operand} {kl kc:IntKind} {d sz bu n m:Nat} {ag:Bool} {z:α} (he:EncOK e sz ag) (hT:P.underlying T=some (.slice E)) (hz:ZeroOK P E (e z)) (hE:TyIs P E sz ag) (hb:TyBytes P E bu)
  (hl:ρ x=.v (.int kl (n:Nat))) (hc:ρ c=.v (.int kc (m:Nat))) (dR:n<=m) (hm:bu*m<=281474976710656) (cL:m<=9223372036854775807) :
  OpA P ρ d (.makeSlice T x c) (.ref d sz 0 n) ⟨sz,(ai n z).map e,true⟩:=by
 rw [List.map_replicate];exact .make hT hz (by rw [he.isAgg];exact hE) (he.csize z) hb hl hc dR hm cL
theorem OpA.lit1 {T E:TypeId} {x:Operand} {d sz:Nat} {ag:Bool} {z a:α} (he:EncOK e sz ag) (hT:P.underlying T=some (.slice E)) (hz:ZeroOK P E (e z)) (hE:TyIs P E sz ag) (hx:ρ x=e a) (aT:0<sz) (dj:sz<=1000) :
  OpA P ρ d (.buildSlice T 1 #[(0,x)]) (.ref d sz 0 1) ⟨sz,[a].map e,true⟩:=by
 have:=OpA.lit (P:=P) (ρ:=ρ) (d:=d) (T:=T) (n:=1) (ps:=#[(0,x)]) hT hz (by rw [he.isAgg];exact hE) (he.csize z) J J aT (by
  intro p hp;simp only [bD] at hp;subst hp;refine⟨by simp,?_,by rw [hx];exact LV.pure_ne_any (he.pure _),by rw [hx];exact LV.pure_ne_tup (he.pure _)⟩;simp [lay,hx,he.csize,he.isAgg])
 simpa [buildL,hx,ai] using this
end
section
variable {a b:Int}
theorem add64 (h1:-9223372036854775808<=a+b) (h2:a+b<=9223372036854775807):binI .add .i64 a b=some (.int .i64 (a+b)):=by
 simp only [binI];rw [IntWalk.i64_in _ ⟨h1,h2⟩]
theorem sub64 (h1:-9223372036854775808<=a-b) (h2:a-b<=9223372036854775807):binI .sub .i64 a b=some (.int .i64 (a-b)):=by
 simp only [binI];rw [IntWalk.i64_in _ ⟨h1,h2⟩]
theorem mul64 (h1:-9223372036854775808<=a*b) (h2:a*b<=9223372036854775807):binI .mul .i64 a b=some (.int .i64 (a*b)):=by
 simp only [binI];rw [IntWalk.i64_in _ ⟨h1,h2⟩]
end
section
variable {P:Program} {L L0:St} {Q:LEx->St->Prop} {K:St->Prop}
theorem wl_reg {l:List Oper} {id:Nat} (h:opsL P false l.toArray l L (Q .normal)):wpL P (.region id l.toArray false) Q L:=⟨L,Weak.refl L,.inl ⟨fun e=>absurd e ae,h⟩⟩
theorem wl_regD {l:List Oper} {id:Nat} (m:Nat) (hm:drawOk l.toArray m []=true) (h:opsL P true l.toArray l L (Q .normal)):wpL P (.region id l.toArray true) Q L:=⟨L,Weak.refl L,.inl ⟨fun _=>⟨m,[],hm⟩,h⟩⟩
theorem wl_regF {l:List Oper} {id:Nat} (m:Nat) (fr:List Nat) (hm:drawOk l.toArray m fr=true) (h:opsL P true l.toArray l L (Q .normal)):wpL P (.region id l.toArray true) Q L:=⟨L,Weak.refl L,.inl ⟨fun _=>⟨m,fr,hm⟩,h⟩⟩
theorem wl_regW {l:List Oper} {id:Nat} (hw:Weak L L0) (h:opsL P false l.toArray l L0 (Q .normal)):wpL P (.region id l.toArray false) Q L:=⟨L0,hw,.inl ⟨fun e=>absurd e ae,h⟩⟩
theorem wl_regDW {l:List Oper} {id:Nat} (m:Nat) (hm:drawOk l.toArray m []=true) (hw:Weak L L0) (h:opsL P true l.toArray l L0 (Q .normal)):wpL P (.region id l.toArray true) Q L:=⟨L0,hw,.inl ⟨fun _=>⟨m,[],hm⟩,h⟩⟩
theorem wl_regA {ops:Array Oper} {id:Nat} (h:anyL P ops ops.size (gX ops.size false) L (Q .normal)):wpL P (.region id ops true) Q L:=⟨L,Weak.refl L,.inr (.inl ⟨rfl,h⟩)⟩
theorem wl_regE {ops:Array Oper} {id:Nat} {d:Bool} (h:∀ n W X Z0 a w,Sim n W X Z0 L a w->dstsOk n (.region 0 ops d)=true->∀ id,(Code.region id ops d).wp P (PostL n W X Z0 Q) a w):wpL P (.region id ops d) Q L:=⟨L,Weak.refl L,.inr (.inr h)⟩
def UnHide (P:Program) (l:List Oper) (m b:Nat) (fr:List Nat) (x0:Blk) (K:St->Prop) (Lm:St):Prop :=
 Lm.heap b=none/\(fr.all fun j=>match (l.toArray.getD j default).dst with | some d=>(Lm.heap (callName d 1)).isNone | none=>true)=true /\
  (∀ om,l.toArray[m]?=some om->∃ T p v i o,om.op=.store T p v/\Lm.ev p=.eptr b x0.sz i o)/\opsL P true l.toArray (l.drop m) (Lm.setB b (some x0)) K
theorem wl_regH {l:List Oper} {id:Nat} (cE:P.follows .mixedOrders=true) (m b:Nat) (fr:List Nat) {x0:Blk} (hm:drawOkH l.toArray m fr=true) (hb:L.heap b=some x0)
  (h:opsL P true l.toArray (l.take m) (L.setB b none) (UnHide P l m b fr x0 (Q .normal))):wpL P (.region id l.toArray true) Q L:=by
 refine wl_regE fun n W X Z0 a w hs hd id=>?_;have cC:∀ o∈l.toArray.toList,∀ t,o.dst=some t->t<n:=fun o ho t ht=>by
  simp only [dstsOk,ie] at hd;have:=hd o ho;rw [ht] at this;simpa using this
 exact drawH_sound cE hm hs hb h cC (fun L' a' w' hk cH=>⟨L',hk,cH⟩)
theorem st_unhide {l:List Oper} {m b:Nat} {fr:List Nat} {x0:Blk} {K:St->Prop} {ops:Array Oper} (h1:L.heap b=none) (h2:(fr.all fun j=>match (l.toArray.getD j default).dst with | some d=>(L.heap (callName d 1)).isNone | none=>true)=true)
  (h3:∀ om,l.toArray[m]?=some om->∃ T p v i o,om.op=.store T p v/\L.ev p=.eptr b x0.sz i o) (h4:opsL P true l.toArray (l.drop m) (L.setB b (some x0)) K):opsL P true ops [] L (UnHide P l m b fr x0 K):=⟨h1,h2,h3,h4⟩
theorem wl_seq {x y:Code} (h:wpL P x (thenL (wpL P y Q) Q) L):wpL P (.seq x y) Q L:=h
theorem wl_cond {c:Operand} {x y:Code} {t:Bool} (hc:L.ev c=.v (.bool t)) (h1:t=true->wpL P x Q L) (h2:t=false->wpL P y Q L):wpL P (.cond c x y) Q L:=⟨t,hc,h1,h2⟩
theorem wl_block {c:Code} {id:Nat} (h:wpL P c (blockL id Q) L):wpL P (.block id c) Q L:=h
theorem wl_skip (h:Q .normal L):wpL P .skip Q L:=h
theorem wl_ret (h:Q .ret L):wpL P .ret Q L:=h
theorem wl_exit {id:Nat} (h:Q (.exit id) L):wpL P (.exit id) Q L:=h
theorem then_n (h:K L):thenL K Q .normal L:=h
theorem then_e {i:Nat} (h:Q (.exit i) L):thenL K Q (.exit i) L:=h
theorem then_r (h:Q .ret L):thenL K Q .ret L:=h
theorem blk_n {id:Nat} (h:Q .normal L):blockL id Q .normal L:=h
theorem blk_r {id:Nat} (h:Q .ret L):blockL id Q .ret L:=h
theorem blk_e {id:Nat} (h:Q .normal L):blockL id Q (.exit id) L:=by simp only [blockL,if_pos];exact h
theorem blk_o {id i:Nat} (ak:i≠id) (h:Q (.exit i) L):blockL id Q (.exit i) L:=by simp only [blockL,if_neg ak];exact h
theorem wpL_mono:∀ {c:Code} {Q Q':LEx->St->Prop} {L:St},(∀ e L,Q e L->Q' e L)->wpL P c Q L->wpL P c Q' L:=by
 intro c
 induction c with
 | skip=>exact fun hq h=>hq _ _ h
 | region id ops d=>exact fun hq ⟨L0,a,h⟩=>⟨L0,a,h.imp (fun⟨b,h⟩=>⟨b,opsL_mono (hq _) _ _ h⟩) (fun h=>h.imp (fun⟨b,h⟩=>⟨b,anyL_mono (hq _) _ _ _ h⟩) (fun h n W X Z0 a w hs hd id=>wp_mono (h n W X Z0 a w hs hd id) fun e a w p=>by
  cases e with
  | normal=>obtain⟨L,q1,q2⟩:=p;exact⟨L,hq _ _ q1,q2⟩
  | exit i=>obtain⟨L,q1,q2⟩:=p;exact⟨L,hq _ _ q1,q2⟩
  | ret=>obtain⟨L,q1,q2⟩:=p;exact⟨L,hq _ _ q1,q2⟩
  | _=>exact p.elim))⟩
 | seq x y ihx ihy =>
  intro Q Q' L hq h;refine ihx (fun e L h=>?_) h
  cases e with
  | normal=>exact ihy hq h
  | exit i=>exact hq _ _ h
  | ret=>exact hq _ _ h
 | cond c x y ihx ihy=>exact fun hq ⟨t,a,b,c⟩=>⟨t,a,fun e=>ihx hq (b e),fun e=>ihy hq (c e)⟩
 | block id c ih =>
  intro Q Q' L hq h;refine ih (fun e L h=>?_) h
  cases e with
  | normal=>exact hq _ _ h
  | exit i =>
   simp only [blockL] at h ⊢;split
   ·rename_i e;rw [if_pos e] at h;exact hq _ _ h
   rename_i e;rw [if_neg e] at h;exact hq _ _ h
  | ret=>exact hq _ _ h
 | loop c ih =>
  intro Q Q' L hq h I hI;refine h I fun L hL=>hI L (ih (fun e L h=>?_) hL)
  cases e with
  | normal=>exact h
  | exit i=>exact hq _ _ h
  | ret=>exact hq _ _ h
 | exit id=>exact fun hq h=>hq _ _ h
 | ret=>exact fun hq h=>hq _ _ h
 | rangeFunc=>exact fun _ h=>h.elim
 | scope=>exact fun _ h=>h.elim
 | label=>exact fun _ h=>h.elim
 | goto=>exact fun _ h=>h.elim
 | refuse=>exact fun _ h=>h.elim
theorem wl_loop {c:Code} {α:Type} (S:α->St->St) (C:α->Prop) (μ:α->Nat) (a0:α) (hC:C a0) (h0:∃ L1,Weak L (S a0 L1))
  (hr:∀ a L1,C a->wpL P c (thenL (fun L'=>∃ a' L2,C a'/\μ a'<μ a/\Weak L' (S a' L2)) Q) (S a L1)):wpL P (.loop c) Q L:=by
 obtain⟨L1,h1⟩:=h0;intro I hI;have key:∀ n a L1,μ a=n->C a->I (S a L1):=by
  intro n
  induction n using sT with
  | _ n ih =>
   intro a L1 hn hCa;refine hI _ (wpL_mono (fun e L h=>?_) (hr a L1 hCa))
   cases e with
   | normal =>
    obtain⟨a',L2,g1,g2,g3⟩:=h;exact⟨_,g3,ih _ (hn ▸ g2) a' L2 rfl g1⟩
   | exit i=>exact h
   | ret=>exact h
 exact⟨_,h1,key _ a0 L1 rfl hC⟩
theorem wl_unroll {c:Code} (h:wpL P c (thenL (wpL P (.loop c) Q) Q) L):wpL P (.loop c) Q L:=by
 intro I hI;refine⟨L,Weak.refl L,hI L (wpL_mono (fun e L' h=>?_) h)⟩
 cases e with
 | normal=>exact h I hI
 | exit i=>exact h
 | ret=>exact h
theorem wl_cut {c:Code} (K:St->Prop) (h:wpL P c (thenL K Q) L) (hk:∀ L,K L->Q .normal L):wpL P c Q L :=
 wpL_mono (fun e L h=>by cases e with | normal=>exact hk L h | exit i=>exact h | ret=>exact h) h
end
theorem put_id {L:St} {t:Nat} {r:LV} (h:L.slot t=r):L.put (some t) r=L:=by
 cases L with
 | mk s hp =>
  simp only [St.put,St.mk.injEq,and_true];funext k;have:=put_slot ⟨s,hp⟩ t r k;simp only [St.put] at this;rw [this];split
  ·rename_i hk;subst hk;exact h.symm
  rfl
theorem put_id' {L L':St} {t:Nat} {r:LV} (h0:L'=L) (h:L.slot t=r):L'.put (some t) r=L:=by rw [h0];exact put_id h
theorem Weak.of_eq {L L':St} (h:L'=L):Weak L L':=by subst h;exact Weak.refl _
theorem put_put_ne (L:St) (t:Nat) (r:LV) (s:Nat) (h:(s==t)=false):(L.put (some t) r).slot s=L.slot s:=by
 rw [put_slot,if_neg dX]
theorem put_same (L:St) (t:Nat) (r:LV):(L.put (some t) r).slot t=r:=by rw [put_slot,if_pos rfl]
section
variable {P:Program} {dr:Bool} {ops:Array Oper} {rest:List Oper} {L:St} {K:St->Prop} {dst:Option Tmp} {op:Op} {ty:TypeId} {pos:String} {af:Array Edge}
theorem guardX {j d:Nat} {b v want res:Bool} (h1:(ops[j]?).bind (·.dst)=some d) (h2:L.slot d=.v (.bool b)) (h3:b=v) (h4:(v==want)=res) :
  GuardIs ops L ⟨dst,op,ty,pos,af,some (j,want)⟩ res:=⟨d,h1,.inl ⟨b,h2,by rw [h3,h4]⟩⟩
theorem guardS {j d:Nat} {want:Bool} (h1:(ops[j]?).bind (·.dst)=some d) (h2:L.slot d=.tup []):GuardIs ops L ⟨dst,op,ty,pos,af,some (j,want)⟩ false:=⟨d,h1,.inr ⟨h2,rfl⟩⟩
theorem st_end {L':St} (h:L=L') (k:K L'):opsL P dr ops [] L K:=by subst h;exact k
end
section
variable {P:Program} {L:St}
theorem ret1 {t:Nat} {x y:LV} (h:L.slot t=x) (hi:Imm L.heap x y):RetL P [.tmp t] L y [] :=
 ⟨[x],[y],L.heap,[],.cons h .nil,Heap.le_refl _,.cons (.imm hi) .nil,sN,rfl,fun k b h=>by simp at h,rfl⟩
theorem ret1f {t:Nat} {x y:LV} (bs:List Nat) (h0:bs.contains 0=false) (h:L.slot t=x) (hi:Imm (L.frz bs).heap x y):RetL P [.tmp t] L y [] :=
 ⟨[x],[y],(L.frz bs).heap,[],.cons h .nil,frz_le bs h0,.cons (.imm hi) .nil,sN,rfl,fun k b h=>by simp at h,rfl⟩
theorem ret2 {t u:Nat} {x y x' y':LV} (h:L.slot t=x) (hi:Imm L.heap x y) (h':L.slot u=x') (fv:Imm L.heap x' y'):RetL P [.tmp t,.tmp u] L (.tup [y,y']) [] :=
 ⟨[x,x'],[y,y'],L.heap,[],.cons h (.cons h' .nil),Heap.le_refl _,.cons (.imm hi) (.cons (.imm fv) .nil),sN,rfl,fun k b h=>by simp at h,rfl⟩
theorem ret2f {t u:Nat} {x y x' y':LV} (bs:List Nat) (h0:bs.contains 0=false) (h:L.slot t=x) (hi:Imm (L.frz bs).heap x y) (h':L.slot u=x') (fv:Imm (L.frz bs).heap x' y'):RetL P [.tmp t,.tmp u] L (.tup [y,y']) [] :=
 ⟨[x,x'],[y,y'],(L.frz bs).heap,[],.cons h (.cons h' .nil),frz_le bs h0,.cons (.imm hi) (.cons (.imm fv) .nil),sN,rfl,fun k b h=>by simp at h,rfl⟩
theorem ret3f {t u s:Nat} {x y x' y' x'' y'':LV} (bs:List Nat) (h0:bs.contains 0=false) (h:L.slot t=x) (hi:Imm (L.frz bs).heap x y) (h':L.slot u=x') (fv:Imm (L.frz bs).heap x' y')
  (zZ:L.slot s=x'') (ae9:Imm (L.frz bs).heap x'' y''):RetL P [.tmp t,.tmp u,.tmp s] L (.tup [y,y',y'']) [] :=
 ⟨[x,x',x''],[y,y',y''],(L.frz bs).heap,[],.cons h (.cons h' (.cons zZ .nil)),frz_le bs h0,.cons (.imm hi) (.cons (.imm fv) (.cons (.imm ae9) .nil)),sN,rfl,fun k b h=>by simp at h,rfl⟩
theorem ret1own {t b sz len:Nat} {blk:Blk} (h:L.slot t=.ref b sz 0 len) (hb:L.heap b=some blk) (hp:pures blk.vals=true):RetL P [.tmp t] L (.ref 1 sz 0 len) [blk] :=
 ⟨[.ref b sz 0 len],[.ref 1 sz 0 len],L.heap,[b],.cons h .nil,Heap.le_refl _,.cons (.ref (k:=0) rfl) .nil,by simp,rfl,fun k c hk=>by
  cases k with
  | zero=>simp at hk;subst hk;exact⟨blk,hb,rfl,hp⟩
  | succ k=>simp at hk,rfl⟩
theorem retC {a:Nat} {T:TypeId} {b sz:Nat} {x y:LV} {m:Bool} {n:Nat} {ag:Bool} (bs:List Nat) (h0:bs.contains 0=false) (h:L.slot a=.eptr b sz 0 0) (hb:L.heap b=some ⟨sz,[x],m⟩)
  (hx:x.csize=sz) (gB:x.at 0 n ag=some x) (hT:TyIs P T n ag) (hi:Imm (L.frz bs).heap x y):RetL P [.cell a T] L y [] :=
 ⟨[x],[y],(L.frz bs).heap,[],.cons ⟨b,sz,0,0,_,x,n,ag,h,hb,rfl,rfl,hx,gB,hT⟩ .nil,frz_le bs h0,.cons (.imm hi) .nil,sN,rfl,fun k b h=>by simp at h,rfl⟩
theorem imm_ref {bs:List Nat} {b sz off len:Nat} {vals:List LV} {m:Bool} (hb:L.heap b=some ⟨sz,vals,m⟩) (kF:bs.contains b=true) (hp:pures vals=true) (hl:off+len<=vals.length) :
  Imm (L.frz bs).heap (.ref b sz off len) (.list sz ((vals.drop off).take len)) :=
 Imm.ref (blk:=⟨sz,vals,m && !bs.contains b⟩) (by simp [St.frz,hb]) rfl hp hl (by rw [kF];simp)
theorem imm_refm {α:Type} {e:α->LV} {ag:Bool} {bs:List Nat} {b sz len:Nat} {l:List α} {m:Bool} (he:EncOK e sz ag) (hb:L.heap b=some ⟨sz,l.map e,m⟩) (kF:bs.contains b=true) (hl:len=l.length) :
  Imm (L.frz bs).heap (.ref b sz 0 len) (.list sz (l.map e)):=by
 have:=imm_ref (L:=L) (bs:=bs) (off:=0) (len:=len) hb kF (pures_map he l) (by simp [hl]);rwa [dY,List.take_of_length_le (by simp [hl])] at this
end
section
variable {P:Program} {H:Heap} {ρ:Operand->LV}
theorem OpP.pickT {c x y:Operand} {t:Bool} (h:ρ c=.v (.bool t)) (ht:t=true):OpP P H ρ (.pick c x y) (ρ x):=by
 have:=OpP.pick (P:=P) (H:=H) (x:=x) (y:=y) h;rwa [if_pos ht] at this
theorem OpP.pickF {c x y:Operand} {t:Bool} (h:ρ c=.v (.bool t)) (ht:t=false):OpP P H ρ (.pick c x y) (ρ y):=by
 have:=OpP.pick (P:=P) (H:=H) (x:=x) (y:=y) h;rwa [if_neg (by simp [ht])] at this
end
section
variable {P:Program} {dr:Bool} {ops:Array Oper} {rest:List Oper} {L:St} {K:St->Prop} {dst:Option Tmp} {ty:TypeId} {pos:String} {af:Array Edge} {x:Operand}
theorem mv (k:opsL P dr ops rest (L.put dst (L.ev x)) K):opsL P dr ops (⟨dst,.move x,ty,pos,af,none⟩ :: rest) L K:=st_pure rfl (.move _) k
theorem asg (k:opsL P dr ops rest (L.put dst (L.ev x)) K):opsL P dr ops (⟨dst,.assign x,ty,pos,af,none⟩ :: rest) L K:=st_pure rfl (.assign _) k
end
section
variable {P:Program} {H:Heap} {ρ:Operand->LV} {α:Type} {e:α->LV} {sz:Nat} {ag:Bool} {T E:TypeId} {x y z:Operand} {l:List α} {a h:Nat} {k k':IntKind}
theorem OpP.sliceLb (_he:EncOK e sz ag) (hx:ρ x=.list sz (l.map e)) (hT:P.underlying T=some (.slice E)) (hE:TyIs P E sz ag) (aC:ρ y=.v (.int k (a:Nat))) (dg:ρ z=.v (.int k' (h:Nat))) (h1:a<=h) (h2:h<=l.length) :
  OpP P H ρ (.slice T x (some y) (some z) none) (.list sz (((l.take h).drop a).map e)):=by
 have:=OpP.sliceL (P:=P) (H:=H) (ρ:=ρ) (la:=some y) (ha:=some z) (a:=a) (h:=h) hx hT hE (fun w hw=>by cases hw;exact⟨_,aC⟩) (fun h=>by cases h) (fun w hw=>by cases hw;exact⟨_,dg⟩) (fun h=>by cases h) h1 (by simpa using h2);rwa [<-lY,<-sD] at this
theorem OpP.sliceLl (_he:EncOK e sz ag) (hx:ρ x=.list sz (l.map e)) (hT:P.underlying T=some (.slice E)) (hE:TyIs P E sz ag) (aC:ρ y=.v (.int k (a:Nat))) (h1:a<=l.length) :
  OpP P H ρ (.slice T x (some y) none none) (.list sz ((l.drop a).map e)):=by
 have:=OpP.sliceL (P:=P) (H:=H) (ρ:=ρ) (la:=some y) (ha:=none) (a:=a) (h:=(l.map e).length) hx hT hE (fun w hw=>by cases hw;exact⟨_,aC⟩) (fun h=>by cases h) (fun w hw=>by cases hw) (fun _=>rfl) (by simpa using h1) (an _);rwa [List.take_length,<-sD] at this
theorem OpP.sliceLh (_he:EncOK e sz ag) (hx:ρ x=.list sz (l.map e)) (hT:P.underlying T=some (.slice E)) (hE:TyIs P E sz ag) (dg:ρ z=.v (.int k' (h:Nat))) (h2:h<=l.length) :
  OpP P H ρ (.slice T x none (some z) none) (.list sz ((l.take h).map e)):=by
 have:=OpP.sliceL (P:=P) (H:=H) (ρ:=ρ) (la:=none) (ha:=some z) (a:=0) (h:=h) hx hT hE (fun w hw=>by cases hw) (fun _=>rfl) (fun w hw=>by cases hw;exact⟨_,dg⟩) (fun h=>by cases h) J (by simpa using h2);rwa [dY,<-lY] at this
theorem pure_lst (he:EncOK e sz ag) (n:Nat) (l:List α):(LV.list n (l.map e)).pure=true:=by simp only [LV.pure];exact pures_map he l
end
theorem e1 (L:St) (t:Nat):L.ev (.tmp t)=L.slot t:=rfl
theorem e2 (L:St) (k:IntKind) (n:Int):L.ev (.const (.int k n))=.v (.int k n):=rfl
theorem e3 (L:St) (b:Bool):L.ev (.const (.bool b))=.v (.bool b):=rfl
theorem e4 (L:St):L.ev (.const (.slice none 0 0))=.v (.slice none 0 0):=rfl
theorem p1 (L:St) (t:Nat) (r:LV):(L.put (some t) r).slot t=r:=put_same L t r
theorem p2 (L:St) (t:Nat) (r:LV) (s:Nat) (h:(s==t)=false):(L.put (some t) r).slot s=L.slot s:=put_put_ne L t r s h
theorem p3 (L:St) (r:LV):L.put none r=L:=rfl
theorem q1 (L:St) (b:Nat) (x:Option Blk) (s:Nat):(L.setB b x).slot s=L.slot s:=rfl
theorem q2 (L:St) (bs:List Nat) (s:Nat):(L.frz bs).slot s=L.slot s:=rfl
theorem q3 (L:St) (b:Nat) (s:Nat):(L.kill b).slot s=(L.slot s).kill b:=rfl
theorem l1 {α β:Type} (f:α->β) (l:List α):(l.map f).length=l.length:=aA f
theorem st_callMp {P:Program} {dst:Option Tmp} {ty:TypeId} {pos:String} {af:Array Edge} {g:Option (Nat × Bool)} {rest:List Oper} {L:St} {K:St->Prop} {f:FuncId} {xs:Array Operand} {kj:Array TypeId} {args:List LV} {r:LV} {ops:Array Oper} (b:Nat) {blk blk':Blk} (hg:GuardIs ops L ⟨dst,.call ⟨.value (.func f),xs,kj⟩,ty,pos,af,g⟩ true)
  (hb:L.heap b=some blk) (hm:blk.mt=true) (hp:pures blk.vals=true) (ha:ArgML L.heap b (xs.toList.map L.ev) args) (hn:Names b (xs.toList.map L.ev)) (hk:CallOKM P f blk args r blk')
  (gp:blk'.mt=true) (dQ:pures blk'.vals=true) (hr:r.pure=true) (k:opsL P false ops rest ((L.setB b (some blk')).put dst r) K) :
  opsL P false ops (⟨dst,.call ⟨.value (.func f),xs,kj⟩,ty,pos,af,g⟩ :: rest) L K :=
 st_callM b hg hb hm hp ha hn hk gp dQ (by rw [LV.ren_pure _ _ hr];exact k)
end Go.Lg
end
