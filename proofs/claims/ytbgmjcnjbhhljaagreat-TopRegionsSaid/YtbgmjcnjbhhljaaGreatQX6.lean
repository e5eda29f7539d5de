/- Texts TB1, V2, TB2, P5, K21, A3, K26, A4, Z1, Z2, Z3, A1, TB3, TB4, TB5, TB6, A5, TB7, A6, A7, A9, TB8, TB9, TBA, TBB, A12, TBC of this proof, joined. -/
import Derived.Test.YtbgmjcnjbhhljaaGreatQX5
import Derived.RangeFuncNested
import Derived.RangeFuncBound
import Derived.RangeFuncCalls
import Derived.RangeFuncLeaves
import Derived.RangeFuncBox
import Derived.Shelf.Abstract
import Derived.Shelf.RegionOpen
import Derived.OwnWalkIn
import Derived.TacticsInMore
import Derived.LoopNIn
import Derived.LoopIn
set_option linter.unusedVariables false
set_option linter.unusedSimpArgs false
open Array renaming getElem?_eq_some_iff->fY,replicate->nD,replicate_succ->aha,replicate_zero->af7
open Bool renaming and_eq_true->cY,and_true->ahb,not_eq_true->yO
open Go.Proofs.Tryz renaming func234->anZ,func300->aqg,func333->aq5,prog->ae,underlying101->aeo,underlying174->vT,underlying182->agQ,underlying191->abR,underlying194->qC,underlying276->oB,underlying279->aaP,underlying53->en,underlying72->xw,underlying89->aaZ
open List renaming all_eq_true->mg,append_assoc->wC,append_nil->eX,append_toArray->ago,cons_append->rq,drop_eq_getElem_cons->yE,drop_of_length_le->iP,drop_succ_cons->aap,drop_zero->gX,foldl->zL,forall_mem_cons->afg,getD_cons_succ->iG,getD_cons_zero->ij,getD_eq_getElem?_getD->bf,getElem?_append_left->vf,getElem?_drop->wv,getElem?_eq_getElem->bO,getElem?_map->iT,getElem?_take_of_lt->ajL,getElem_mem->rA,length_append->kH,length_cons->dO,length_drop->oe,length_map->bF,length_nil->ff,length_range->ajZ,length_replicate->zl,length_set->afP,length_take->eE,map->fl,map_append->aaH,map_cons->jh,map_nil->nK,map_take->pU,mem_append->p7,mem_cons->fJ,mem_map->fB,mem_of_mem_take->xY,mem_or_eq_of_mem_set->abX,mem_replicate->xT,mem_singleton->qk,nil_append->eF,not_mem_nil->jN,push_toArray->agx,range->eH,range_succ->aaa,replicate->aJ,replicate_succ'->ai5,set->aax,set_cons_succ->cd,set_cons_zero->cw,size_toArray->qS,take->zP,take_add_one->tt,take_length->je,take_nil->gE,take_of_length_le->cW,take_succ_cons->sr,take_succ_eq_append_getElem->tQ,take_zero->xa
open List.cons renaming injEq->dq
open Nat renaming add_assoc->od,add_mul->ep,add_zero->jK,beq->mO,beq_eq->sR,le_refl->bA,le_trans->bW,lt_of_lt_of_le->oK,lt_or_ge->fH,min_eq_left->jE,mul_assoc->dZ,mul_comm->er,mul_le_mul->rF,mul_le_mul_right->dT,one_le_two_pow->agX,one_mul->vI,pow_succ->gx,reduceAdd->aW,reduceBEq->aS,reduceEqDiff->cy,reduceMul->aZ,reduceSub->ahQ,sub_self->sS,succ_pos->ac7,zero_add->fW,zero_le->bJ
open Rat renaming add_zero->sL,div_def->tu,intCast_le_intCast->amh,intCast_mul->alA,le_of_lt->anY,le_refl->aa8,mul_assoc->aom,mul_div_cancel->akp,mul_inv_cancel->aqC,mul_le_mul_of_nonneg_right->aiZ
section
set_option linter.unusedVariables false
set_option linter.unusedSimpArgs false
namespace Go.Proofs.YtbgmjcnjbhhljaaGreat
open Go.Lg Go.RowKit Go.Shelf
attribute [local go_sem] Oper.semAt_some
set_option maxHeartbeats 1000000 in
theorem aAP(F:Fence)(n:Nat)(h5:F.fn 305)(hro:F.round=none)(a:Option Addr)(len cap:Nat)(w:World):
  CallsIn F n ae 305 #[.slice a len cap] w fun e w'=>e=.returned (.func (.func 333) #[] #[.pointer (some ⟨w.heap.size,0,none⟩)])/\w'=w.alloc (.cells #[.slice a len cap] 276):=by
 refine callsIn_of_wp Tryz.func305 rfl h5 ?_ hro;simp only[Tryz.ntmps305,qS,dO,ff,aW,ahQ,aha,af7,agx,ago,eF,rq]
 gi_wp2
 go_ret
 exact⟨rfl,rfl⟩
def KB(kX Bs:Nat)(W W':World):Prop:=Below kX W W'/\W'.heap[Bs]?=W.heap[Bs]?
theorem KB.refl(kX Bs:Nat)(W:World):KB kX Bs W W:=⟨Below.refl _ _,rfl⟩
theorem KB.trans{kX Bs:Nat}{A B C:World}(h:KB kX Bs A B)(k:KB kX Bs B C):KB kX Bs A C:=⟨h.1.trans k.1,k.2.trans h.2⟩
theorem KB.b{kX Bs:Nat}{w:World}(hn:kX<=w.heap.size)(hb:Bs<w.heap.size)(W:World)(l:Nat)(o o':Obj)(hl:w.heap.size<=l)(h:W.heap[l]?=some o)(h1:o.isCells=false)(h2:o.isWalk=false):KB kX Bs W (W.putObj l o') :=
 ⟨belowK_b hn W l o o' hl h h1 h2,World.putObj_heap_other aa⟩
theorem avZ{w w':World}{p:Addr}(h:w'.heap[p.block]?=w.heap[p.block]?):w'.cell? p=w.cell? p:=World.cell?_of_block (w:=w) h
def enB(len:Nat)(zs:Nat->Nat->Value)(k:Nat):Array Value:=#[.int .i64 ((len:Int)-1-k),.agg #[zs (len-1-k) 0,zs (len-1-k) 1,zs (len-1-k) 2]]
set_option maxRecDepth 100000 in
set_option maxHeartbeats 4000000 in
theorem ayQ(F:Fence)(n:Nat)(h8:F.fn 333)(hro:F.round=none)(hn:1<=n)(l Bs kX b off len cap:Nat)(zs:Nat->Nat->Value)(ac6:len*8<=140737488351232)(hb:b<kX)(J Jx:List Nat->World->Prop)
  (hY:∀pre x W,J pre W->pre.length<len->YieldAt F (n-1) ae l (enB len zs x) W fun e W' =>
   (e=.returned (.bool true)/\J (pre++[x]) W'/\KB kX Bs W W')\/(e=.returned (.bool false)/\Jx (pre++[x]) W'))
  (W:World) (hBs:W.cell? ⟨Bs,0,none⟩=some (.slice (some ⟨b,off,none⟩) len cap)) (hc:∀j,j<len->∀i,i<3->W.cell? ⟨b,off+(j*3+i),none⟩=some (zs j i)) (h0:J [] W) :
  CallsIn F n ae 333 #[.func (.yield l) #[] #[],.pointer (some ⟨Bs,0,none⟩)] W fun e W'=>(∃v,e=.returned v) /\
   ((∃ys,ys=eH len/\J ys W')\/(∃pre,(∃k,k<=len/\pre=eH k)/\Jx pre W')):=by
 refine callsIn_of_wp aq5 rfl h8 ?_ hro;simp only[Tryz.ntmps333,qS,dO,ff,aW,ahQ,aha,af7,agx,ago,eF,rq]
 gi_wp2
 gi_loopw [3] (fun i wr=>∃k:Nat,k<=len/\i=.int .i64 ((len:Int)-1-k)/\J (eH k) wr/\KB kX Bs W wr)
  (fun i _=>(intOf i+1).toNat)
 case atStart=>exact⟨0,bJ _,by simp,h0,KB.refl _ _ _⟩
 case round =>
  obtain⟨k,hk,rfl,hJs,hnx⟩:=hrel;have hBx:wr.cell? ⟨Bs,0,none⟩=some (.slice (some ⟨b,off,none⟩) len cap):=(avZ (p:=⟨Bs,0,none⟩) hnx.2).trans hBs;by_cases bT:k<len
  ·have ux:∀i,i<3->wr.cell? ⟨b,off+((len-1-k)*3+i),none⟩=some (zs (len-1-k) i):=fun i hi=>(hnx.1.cell (p:=⟨b,_,none⟩) hb).trans (hc _ aa i hi);have wG:=ux 0 an;have rv:=ux 1 an;have wg:=ux 2 an;rw[jK]at wG;rw[<-od]at rv wg;clear ux;obtain⟨fn,tmps,assign,body,hy,hR⟩:=hY _ k wr hJs (by rw[ajZ];exact bT);dsimp only[enB]at hy
   gi_wp2
   refine hR.mono ?_;rintro e W3 (⟨rfl,hJ3,hk3⟩|⟨rfl,atE⟩)
   ·gi_wp2
    go_roundw
    case rel=>exact⟨k+1,aa,by simp;omega,by rw[aaa];exact hJ3,hnx.trans hk3⟩
    case measure=>simp[intOf];omega
   gi_wp2
   refine bodyPost_ret (results_none rfl _ _ _) rfl ?_;exact⟨⟨_,rfl⟩,.inr ⟨_,⟨k+1,aa,aaa.symm⟩,atE⟩⟩
  obtain rfl:k=len:=aa
  gi_wp2
  go_end0
  exact⟨⟨_,rfl⟩,.inl ⟨_,rfl,hJs⟩⟩
theorem ars(F:Fence)(n:Nat)(h8:F.fn 333)(hro:F.round=none)(hn:1<=n)(Bs kX b off len cap:Nat)(zs:Nat->Nat->Value)(ac6:len*8<=140737488351232)(hb:b<kX)(w:World)(hBw:Bs<w.heap.size)(azo:kX<=w.heap.size)
  (hBs:w.cell? ⟨Bs,0,none⟩=some (.slice (some ⟨b,off,none⟩) len cap)) (hc:∀j,j<len->∀i,i<3->w.cell? ⟨b,off+(j*3+i),none⟩=some (zs j i)) :
  SeqStopsK F n ae 333 #[.pointer (some ⟨Bs,0,none⟩)] (enB len zs) (KB kX Bs) (fun ys=>ys=eH len) (fun pre=>∃k,k<=len/\pre=eH k) len w:=fun l J Jx W hW _ _ hY h0 =>
 ayQ F n h8 hro hn l Bs kX b off len cap zs ac6 hb J Jx hY W ((hW.cell (p:=⟨Bs,0,none⟩) hBw).trans hBs) (fun j hj i hi=>(hW.cell (p:=⟨b,_,none⟩) (oK hb azo)).trans (hc j hj i hi)) h0
section
variable {Z Z':Nat->Prop} {μ aF:Nat->Option Nat} {w w':World}
mutual
theorem wb(hz:∀id c T fz,Z id->w.heap[id]?=some (.cells c T fz)->Z' id/\w'.heap[id]?=some (.cells c T fz)):
  ∀(lv:LV) (cs:List Value),lv.pure=true->ao Z μ w lv cs->ao Z' aF w' lv cs
 | .any,_,_,h=>by simpa[ao]using h
 | .v x,cs,_,h=>by simpa[ao]using h
 | .list sz l,cs,hp,h=>by
   simp only[ao]at h ⊢;obtain⟨a,len,cap,h1,h2,h3,h4,h9⟩:=h;refine⟨a,len,cap,h1,h2,h3,?_,h9⟩;rcases h4 with h4|⟨blk,off,c,T,fz,part,rest,e1,e2,e3,e4,e5⟩
   ·exact .inl h4
   obtain⟨g1,g2⟩:=hz _ _ _ _ e2 e3;exact .inr ⟨blk,off,c,T,fz,part,rest,e1,g1,g2,e4,aij hz sz l part (by simpa[LV.pure]using hp) e5⟩
 | .agg l,cs,hp,h=>by
   simp only[ao]at h ⊢;exact ak9 hz l cs (by simpa[LV.pure]using hp) h
 | .ref b sz off len,cs,hp,_=>by simp[LV.pure]at hp
 | .gm b sz off len cap,cs,hp,_=>by simp[LV.pure]at hp
 | .ax b sz i o,cs,hp,_=>by simp[LV.pure]at hp
 | .bg c,cs,hp,h=>by
   simp only[ao]at h ⊢;obtain⟨blk,off,cc,T,fz,part,rest,h1,h2,h3,h4,h5,h6,h7⟩:=h;obtain⟨g1,g2⟩:=hz _ _ _ _ h2 h3;exact⟨blk,off,cc,T,fz,part,rest,h1,g1,g2,h4,h5,wb hz c part (by simpa[LV.pure]using hp) h6,h7⟩
 | .bQ f cap,cs,hp,h=>by
   simp only[ao]at h ⊢;obtain⟨vs,h1,h2,h3⟩:=h;exact⟨vs,h1,aij hz 1 cap vs.toList (by simpa[LV.pure]using hp) h2,h3⟩
 | .aQ _,_,_,h=>by simp[ao]at h
theorem aij(hz:∀id c T fz,Z id->w.heap[id]?=some (.cells c T fz)->Z' id/\w'.heap[id]?=some (.cells c T fz))(sz:Nat):
  ∀(l:List LV) (cs:List Value),aN l=true->aw Z μ w sz l cs->aw Z' aF w' sz l cs
 | [],cs,_,h=>by simpa[aw]using h
 |x::xs,cs,hp,h=>by
   simp only[aw]at h ⊢;obtain⟨c1,c2,h1,h2,h3,h4⟩:=h;exact⟨c1,c2,h1,h2,wb hz x c1 (pure_cons hp).1 h3,aij hz sz xs c2 (pure_cons hp).2 h4⟩
theorem ak9(hz:∀id c T fz,Z id->w.heap[id]?=some (.cells c T fz)->Z' id/\w'.heap[id]?=some (.cells c T fz)):
  ∀(l:List LV) (cs:List Value),aN l=true->a8 Z μ w l cs->a8 Z' aF w' l cs
 | [],cs,_,h=>by simpa[a8]using h
 |x::xs,cs,hp,h=>by
   simp only[a8]at h ⊢;obtain⟨c1,c2,h1,h2,h3,h4⟩:=h;exact⟨c1,c2,h1,h2,wb hz x c1 (pure_cons hp).1 h3,ak9 hz xs c2 (pure_cons hp).2 h4⟩
end
end
def Zn(Z0:Nat->Prop)(m:Nat)(w:World)(id:Nat):Prop:=(Z0 id\/m<=id)/\∃c T fz,w.heap[id]?=some (.cells c T fz)
def R3(Z0:Nat->Prop)(m:Nat)(w:World)(q:Rat)(x y z:Value):Prop:=ao (Zn Z0 m w) (fun _=>none) w (ab q) [x,y,z]
theorem R3.move{Z0:Nat->Prop}{m:Nat}{w w':World}{q:Rat}{x y z:Value}(h:R3 Z0 m w q x y z)(hk:∀id,id<w.heap.size->(Z0 id\/m<=id)->w'.heap[id]?=w.heap[id]?):R3 Z0 m w' q x y z :=
 wb (fun id c T fz hz hh=>by
  have:id<w.heap.size:=(fY.1 hh).1;have e:=(hk id this hz.1).trans hh;exact⟨⟨hz.1,c,T,fz,e⟩,e⟩) _ _ (al.pure q) h
theorem alK{Z:Nat->Prop}{μ:Nat->Option Nat}{w:World}{q:Rat}{v:Value}(h:dD Z μ w (ab q) v):∃x y z,v=.agg #[x,y,z]/\ao Z μ w (ab q) [x,y,z]:=by
 obtain⟨cs,rfl,h2⟩:=h.1 (al.isAgg q);obtain⟨l⟩:=cs;have hl:=ao.len h2 (LV.eg (al.pure q));rw[al.aj]at hl
 match l,hl with
 | [x,y,z],_=>exact⟨x,y,z,rfl,h2⟩
theorem call3{P:Program}{f:Nat}{a b r:Rat}{Z0:Nat->Prop}{m n:Nat}{F:Fence}{w:World}{x y z x' y' z':Value}(hF:∀(R:Ending->World->Prop) (args:Array Value),Calls P f args w R->CallsIn F n P f args w R)
  (hc:ar P f [ab a,ab b] (ab r)) (hm:m<=w.heap.size) (ha:R3 Z0 m w a x y z) (hb:R3 Z0 m w b x' y' z') :
  CallsIn F n P f #[.agg #[x,y,z],.agg #[x',y',z']] w fun e w'=>∃u v t,e=.returned (.agg #[u,v,t])/\Below w.heap.size w w'/\R3 Z0 m w' r u v t:=by
 refine hF _ _ (Calls.mono (hc.1.2 w (Zn Z0 m w) [.agg #[x,y,z],.agg #[x',y',z']] (fun id h=>?_) ?_) ?_)
 ·obtain⟨_,c,T,fz,hh⟩:=h;exact(fY.1 hh).1
 ·exact⟨_,_,rfl,⟨fun _=>⟨_,rfl,ha⟩,fun e=>by rw[al.isAgg]at e;cases e⟩,_,_,rfl,⟨fun _=>⟨_,rfl,hb⟩,fun e=>by rw[al.isAgg]at e;cases e⟩,rfl⟩
 rintro e w' ⟨v,μ,Z,rfl,hC,hv⟩;obtain⟨u,v',t,rfl,hr⟩:=alK (aC.qY (LV.dV (al.pure r)) (LV.eg (al.pure r)) hv);refine⟨u,v',t,rfl,hC.bB.below,wb (fun id c T fz hz hh=>⟨⟨?_,c,T,fz,hh⟩,hh⟩) _ _ (al.pure r) hr⟩;rcases hC.g9 id hz with h|h|h
 ·exact h.1
 ·exact .inr (bW hm h)
 exact h.elim
def kA(c:List Rat)(t:Rat)(pre:List Nat):Rat:=pre.foldl (fun o k=>o*t+c.getD (c.length-1-k) 0) 0
theorem arU(c:List Rat)(t:Rat)(pre:List Nat)(x:Nat):kA c t (pre++[x])=kA c t pre*t+c.getD (c.length-1-x) 0:=by simp[kA]
theorem R3.one{Z0:Nat->Prop}{m:Nat}{w:World}{q:Rat}{x y z:Value}(h:R3 Z0 m w q x y z):x.oneCell'=true/\y.oneCell'=true/\z.oneCell'=true :=
 ⟨ao.one _ _ h _ az,ao.one _ _ h _ az,ao.one _ _ h _ az⟩
theorem zh{P:Program}{w:World}{g i:Nat}{cur:Array Value}{T:TypeId}{v:Value}(hg:w.heap[g]?=some (.cells cur T (0,0)))(hi:i<cur.size)(hv:v.oneCell'=true):(store ⟨g,i,none⟩ v).run P w=.ok () (w.setRow g (cur.setIfInBounds i v)):=by
 rw[run_store P w _ v _ hv];have hc:w.cell? ⟨g,i,none⟩=some cur[i]:=by simp[World.cell?,hg,hi]
 have hf:w.frozen? ⟨g,i,none⟩=false:=by simp[World.frozen?,hg]
 rw[hc];simp only[hf];rw[setCell_eq_setRow w g i cur T (0,0) v hg];rfl
theorem st3{P:Program}{w:World}{g:Nat}{a b c x y z:Value}{T:TypeId}(hg:w.heap[g]?=some (.cells #[a,b,c] T (0,0)))(hx:x.oneCell'=true)(hy:y.oneCell'=true)(hz:z.oneCell'=true):
  (((Sem.run P (store ⟨g,0,none⟩ x) w).andThen fun _ w'=>(Sem.run P (store ⟨g,1,none⟩ y) w').andThen fun _ w'=>Sem.run P (store ⟨g,2,none⟩ z) w'))=.ok () (w.setRow g #[x,y,z]):=by
 rw[zh hg az hx,Result.andThen_ok,zh (setRow_heap w g _ _ _ _ hg) az hy,Result.andThen_ok,setRow_setRow,zh (setRow_heap w g _ _ _ _ hg) az hz,setRow_setRow];rfl
theorem R3.grown{Z0:Nat->Prop}{m:Nat}{w w':World}{q:Rat}{x y z:Value}(h:R3 Z0 m w q x y z)(hk:∀id c T fz,w.heap[id]?=some (.cells c T fz)->(Z0 id\/m<=id)->w'.heap[id]?=some (.cells c T fz)):R3 Z0 m w' q x y z :=
 wb (fun id c T fz hz hh=>by
  have e:=hk id c T fz hh hz.1;exact⟨⟨hz.1,c,T,fz,e⟩,e⟩) _ _ (al.pure q) h
structure AtI (Z0:Nat->Prop) (n0:Nat) (W1:World) (v:Rat) (W:World):Prop where
 os:W.os=W1.os
 tape:W.tape=W1.tape
 output:W.output=W1.output
 size:n0+4<=W.heap.size
 block:∀k,k<n0+4->k≠n0+2->W.heap[k]?=W1.heap[k]?
 out:∃x y z,W.heap[n0+2]?=some (.cells #[x,y,z] 29 (0,0))/\R3 Z0 (n0+4) W v x y z
theorem aof{W W':World}{row:Option Nat}(hg:W.grownBy W' row)(hr:∀r,row=some r->∃o:Obj,W.heap[r]?=some o/\o.isCells=false){id:Nat}{c:Array Value}{T:TypeId}{fz:Nat×Nat}(h:W.heap[id]?=some (.cells c T fz)):W'.heap[id]?=some (.cells c T fz):=by
 obtain⟨_,_,_,_,hk⟩:=hg;refine(hk id (fY.1 h).1 fun e=>?_).trans h;obtain⟨o,ho,hc⟩:=hr id (by first|exact e|exact e.symm);rw[h]at ho;cases ho;cases hc
theorem AtI.own{Z0:Nat->Prop}{n0:Nat}{W1:World}{v:Rat}{W W':World}{row:Option Nat}(h:AtI Z0 n0 W1 v W)(hg:W.grownBy W' row)(hr:∀r,row=some r->n0+4<=r/\∃o:Obj,W.heap[r]?=some o/\o.isCells=false):AtI Z0 n0 W1 v W':=by
 have fL:=fun(id:Nat) (c:Array Value) (T:TypeId) (fz:Nat×Nat) (hh:W.heap[id]?=some (.cells c T fz))=>aof hg (fun r e=>(hr r e).2) hh;obtain⟨x,y,z,ho,hv⟩:=h.out;obtain⟨g1,g2,g3,g4,hk⟩:=hg;have kk:∀k,k<n0+4->W'.heap[k]?=W.heap[k]?:=fun k h1=>hk k (oK h1 h.size) fun e=>by
  have:=(hr k (by first|exact e|exact e.symm)).1;omega
 have hs:=h.size;refine⟨?_,?_,?_,aa,fun k h1 h2=>(kk k h1).trans (h.block k h1 h2),x,y,z,fL _ _ _ _ ho,hv.grown fun id c T fz hh _=>fL id c T fz hh⟩
 ·exact(by first|exact g1|exact g2|exact g3:W'.os=W.os).trans h.os
 ·exact(by first|exact g1|exact g2|exact g3:W'.tape=W.tape).trans h.tape
 exact(by first|exact g1|exact g2|exact g3:W'.output=W.output).trans h.output
set_option maxRecDepth 100000 in
set_option maxHeartbeats 8000000 in
theorem atC(Z0:Nat->Prop)(c:List Rat)(t:Rat)(b off len cap:Nat)(hlen:c.length=len)(h0:0<len)(ac6:len*8<=140737488351232)(zs:Nat->Nat->Value)(t0 t1 t2:Value)(w:World)(n0:Nat)(fw:w.heap.size=n0)(hZ0:∀id,Z0 id->id<n0)(hb:b<n0)
  (hc:∀j,j<len->∀i,i<3->w.cell? ⟨b,off+(j*3+i),none⟩=some (zs j i)) (hx:∀j,j<len->R3 Z0 (n0+4) w (c.getD j 0) (zs j 0) (zs j 1) (zs j 2)) (ht:R3 Z0 (n0+4) w t t0 t1 t2) (hMul:∀pre:List Nat,pre.length<len->ar ae 19 [ab (kA c t pre),ab t] (ab (kA c t pre*t))) (hAdd:∀(pre:List Nat) (x:Nat),pre.length<len->ar ae 59 [ab (kA c t pre*t),ab (c.getD (len-1-x) 0)] (ab (kA c t (pre++[x])))) :
  CallsIn Fence.wide 10 ae 234 #[.slice (some ⟨b,off,none⟩) len cap,.agg #[t0,t1,t2]] w fun e w'=>∃x y z,e=.returned (.agg #[x,y,z])/\Below n0 w w'/\R3 Z0 (n0+4) w' (kA c t (eH len)) x y z:=by
 refine callsIn_of_wp_marks anZ rfl trivial ?_ rfl;simp only[Tryz.ntmps234,qS,dO,ff,aW,ahQ,aha,af7,agx,ago,eF,rq]
 gi_wp2_with (refine⟨trivial,?_⟩;refine(aAP Fence.wide 9 trivial rfl _ _ _ _).mono ?_;rintro e w' ⟨rfl,rfl⟩)
 obtain⟨W1,ra⟩:∃W1,W1=(((w.alloc (Obj.cells #[t0,t1,t2] 29)).alloc (Obj.cells #[Value.bool false,Value.slice none 0 0,Value.slice none 0 0] 29)).alloc (Obj.cells #[Value.bool false,Value.slice none 0 0,Value.slice none 0 0] 29)).alloc (.cells #[.slice (some ⟨b,off,none⟩) len cap] 276):=⟨_,rfl⟩;have fV:W1.heap.size=n0+4:=by rw[ra];simp[fw]
 have ha:∀(v:World) (o:Obj),(v.alloc o).heap[v.heap.size]?=some o:=fun v o=>World.alloc_heap_new v o;have hl:∀(v:World) (o:Obj) (k:Nat),k<v.heap.size->(v.alloc o).heap[k]?=v.heap[k]?:=fun v o k h=>Below.heap_alloc v o k h;have kB:∀k,k<n0->W1.heap[k]?=w.heap[k]?:=fun k h=>by
  rw[ra,hl _ _ _ bm,hl _ _ _ bm,hl _ _ _ bm,hl _ _ _ aa]
 have e0:W1.heap[n0]?=some (.cells #[t0,t1,t2] 29 (0,0)):=by
  rw[ra,hl _ _ _ bm,hl _ _ _ bm,hl _ _ _ bm,<-fw];exact ha _ _
 have e1:W1.heap[n0+1]?=some (.cells #[.bool false,.slice none 0 0,.slice none 0 0] 29 (0,0)):=by
  rw[ra,hl _ _ _ bm,hl _ _ _ bm];have:=ha (w.alloc (Obj.cells #[t0,t1,t2] 29)) (Obj.cells #[Value.bool false,Value.slice none 0 0,Value.slice none 0 0] 29);rwa[World.size_alloc,fw]at this
 have e2:W1.heap[n0+2]?=some (.cells #[.bool false,.slice none 0 0,.slice none 0 0] 29 (0,0)):=by
  rw[ra,hl _ _ _ bm];have:=ha ((w.alloc (Obj.cells #[t0,t1,t2] 29)).alloc (Obj.cells #[Value.bool false,Value.slice none 0 0,Value.slice none 0 0] 29)) (Obj.cells #[Value.bool false,Value.slice none 0 0,Value.slice none 0 0] 29);rwa[World.size_alloc,World.size_alloc,fw]at this
 have e3:W1.heap[n0+3]?=some (.cells #[.slice (some ⟨b,off,none⟩) len cap] 276 (0,0)):=by
  have:=ha (((w.alloc (Obj.cells #[t0,t1,t2] 29)).alloc (Obj.cells #[Value.bool false,Value.slice none 0 0,Value.slice none 0 0] 29)).alloc (Obj.cells #[Value.bool false,Value.slice none 0 0,Value.slice none 0 0] 29)) (.cells #[.slice (some ⟨b,off,none⟩) len cap] 276);rw[World.size_alloc,World.size_alloc,World.size_alloc,fw]at this;rw[ra];exact this
 have hB:Below n0 w W1:=⟨by rw[ra];rfl,by rw[ra];rfl,by rw[ra];rfl,aa,kB⟩;have hI0:AtI Z0 n0 W1 (kA c t []) W1:=⟨rfl,rfl,rfl,aa,fun _ _ _=>rfl,_,_,_,e2,by
  show ao _ _ _ (ab 0) _;rw[iF];simp only[ao,a8];exact⟨[.bool false],_,rfl,rfl,⟨rfl,rfl⟩,[.slice none 0 0],_,rfl,rfl,⟨none,0,0,rfl,rfl,bA _,.inl trivial,rfl⟩,[.slice none 0 0],_,rfl,rfl,⟨none,0,0,rfl,rfl,bA _,.inl trivial,rfl⟩,rfl⟩⟩
 simp only[World.size_alloc,<-ra];refine wpIn_rangeFunc_ownH (w:=W1) rfl an (gf:=333) (lb:=#[.pointer (some ⟨n0+3,0,none⟩)]) rfl trivial (enters_of aq5 gg rfl)
  (ars Fence.wide 9 trivial rfl an (n0+3) n0 b off len cap zs ac6 aa W1 aa aa (by simp[World.cell?,e3]) (fun j hj i hi=>(hB.cell (p:=⟨b,_,none⟩) (by show b<n0;omega)).trans (hc j hj i hi)))
  (fun h k=>h.trans k) (fun W l o o' hl h h1 h2=>KB.b aa aa W l o o' hl h h1 h2) (Below.refl _ _) (fun _=>rfl)
  (fun pre W=>AtI Z0 n0 W1 (kA c t pre) W) (fun _ _ _=>False) (fun s A B row hs hg hr=>hs.own hg (fun r e=>by rw[<-fV];exact hr r e)) (fun _ _ _ _ _ hs _ _=>hs) hI0
  (fun x a' W=>∃Bx,n0+4<=Bx/\W.heap[Bx]?=some (.cells #[zs (len-1-x) 0,zs (len-1-x) 1,zs (len-1-x) 2] 29 (0,0))/\a'={ tmps:=#[.slice (some ⟨b,off,none⟩) len cap,.agg #[t0,t1,t2],undef,.pointer (some ⟨n0,0,none⟩),.pointer (some ⟨n0+1,0,none⟩),.pointer (some ⟨n0+2,0,none⟩),undef,.pointer (some ⟨Bx,0,none⟩),.slice (some ⟨b,off,none⟩) len cap,.func (.func 333) #[] #[.pointer (some ⟨n0+3,0,none⟩)],.int .i64 ((len:Int)-1-x),.agg #[zs (len-1-x) 0,zs (len-1-x) 1,zs (len-1-x) 2],undef,undef,undef,undef,undef,undef],defers:=[] })
  (fun x a' s A B row hs hg hr=>by
   obtain⟨Bx,h1,h2,h3⟩:=hs;exact⟨Bx,h1,aof hg (fun r e=>(hr r e).2) h2,h3⟩) ?assign ?body ?done ?stop
 case assign =>
  intro l pre x W K hi hK;dsimp only[enB]
  gi_wp2
  have hz:=(hx (len-1-x) aa).one;have gJ:(W.alloc (Obj.cells #[Value.bool false,Value.slice none 0 0,Value.slice none 0 0] 29)).heap[W.heap.size]?=some (.cells #[Value.bool false,Value.slice none 0 0,Value.slice none 0 0] 29 (0,0)):=World.alloc_heap_new W _;rw[st3 gJ hz.1 hz.2.1 hz.2.2,Result.andThen_ok];simp only[Oper.uponIn_skip]
  gi_wp2
  obtain⟨W2,lN⟩:∃W2,W2=(W.alloc (Obj.cells #[Value.bool false,Value.slice none 0 0,Value.slice none 0 0] 29)).setRow W.heap.size #[zs (len-1-x) 0,zs (len-1-x) 1,zs (len-1-x) 2]:=⟨_,rfl⟩;have a6:=hi.size;have k2:∀k,k<W.heap.size->W2.heap[k]?=W.heap[k]?:=fun k hk=>by rw[lN,setRow_other _ _ _ _ aa];exact Below.heap_alloc _ _ _ hk
  have z2:W2.heap.size=W.heap.size+1:=by rw[lN];simp
  rw[<-lN];exact hK _ _ ⟨aa,fun k o _ h _=>(k2 k (fY.1 h).1).trans h⟩ ⟨⟨by rw[lN];rfl,by rw[lN];rfl,by rw[lN];rfl,aa,fun k hk=>k2 k aa⟩,k2 _ aa⟩
   ⟨by rw[lN];exact hi.os,by rw[lN];exact hi.tape,by rw[lN];exact hi.output,aa,fun k h1 h2=>(k2 k aa).trans (hi.block k h1 h2),by
    obtain⟨x',y',z',ho,hv⟩:=hi.out;exact⟨x',y',z',(k2 _ aa).trans ho,hv.move fun id h _=>k2 id h⟩⟩
   ⟨W.heap.size,aa,by rw[lN];exact setRow_heap _ _ _ _ _ _ gJ,rfl⟩
 case body =>
  rintro l pre x a' W hl ⟨r,hr⟩ hi ⟨Bx,hBx,ux,rfl⟩ bT;obtain⟨x',y',z',ho,hv⟩:=hi.out;have et:W.heap[n0]?=some (.cells #[t0,t1,t2] 29 (0,0)):=(hi.block n0 aa aa).trans e0;have c0:W.cell? ⟨n0+1+1,0,none⟩=some x':=by simp[World.cell?,ho]
  have c1:W.cell? ⟨n0+1+1,1,none⟩=some y':=by simp[World.cell?,ho]
  have c2:W.cell? ⟨n0+1+1,2,none⟩=some z':=by simp[World.cell?,ho]
  have b0:W.cell? ⟨n0,0,none⟩=some t0:=by simp[World.cell?,et]
  have b1:W.cell? ⟨n0,1,none⟩=some t1:=by simp[World.cell?,et]
  have b2:W.cell? ⟨n0,2,none⟩=some t2:=by simp[World.cell?,et]
  have a0:W.cell? ⟨Bx,0,none⟩=some (zs (len-1-x) 0):=by simp[World.cell?,ux]
  have a1:W.cell? ⟨Bx,1,none⟩=some (zs (len-1-x) 1):=by simp[World.cell?,ux]
  have a2:W.cell? ⟨Bx,2,none⟩=some (zs (len-1-x) 2):=by simp[World.cell?,ux]
  have hmx:ae.follows .mixedOrders=true:=gg;have a6:=hi.size;have hF:∀(f:Nat) (R:Ending->World->Prop) (args:Array Value) (w:World),Calls ae f args w R->CallsIn (Fence.wide.inRound l) 7 ae f args w R:=fun f R args w h=>CallsIn.inRound l (callsIn_wide.2 h);have htW:R3 Z0 (n0+4) W t t0 t1 t2:=ht.grown fun id c T fz hh hz=>by
   have h1:id<w.heap.size:=(fY.1 hh).1;rw[hi.block id aa aa,hB.block id aa];exact hh
  have hxW:R3 Z0 (n0+4) W (c.getD (len-1-x) 0) (zs (len-1-x) 0) (zs (len-1-x) 1) (zs (len-1-x) 2):=(hx _ aa).grown fun id c T fz hh hz=>by
   have h1:id<w.heap.size:=(fY.1 hh).1;rw[hi.block id aa aa,hB.block id aa];exact hh
  have cM:=hMul pre bT;have cA:=hAdd pre x bT;have u4:=call3 (F:=Fence.wide.inRound l) (n:=7) (w:=W.drew) (fun R args h=>hF _ R args _ h) cM a6 (hv.move fun _ _ _=>rfl) (htW.move fun _ _ _=>rfl)
  gi_wp2
  have hBl:Bx<W.heap.size:=(fY.1 ux).1
  gi_region_with_o (first
   |(refine⟨trivial,?_⟩;refine u4.mono ?_;rintro e w2 ⟨p1,p2,p3,rfl,ng,hp⟩
     have q0:=(ng.cell (p:=⟨Bx,0,none⟩) hBl).trans (show W.drew.cell? ⟨Bx,0,none⟩=_ from a0);have q1:=(ng.cell (p:=⟨Bx,1,none⟩) hBl).trans (show W.drew.cell? ⟨Bx,1,none⟩=_ from a1);have q2:=(ng.cell (p:=⟨Bx,2,none⟩) hBl).trans (show W.drew.cell? ⟨Bx,2,none⟩=_ from a2))
   |(refine⟨trivial,?_⟩
     refine(call3 (F:=Fence.wide.inRound l) (n:=7) (w:=w2) (fun R args h=>hF _ R args _ h) cA (bW a6 ng.size) hp (hxW.move (fun id h _=>ng.block id h))).mono ?_;rintro e w3 ⟨r1,r2,r3,rfl,uk,hq⟩;have zT:w3.heap[n0+2]?=some (.cells #[x',y',z'] 29 (0,0)):=(uk.block _ (oK (show n0+2<W.heap.size by omega) ng.size)).trans ((ng.block _ (show n0+2<W.heap.size by omega)).trans ho);have qu:=hq.one;have s1:(store ⟨n0+2,0,none⟩ r1).run ae w3=.ok () (w3.setRow (n0+2) #[r1,y',z']):=zh zT az qu.1;have s2:(store ⟨n0+2,1,none⟩ r2).run ae (w3.setRow (n0+2) #[r1,y',z'])=.ok () (w3.setRow (n0+2) #[r1,r2,z']):=by rw[zh (setRow_heap _ _ _ _ _ _ zT) az qu.2.1,setRow_setRow];rfl
     have s3:(store ⟨n0+2,2,none⟩ r3).run ae (w3.setRow (n0+2) #[r1,r2,z'])=.ok () (w3.setRow (n0+2) #[r1,r2,r3]):=by rw[zh (setRow_heap _ _ _ _ _ _ zT) az qu.2.2,setRow_setRow];rfl))
  all_goals gi_wp2
  all_goals (try go_bits)
  all_goals
   have k4:∀k,k<W.heap.size->k≠n0+2->(w3.setRow (n0+2) #[r1,r2,r3]).heap[k]?=W.heap[k]?:=fun k h1 h2=>by
    rw[setRow_other _ _ _ _ h2,uk.block k (oK h1 ng.size)];exact ng.block k h1
   have z4:W.heap.size<=w3.heap.size:=bW ng.size uk.size;refine⟨⟨by rw[setRow_size];exact z4,fun k o _ h hcs=>(k4 k (fY.1 h).1 (fun e=>by rw[e,ho]at h;cases h;cases hcs)).trans h⟩,⟨⟨?_,?_,?_,by rw[setRow_size];exact z4,fun k hk=>k4 k aa aa⟩,k4 _ aa aa⟩,
    ⟨?_,?_,?_,by rw[setRow_size];exact bW a6 z4,fun k h1 h2=>(k4 k aa h2).trans (hi.block k h1 h2),r1,r2,r3,setRow_heap _ _ _ _ _ _ zT,hq.move fun id h hz=>setRow_other _ _ _ _ (fun e=>by rcases hz with hz|hz;have:=hZ0 id hz;omega;omega)⟩⟩
   ·exact uk.os.trans ng.os
   ·exact uk.tape.trans ng.tape
   ·exact uk.output.trans ng.output
   ·exact(uk.os.trans ng.os).trans hi.os
   ·exact(uk.tape.trans ng.tape).trans hi.tape
   exact(uk.output.trans ng.output).trans hi.output
 case done =>
  rintro D ys W hD rfl hi hK;obtain⟨x,y,z,ho,hv⟩:=hi.out;have hv1:=hv.one;have e1':W.heap[n0+1]?=some (.cells #[.bool false,.slice none 0 0,.slice none 0 0] 29 (0,0)):=(hi.block (n0+1) aa aa).trans e1;have c0:W.cell? ⟨n0+1+1,0,none⟩=some x:=by simp[World.cell?,ho]
  have c1:W.cell? ⟨n0+1+1,1,none⟩=some y:=by simp[World.cell?,ho]
  have c2:W.cell? ⟨n0+1+1,2,none⟩=some z:=by simp[World.cell?,ho]
  gi_wp2
  rw[st3 e1' hv1.1 hv1.2.1 hv1.2.2,Result.andThen_ok];simp only[Oper.uponIn_skip]
  gi_wp2
  obtain⟨W2,lN⟩:∃W2,W2=W.setRow (n0+1) #[x,y,z]:=⟨_,rfl⟩;have a6:=hi.size;rw[fV]at hD;have k2:∀k,k≠n0+1->W2.heap[k]?=W.heap[k]?:=fun k hk=>by rw[lN,setRow_other _ _ _ _ hk]
  have r2:W2.heap[n0+1]?=some (.cells #[x,y,z] 29 (0,0)):=by rw[lN];exact setRow_heap _ _ _ _ _ _ e1'
  have hK':W2.heap[D]?=some (.deferred (some [])):=(k2 D aa).trans hK;have z2:W2.heap.size=W.heap.size:=by rw[lN];simp
  have w5:W2.os=W1.os/\W2.tape=W1.tape/\W2.output=W1.output:=by rw[lN];exact⟨hi.os,hi.tape,hi.output⟩
  rw[<-lN];refine⟨by simp,.inl ⟨_,_,rfl,run_takeDeferred hK',?_⟩⟩;have k3:∀k,k≠D->(W2.putObj D (.deferred none)).heap[k]?=W2.heap[k]?:=fun k hk=>World.putObj_heap_other hk;have d0:(W2.putObj D (.deferred none)).cell? ⟨n0+1,0,none⟩=some x:=by simp[World.cell?,k3 (n0+1) aa,r2]
  have d1:(W2.putObj D (.deferred none)).cell? ⟨n0+1,1,none⟩=some y:=by simp[World.cell?,k3 (n0+1) aa,r2]
  have d2:(W2.putObj D (.deferred none)).cell? ⟨n0+1,2,none⟩=some z:=by simp[World.cell?,k3 (n0+1) aa,r2]
  refine⟨.agg #[x,y,z],?_,x,y,z,rfl,?_,?_⟩
  ·simp[results,Tryz.f234,go_sem,d0,d1,d2]
  ·refine⟨?_,?_,?_,?_,fun k hk=>?_⟩
   ·exact w5.1.trans hB.os
   ·exact w5.2.1.trans hB.tape
   ·exact w5.2.2.trans hB.output
   ·show w.heap.size<=_;simp;omega
   rw[k3 k aa,k2 k aa,hi.block k aa aa];exact hB.block k hk
  refine hv.grown fun id c T fz hh hz=>?_;have g1:id≠D:=fun e=>by rw[e,hK]at hh;cases hh
  have g2:id≠n0+1:=fun e=>by rcases hz with h|h;have:=hZ0 id h;omega;omega
  rw[k3 id g1,k2 id g2];exact hh
 case stop =>
  rintro D c pre W hD _ h _;exact h.elim
theorem R3.of{Z0:Nat->Prop}{m:Nat}{w:World}{q:Rat}{x y z:Value}(h:ao Z0 (fun _=>none) w (ab q) [x,y,z]):R3 Z0 m w q x y z :=
 wb (fun id c T fz hz hh=>⟨⟨.inl hz,c,T,fz,hh⟩,hh⟩) _ _ (al.pure q) h
theorem azM(c:List Rat)(t:Rat)(h0:0<c.length)(hl:c.length<=1000)(hMul:∀pre:List Nat,pre.length<c.length->ar ae 19 [ab (kA c t pre),ab t] (ab (kA c t pre*t)))
  (hAdd:∀(pre:List Nat) (x:Nat),pre.length<c.length->ar ae 59 [ab (kA c t pre*t),ab (c.getD (c.length-1-x) 0)] (ab (kA c t (pre++[x])))) :
  ar ae 234 [.list 3 (c.map ab),ab t] (ab (kA c t (eH c.length))):=by
 refine⟨⟨⟨_,anZ,rfl,rfl⟩,fun W Z0 vs hz hr=>?_⟩,fun g=>LV.dF g _ (al.pure _)⟩;obtain⟨v0,vs0,rfl,r0,v1,vs1,rfl,r1,rfl⟩:=hr;obtain⟨t0,t1,t2,rfl,ht⟩:=alK r1;have r2:=r0.2 rfl;simp only[ao]at r2;obtain⟨a,len,cap,e1,e2,e3,e4,e9⟩:=r2;simp only[dq,and_true]at e1;subst e1;rw[bF]at e2;subst e2;rcases e4 with e4|⟨b,off,cc,T,fz,part,rest,rfl,z1,z2,z3,z4⟩
 ·rw[List.map_eq_nil_iff]at e4;subst e4;cases h0
 have hb:=hz b z1;obtain⟨zs,cu⟩:∃zs:Nat->Nat->Value,zs=fun j i=>part.getD (j*3+i) undef:=⟨_,rfl⟩;have ix:=aw.length _ _ z4;rw[bF]at ix;have hcell:∀j,j<c.length->∀i,i<3->W.cell? ⟨b,off+(j*3+i),none⟩=some (zs j i):=fun j hj i hi=>by
  have h1:j*3+i<part.length:=aa;have h2:(cc.toList.drop off)[j*3+i]?=some (zs j i):=by
   rw[z3,vf h1,cu];simp only[bf,bO h1,Option.getD_some]
  rw[wv]at h2;simp only[World.cell?,z2,Option.isSome_none,Bool.false_eq_true,if_false];rw[<-Array.getElem?_toList];exact h2
 have hx:∀j,j<c.length->R3 Z0 (W.heap.size+4) W (c.getD j 0) (zs j 0) (zs j 1) (zs j 2):=fun j hj=>by
  have hg:(c.map ab)[j]?=some (ab (c.getD j 0)):=by
   rw[iT,bO hj,bf,bO hj];rfl
  obtain⟨pre,ch,post,k1,k2,k3,k4,_⟩:=aw.get _ _ _ _ z4 hg
  match ch,k3 with
  | [x,y,z],_ =>
   have e:∀i,i<3->zs j i=[x,y,z].getD i undef:=fun i hi=>by
    rw[cu,k1];simp only[bf];rw[List.getElem?_append_right aa,show j*3+i-pre.length=i by omega,vf (by simpa using hi)]
   rw[e 0 an,e 1 an,e 2 an];exact R3.of k4
 refine Calls.mono (callsIn_wide.1 (atC Z0 c t b off c.length cap rfl h0 aa zs t0 t1 t2 W W.heap.size rfl hz hb hcell hx (R3.of ht) hMul hAdd)) ?_;rintro e w' ⟨x,y,z,rfl,hB,hR⟩;refine⟨_,fun _=>none,fun id=>(Z0 id\/W.heap.size<=id)/\id<w'.heap.size,rfl,⟨⟨hB.os,hB.tape,hB.output,hB.size,fun k hk _=>hB.block k hk,fun k hk=>absurd hk XS.xo⟩,fun id h=>h.2,fun id h=>⟨.inl h,oK (hz id h) hB.size⟩,fun id h=>h.1.elim .inl (fun h=>.inr (.inl h)),fun _ _ _ h=>(nomatch h),fun _ _ h=>(nomatch h),fun _ _ h=>(nomatch h),fun _ h=>absurd h XS.xo,fun _ h=>(h:False).elim,fun _ _ _ h=>(nomatch h),fun _ _ _ h=>(nomatch h),fun _ _ h=>(nomatch h)⟩,?_⟩;refine aC.nZ (LV.dV (al.pure _)) ⟨fun _=>⟨_,rfl,?_⟩,fun e=>by rw[al.isAgg]at e;cases e⟩;exact wb (fun id c T fz h hh=>⟨⟨h.1.elim .inl (fun h=>.inr aa),(fY.1 hh).1⟩,hh⟩) _ _ (al.pure _) hR
end Go.Proofs.YtbgmjcnjbhhljaaGreat
end
section
set_option linter.unusedVariables false
set_option linter.unusedSimpArgs false
set_option maxHeartbeats 8000000
set_option maxRecDepth 100000
attribute [local irreducible] Go.Lg.opsL Go.Lg.bM Go.Lg.lq Go.Lg.nJ
namespace Go.Proofs.YtbgmjcnjbhhljaaGreat
open Go.Lg
theorem avV{s q tl:List Rat}{i:Nat}(hs:s.length=q.length-1)(h:i+1<q.length):(s.take i++(q.drop i++tl)).getD i 0=q.getD i 0/\(s.take i++(q.drop i++tl)).getD (i+1) 0=q.getD (i+1) 0:=by
 have hl:(s.take i).length=i:=by rw[eE];omega
 constructor
 ·rw[af0 _ _ _ aa,hl,sS,adP _ _ _ bm,amJ,jK]
 rw[af0 _ _ _ aa,hl,adP _ _ _ bm,amJ];congr 1;omega
theorem auQ{s q tl:List Rat}{i:Nat}{v:Rat}(hs:s.length=q.length-1)(h:i+1<q.length)(hv:v=s.getD i 0):(s.take i++(q.drop i++tl)).set i v=s.take (i+1)++(q.drop (i+1)++tl):=by
 subst hv;have hl:(s.take i).length=i:=by rw[eE];omega
 rw[yE aa,rq,at5 _ _ _ _ hl.symm];have jq:i<s.length:=aa;rw[tQ jq,wC];congr 1;rw[bf,bO jq];simp
theorem asI{s q tl:List Rat}{k:Nat}(hs:s.length=q.length-1)(h:q.length=k+1):s.take k++(q.drop k++tl)=s++(q.getD k 0::tl):=by
 rw[cW aa,yE aa,iP aa,bf,bO aa];simp
theorem aAi{s q tl:List Rat}{i:Nat}(hs:s.length=q.length-1)(h:i<q.length):(s.take i++(q.drop i++tl)).length=q.length+tl.length:=by
 simp;omega
theorem ax0{q:List Rat}{M k:Nat}(h:∀x∈q,(rl x+1)*2^(k+1)<=M):∀x∈p8 q,(rl x+1)*2^k<=M:=by
 intro x hx;obtain⟨i,hi,rfl⟩:=abD hx;rw[aeC]at hi;rw[ahY q i aa];have h1:=h _ (df (p:=q) (i:=i) aa);have h2:=h _ (df (p:=q) (i:=i+1) aa);have e1:=kW (q.getD (i+1) 0) (q.getD i 0);rw[gx]at h1 h2;have hle:rl (q.getD (i+1) 0-q.getD i 0)+1<=(rl (q.getD i 0)+1)+(rl (q.getD (i+1) 0)+1):=aa;have:=dT (2^k) hle;have e6:=ep (rl (q.getD i 0)+1) (rl (q.getD (i+1) 0)+1) (2^k);have e4:(rl (q.getD i 0)+1)*(2^k*2)=(rl (q.getD i 0)+1)*2^k*2:=by rw[dZ]
 have e5:(rl (q.getD (i+1) 0)+1)*(2^k*2)=(rl (q.getD (i+1) 0)+1)*2^k*2:=by rw[dZ]
 omega
theorem aAQ{p:List Rat}{k:Nat}{tl:List Rat}(h:k<p.length):(eR p).take (k+1)=(eR p).take k++[(iX (p.length-1)).getD k 0*(gz k p).getD 0 0]:=by
 have hl:=ad4 p;rw[tQ aa];congr 1;have:=atW h;rw[bf,bO aa]at this;simpa using this
namespace aiS
theorem aD{p q:Prop}(k:q)(e:p=q:=by simp only[bc,aZ,aW,aS,abf,dc,xr,eX,List.length_append,ek,eq0,af1,afb,ems,eme,iZ,eti,jW,dO,ff,cT al,jz,LV.kill,a9];exact rfl):p:=e.mpr k
end aiS
open aiS in
theorem atr(p:List Rat)(rR:0<p.length)(hl:p.length<=25)(hs:∀x∈p,(rl x+1)*2^p.length<=1073741824):ar ae 301 [.list 3 (p.map ab)] (.list 3 ((eR p).map ab)):=by
 have pe:∀x∈p,rl x<=274877906944:=fun x hx=>by have:=yx (hs x hx);omega
 have aCy:=ad4 p;refine aE Tryz.func301 ?_;have ek:True:=trivial;have eq0:True:=trivial;have af1:True:=trivial;have afb:True:=trivial;have ems:True:=trivial;have eme:True:=trivial;have iZ:True:=trivial;have eti:True:=trivial;refine bu ?_;refine xG [] rfl rfl (.cons (.pure (bN al _ _)) .nil) (arq p aa pe) (bS al _) rfl ?_;refine aP ?_;refine eD rfl rfl (.arb (n:=0) (m:=p.length) al en Z29 bZ mG rfl rfl aa aa aa) ?_;refine bu ?_;refine kz ?_;refine cO (ays (p.length-1) aa) ?_;refine aV ?_;refine kD (av.mv (t:=4) (b:=12) 35 an an an rfl rfl rfl) ?_;refine ow (fun(k:Nat) (tl lo:List Rat) L=>(mS L [(1000145,⟨3,(gz k p++tl).map ab,true⟩),(35,⟨3,lo.map ab,true⟩)] [(4,.ref 35 3 0 lo.length),(3,.ref 1000145 3 0 (p.length-k)),(19,ak k),(18,ak p.length),(17,.list 3 ((iX (p.length-1)).map ab)),(0,.list 3 (p.map ab))])) (fun k tl lo=>k<=p.length/\tl.length=k/\lo=(eR p).take k/\lo.length=k/\∀x∈gz k p,(rl x+1)*2^(p.length-k)<=1073741824) (fun k tl lo=>p.length-k) 0 ([]) ([]) ⟨bJ _,rfl,rfl,rfl,hs⟩ ?_;rintro k tl lo L1 ⟨hk,xd,bD,htk,a6⟩;refine aA ?_;refine au rfl ?_ ?_<;>intro w6 xF
 ·have hkn:k<p.length:=aa;have ye:=ajK p k;obtain⟨j,hj⟩:∃j,p.length-k=j+1:=⟨p.length-k-1,aa⟩;rw[hj]at a6;have ek:(((p.length-k:Nat):Int)-1)=(j:Int):=aa;have hds:=aeC (gz k p);have eq0:(gz k p++tl).getD 0 0=(gz k p).getD 0 0:=adP _ _ _ aa;have mQ:=yx (a6 _ (df (i:=0) aa));have wG:=abN (n:=p.length-1) aa _ (df (i:=k) (by rw[xr];omega));have ets:=aAQ (tl:=tl) hkn;refine ur ?_;refine au rfl ?_ ?_<;>intro sf zu
  ·omega
  refine bx ?_;simp only[tW,dc,fW,eq0];refine cp aK (fo _ _ aa) ?_;refine aT ?_;refine dH rfl (.app (news:=[ab ((iX (p.length-1)).getD k 0*(gz k p).getD 0 0)]) rfl rfl rfl rfl rfl az (.inl rfl) an en en jB bZ rfl mG (.inl ⟨34,0,_,rfl,by decide,rfl,rfl,by simp,rfl,by simp[aN,al.pure]⟩) bm bm an) ?_;refine aV ?_;refine bX ((av.kill _ 34).trans (av.kill _ 6)) ?_;refine aP ?_;refine da (fun(i:Nat) L=>(mS L [(1000145,⟨3,((p8 (gz k p)).take i++((gz k p).drop i++tl)).map ab,true⟩),(35,⟨3,(lo++[((iX (p.length-1)).getD k 0*(gz k p).getD 0 0)]).map ab,true⟩)] [(39,ak i),(38,ak j),(4,.ref 35 3 0 (lo.length+1)),(3,.ref 1000145 3 0 (p.length-k)),(19,ak k),(18,ak p.length),(17,.list 3 ((iX (p.length-1)).map ab)),(0,.list 3 (p.map ab))])) (fun i=>i<=j) (fun i=>j-i) 0 (bJ _) ?_;rintro i L2 hi;refine aA ?_;refine au rfl ?_ ?_<;>intro abr h40
  ·have yS:i<j:=aa;have iZ:((i:Int)+1).toNat=i+1:=aa;obtain⟨af1,afb⟩:=avV (s:=p8 (gz k p)) (q:=gz k p) (tl:=tl) (i:=i) aa aa;have ems:=auQ (s:=p8 (gz k p)) (q:=gz k p) (tl:=tl) (i:=i) aa aa (ahY (gz k p) i aa).symm;have tI:=yx (a6 _ (df (i:=i) aa));have xh:=yx (a6 _ (df (i:=i+1) aa));have hml:=aAi (s:=p8 (gz k p)) (q:=gz k p) (tl:=tl) (i:=i) aa aa;refine qP ?_;simp only[iZ,dc,fW,afb];refine ay ?_;simp only[t1,dc,fW,af1];refine cp aK (ot ((gz k p).getD (i+1) 0) ((gz k p).getD i 0) aa) ?_;refine cb ?_;exact mW
  obtain rfl:j=i:=aa;have eme:=asI (s:=p8 (gz k p)) (q:=gz k p) (tl:=tl) (k:=j) aa aa;refine bx ?_;refine kz ?_;refine ai rfl (.vV rfl qC bZ rfl om om) ?_;refine bx ?_;exact nN (k+1) ((gz k p).getD j 0::tl) (lo++[((iX (p.length-1)).getD k 0*(gz k p).getD 0 0)]) ⟨aa,by simp[xd],by rw[bD,ets],by simp[htk],by rw[show p.length-(k+1)=j by omega];exact ax0 a6⟩
 obtain rfl:k=p.length:=aa;rw[cW aa]at bD;refine bp ?_;rw[<-bD];exact nq [35] rfl rfl (eM al rfl rfl rfl)
def iu(l:List Rat):Nat->Nat
 |0=>0
 |n+1=>if l.getD n 0=0 then iu l n else n+1
theorem adO(l:List Rat):∀n,iu l n<=n
 |0=>bA _
 |n+1=>by rw[iu];split;exact Nat.le_succ_of_le (adO l n);exact bA _
def ew(l:List Rat):List Rat:=l.take (iu l l.length)
theorem sg0{x:Rat}:(bY x=0)↔x=0:=by
 unfold bY;constructor
 ·intro h;split at h
  ·assumption
  split at h<;>cases h
 intro h;rw[if_pos h]
theorem aji{l:List Rat}{j k:Nat}(h:j<k):(l.take k).getD j 0=l.getD j 0:=by
 rw[bf,bf,ajL h]
theorem ajn(l:List Rat)(k:Nat):∀n,n<=k->iu (l.take k) n=iu l n
 |0,_=>rfl
 |n+1,h=>by rw[iu,iu,aji aa,ajn l k n aa]
theorem ayz{w:List Rat}{k:Nat}(h:0<k)(hz:w.getD (k-1) 0=0):iu w k=iu w (k-1):=by
 conv=>lhs;rw[show k=k-1+1 by omega]
 rw[iu,if_pos hz]
theorem avD{w:List Rat}{k:Nat}(h:0<k)(hz:¬w.getD (k-1) 0=0):iu w k=k:=by
 conv=>lhs;rw[show k=k-1+1 by omega]
 rw[iu,if_neg hz];omega
theorem atu{m:List Rat}(h:0<m.length)(hz:m.getD (m.length-1) 0=0):ew (m.take (m.length-1))=ew m:=by
 have hl:(m.take (m.length-1)).length=m.length-1:=by rw[eE];omega
 have e:iu m m.length=iu m (m.length-1):=by
  conv=>lhs;rw[show m.length=m.length-1+1 by omega]
  rw[iu,if_pos hz]
 unfold ew;rw[hl,ajn m _ _ (bA _),List.take_take,e,jE (adO m _)]
theorem as7{m:List Rat}(h:0<m.length)(hz:¬m.getD (m.length-1) 0=0):ew m=m:=by
 have e:iu m m.length=m.length:=by
  conv=>lhs;rw[show m.length=m.length-1+1 by omega]
  rw[iu,if_neg hz];omega
 unfold ew;rw[e,je]
theorem ayg{m:List Rat}(h:¬0<m.length):ew m=m:=by
 have:m=[]:=by cases m<;>simp_all
 subst this;rfl
namespace ajo
theorem aD{p q:Prop}(k:q)(e:p=q:=by simp only[bc,aZ,aW,aS,etj,ej,dc,List.drop_zero,bF,cw,cd,cy,reduceIte,if_true,if_false,cS,LV.kill,a9];exact rfl):p:=e.mpr k
end ajo
open ajo in
theorem ahA(l:List Rat)(hl:l.length<=1000)(hr:∀x∈l,rl x<=1000000000):ar ae 300 [.list 3 (l.map ab)] (.list 3 ((ew l).map ab)):=by
 refine aE aqg (ht:=(fun g=>LV.dF g _ (bN al 3 _))) ?_;have etj:True:=trivial;have ej:True:=trivial;refine aP ?_;refine da (fun(m:List Rat) L=>(mS L [] [(0,.list 3 (m.map ab))])) (fun m=>m.length<=l.length/\(∀x∈m,rl x<=1000000000)/\ew m=ew l) (fun m=>m.length) l ⟨bA _,hr,rfl⟩ ?_;rintro m L1 ⟨hk,hmr,kN⟩;refine aP ?_;refine cz 6 rfl ?_ ?_<;>intro h6r h6
 ·have dE:0<m.length:=aa;have etj:zP (m.length-1) (m.map ab)=(m.take (m.length-1)).map ab:=pU.symm;have ej:((m.length:Int)-1).toNat=m.length-1:=aa;have hSg:=mM (m.getD (m.length-1) 0) (by have:=hmr _ (df (show m.length-1<m.length by omega));omega);refine aA ?_;refine aD ?_;refine cp bK (hSg) ?_;refine ay ?_;refine au rfl ?_ ?_<;>intro mA iR
  ·refine aP ?_;refine kz ?_;refine ai rfl (by first|exact .adg (h:=m.length-1) al rfl oB bZ rfl om|exact .vV rfl oB bZ rfl om om) ?_;refine ay ?_;exact fj (m.take (m.length-1)) ⟨by rw[eE];omega,fun x hx=>hmr x (xY hx),(atu aa (sg0.1 iR)).trans kN⟩ (hm:=by rw[eE];omega)
  refine bp ?_;rw[<-kN,as7 dE (fun h=>iR (sg0.2 h))];exact xq
 have hE:=ayg (m:=m) aa;refine aA ?_;refine aD ?_;refine qP ?_;rw[<-kN,hE];exact xq
namespace akh
theorem aD{p q:Prop}(k:q)(e:p=q:=by simp only[bc,aZ,aW,aS,ej,dc,Nat.zero_add,Nat.sub_zero,bF,cw,cd,cy,reduceIte,if_true,if_false,cS,LV.kill,a9];exact rfl):p:=e.mpr k
end akh
open akh in
theorem ax2(w:List Rat)(n:Nat)(hn:n<=w.length)(hl:w.length<=1000)(hr:∀x∈w,rl x<=1000000000):jt ae 300 ⟨3,w.map ab,true⟩ [.ref 0 3 0 n] (.ref 0 3 0 (iu w n)) ⟨3,w.map ab,true⟩:=by
 refine tr aqg ?_;have ej:True:=trivial;refine aP ?_;refine da (fun(k:Nat) L=>(mS L [(0,⟨3,w.map ab,true⟩)] [(0,.ref 0 3 0 k)])) (fun k=>k<=n/\iu w n=iu w k) (fun k=>k) n ⟨bA _,rfl⟩ ?_;rintro k L1 ⟨hk,kN⟩;refine aP ?_;refine cz 6 rfl ?_ ?_<;>intro h6r h6
 ·have dE:0<k:=aa;have ej:((k:Int)-1).toNat=k-1:=aa;have hSg:=mM (w.getD (k-1) 0) (by have:=hr _ (df (show k-1<w.length by omega));omega);refine aA ?_;refine aD ?_;refine cp bK (hSg) ?_;refine ay ?_;refine au rfl ?_ ?_<;>intro mA iR
  ·refine aP ?_;refine kz ?_;refine ai rfl (.vV rfl oB bZ rfl om om) ?_;refine ay ?_;exact fj (k-1) ⟨aa,kN.trans (ayz dE (sg0.1 iR))⟩
  refine bp ?_;rw[kN,avD dE (fun h=>iR (sg0.2 h))];exact oG rfl .ref rfl rfl (bS al _)
 have hE:iu w k=k:=by rw[show k=0 by omega];rfl
 refine aA ?_;refine aD ?_;refine qP ?_;rw[kN,hE];exact oG rfl .ref rfl rfl (bS al _)
structure rM (po:List dG) (d R:Nat):Prop where
 hl:po.length=d+1
 hd:1<=d
 h6:d<=6
 ok:∀q∈po,okP R q
theorem lP.r{po:List dG}{d:Nat}(h:lP po d):rM po d 1:=⟨h.hl,h.hd,h.h6,h.ok⟩
section
variable {po:List dG} {d R:Nat} (h:rM po d R) {x y:Rat} (yP:0<=x) (zi:x<1) (mq:0<=y) (pZ:y<=1)
include h
include zi
include yP mq pZ
end
def aH(d:Nat)(a b:Rat):List Rat:=aJ (d+1) a++aJ (d+1) b
theorem nm(d:Nat)(a b:Rat):(aH d a b).length=2*(d+1):=by simp[aH];omega
theorem fX(d:Nat)(a b:Rat)(i:Nat)(h:i<2*(d+1)):(aH d a b).getD i 0=if i<d+1 then a else b:=by
 unfold aH;split
 ·rw[gD1 bm,yC aa]
 rw[gD2 bm,zl,yC aa]
theorem vm(d:Nat)(a b:Rat):(aH d a b).getD 0 0=a:=by rw[fX _ _ _ _ aa,if_pos aa]
theorem xp(d:Nat)(a b:Rat):(aH d a b).getD (2*(d+1)-1) 0=b:=by rw[fX _ _ _ _ aa,if_neg aa]
theorem y6{d:Nat}{a b:Rat}{R:Nat}(ha:rl a<=R)(hb:rl b<=R):∀x∈aH d a b,rl x<=R:=fun x hx=>by
 rcases p7.1 hx with g|g
 ·rw[(xT.1 g).2];exact ha
 rw[(xT.1 g).2];exact hb
theorem aAL{a b:Rat}(h:a<b):bU a b=a:=by unfold bU;rw[if_neg dR]
theorem awJ{a b:Rat}(h:a<b):bV a b=b:=by unfold bV;rw[if_pos h]
theorem aA1(d sz:Nat)(x z:LV)(Z:Nat->Prop)(μ:Nat->Option Nat)(w:World)(cs:List Value)(h:ao Z μ w (.agg [x,.v (.slice none 0 0),z]) cs):ao Z μ w (.agg [x,.ref d sz 0 0,z]) cs:=by
 simp only[ao,a8]at h ⊢;obtain⟨c1,c2,e1,e2,e3,c3,c4,e4,e5,e6,c5,c6,e7,e8,e9,e10⟩:=h;exact⟨c1,c2,e1,e2,e3,c3,c4,e4,e5,.inl ⟨e6.1,trivial⟩,c5,c6,e7,e8,e9,e10⟩
open oz in
theorem aqB(q:dG)(R:Nat)(hR:R<=1000000)(h:okP R q):ar ae 221 [dj q] (.agg [ab (q.w*q.p.x),ab (q.w*q.p.y),ab (q.w*q.p.z),ab q.w]):=by
 obtain⟨⟨a1,a2,a3⟩,a4,_⟩:=h;have hA:=gY q.w 0 (by have:rl 0=1:=rfl;omega);rw[sL]at hA;refine aE Tryz.func221 (ht:=(fun g=>LV.dF g _ pu)) ?_;refine iQ ?_;refine eW ?_;refine bC (fo q.w q.p.x aa) ?_;refine aV ?_;refine bX (av.kill _ 5) ?_;refine ay ?_;refine eW ?_;refine bC (fo q.w q.p.y aa) ?_;refine aV ?_;refine bX (av.kill _ 5) ?_;refine ay ?_;refine eW ?_;refine bC (fo q.w q.p.z aa) ?_;refine aV ?_;refine bX (av.kill _ 5) ?_;refine ay ?_;refine oP ?_;refine bx ?_;refine ai rfl (.aaq xI jB) ?_;refine cp aK (hA) ?_;refine cg ?_;exact iV [] rfl rfl rfl cs (fq cs rfl) sA (.pure pu)
namespace aqe
theorem aD{p q:Prop}(k:q)(e:p=q:=by simp only[bc,aZ,aW,aS,ao0,aoF,alr,aqE,arc,anF,aqI,aoU,jW,dO,ff,eF,List.map_nil,gE,eX,cw,cd,cy,reduceIte,if_true,if_false,cS,LV.kill,a9];exact rfl):p:=e.mpr k
end aqe
open aqe in
theorem avb(d:Nat)(kn:List Rat)(po:List dG)(R:Nat)(hR:R<=1000000)(h:rM po d R):ar ae 226 [.agg [ak d,.list 3 (kn.map ab),.list 12 (po.map dj)]] (.agg [.list 3 ((cR po 0).map ab),.list 3 ((cR po 1).map ab),.list 3 ((cR po 2).map ab),.list 3 ((ef po).map ab)]):=by
 have hl:=h.hl;have hd:=h.hd;have h6:=h.h6;have gh:LV.pure (.agg [ak d,.list 3 (kn.map ab),.list 12 (po.map dj)])=true:=pc;have fw:=sb po 0;have oQ:=sb po 1;have me:=sb po 2;have yq:=uV po;refine aE Tryz.func226 (ht:=(fun g=>LV.dF g _ (by simp[LV.pure,aN,bS al]))) ?_;have ao0:True:=trivial;have aoF:True:=trivial;have alr:True:=trivial;have aqE:True:=trivial;have arc:True:=trivial;have anF:True:=trivial;have aqI:True:=trivial;have aoU:True:=trivial;refine w9 ?_;refine kD (((av.kill _ 1).trans (av.cell 3 rfl (fun Z μ w cs h=>ax4 1001 1002 1003 1004 3 Z μ w cs h))).trans ((av.tV _ 1001 3 rfl).trans ((av.tV _ 1002 3 rfl).trans ((av.tV _ 1003 3 rfl).trans (av.tV _ 1004 3 rfl))))) ?_;refine da (fun(j:Nat) L=>(mS L [(2,⟨4,[.agg [.v (.slice none 0 0),.v (.slice none 0 0),.v (.slice none 0 0),.v (.slice none 0 0)]],true⟩),(3,⟨4,[.agg [.ref 1001 3 0 j,.ref 1002 3 0 j,.ref 1003 3 0 j,.ref 1004 3 0 j]],true⟩),(1001,⟨3,((cR po 0).take j).map ab,true⟩),(1002,⟨3,((cR po 1).take j).map ab,true⟩),(1003,⟨3,((cR po 2).take j).map ab,true⟩),(1004,⟨3,((ef po).take j).map ab,true⟩)] [(11,ak j),(10,ak po.length),(9,.list 12 (po.map dj)),(3,.ax 3 4 0 0),(2,.ax 2 4 0 0)])) (fun j=>j<=po.length) (fun j=>po.length-j) 0 (bJ _) ?_;rintro j L1 hj;refine aA ?_
 refine au rfl ?_ ?_<;>intro abv wT
 ·have fA:j<po.length:=aa;have jg:=h.ok _ (afD fA);have arc:(cR po 0).take j++[(po.getD j default).w*(po.getD j default).p.x]=(cR po 0).take (j+1):=x7 (fun q:dG=>q.w*q.p.at 0) po fA;have anF:(cR po 1).take j++[(po.getD j default).w*(po.getD j default).p.y]=(cR po 1).take (j+1):=x7 (fun q:dG=>q.w*q.p.at 1) po fA;have aqI:(cR po 2).take j++[(po.getD j default).w*(po.getD j default).p.z]=(cR po 2).take (j+1):=x7 (fun q:dG=>q.w*q.p.at 2) po fA;have aoU:(ef po).take j++[(po.getD j default).w]=(ef po).take (j+1):=x7 (fun q:dG=>q.w) po fA;have ao0:(((cR po 0).take j).map ab).take j=((cR po 0).take j).map ab:=cW vc;have aoF:(((cR po 1).take j).map ab).take j=((cR po 1).take j).map ab:=cW vc;have alr:(((cR po 2).take j).map ab).take j=((cR po 2).take j).map ab:=cW vc;have aqE:(((ef po).take j).map ab).take j=((ef po).take j).map ab:=cW vc;refine cO (aqB (po.getD j default) R hR jg) ?_;refine ay ?_;refine eW ?_;refine dk ?_;refine ss 6 [0] bj ?_;refine aA ?_
  refine dH rfl (.iJ (d:=1001) (news:=[ab ((po.getD j default).w*(po.getD j default).p.x)]) rfl rfl rfl rfl bm (.inl rfl) an qC qC jB bZ rfl mG (.inl ⟨26,0,_,rfl,by decide,rfl,rfl,by simp,rfl,by simp[aN,al.pure]⟩) bm bm an) ?_;refine aV ?_;refine bX ((av.kill _ 7).trans (av.kill _ 26)) ?_;refine ay ?_;refine eW ?_;refine dk ?_;refine ss 6 [0] bj ?_;refine aA ?_;refine dH rfl (.iJ (d:=1002) (news:=[ab ((po.getD j default).w*(po.getD j default).p.y)]) rfl rfl rfl rfl bm (.inl rfl) an qC qC jB bZ rfl mG (.inl ⟨26,0,_,rfl,by decide,rfl,rfl,by simp,rfl,by simp[aN,al.pure]⟩) bm bm an) ?_;refine aV ?_;refine bX ((av.kill _ 7).trans (av.kill _ 26)) ?_;refine ay ?_;refine eW ?_;refine dk ?_;refine ss 6 [0] bj ?_;refine aA ?_;refine dH rfl (.iJ (d:=1003) (news:=[ab ((po.getD j default).w*(po.getD j default).p.z)]) rfl rfl rfl rfl bm (.inl rfl) an qC qC jB bZ rfl mG (.inl ⟨26,0,_,rfl,by decide,rfl,rfl,by simp,rfl,by simp[aN,al.pure]⟩) bm bm an) ?_;refine aV ?_;refine bX ((av.kill _ 7).trans (av.kill _ 26)) ?_;refine ay ?_;refine jR ?_
  refine aA ?_;refine pY (b:=_) rfl an ?_;refine dk ?_;refine ss 6 [0] bj ?_;refine aA ?_;refine dH rfl (.iJ (d:=1004) (news:=[ab ((po.getD j default).w)]) rfl rfl rfl rfl bm (.inl rfl) an qC qC jB bZ rfl mG (.inl ⟨26,0,_,rfl,by decide,rfl,rfl,by simp,rfl,by simp[aN,al.pure]⟩) bm bm an) ?_;refine aV ?_;refine bX ((av.kill _ 7).trans (av.kill _ 26)) ?_;refine ay ?_;refine oP ?_;refine aA ?_;refine bX (av.kill _ 5) ?_;refine c9 ?_;exact pR
 obtain rfl:j=po.length:=aa;have hE0:(cR po 0).take po.length=(cR po 0):=cW aa;have hE1:(cR po 1).take po.length=(cR po 1):=cW aa;have hE2:(cR po 2).take po.length=(cR po 2):=cW aa;have hE3:(ef po).take po.length=(ef po):=cW aa;refine bp ?_;simp only[hE0,hE1,hE2,hE3];exact iV [1001,1002,1003,1004] rfl rfl rfl cs (fq cs rfl) aqO (.agg (.cons (eM al rfl rfl fw.symm) (.cons (eM al rfl rfl oQ.symm) (.cons (eM al rfl rfl me.symm) (.cons (eM al rfl rfl yq.symm) .nil)))))
namespace aml
theorem aD{p q:Prop}(k:q)(e:p=q:=by simp only[bc,aZ,aW,aS,dc,eY,bD,fg,bF,cw,cd,cy,reduceIte,if_true,if_false,cS,LV.kill,a9];exact rfl):p:=e.mpr k
end aml
open aml in
theorem at2(d:Nat)(a b:Rat)(po:List dG)(ha:rl a<=100)(hb:rl b<=100)(dt:a<b)(h9:d<=6):ar ae 136 [.agg [ak d,.list 3 ((aH d a b).map ab),.list 12 (po.map dj)]] (cP (a,b)):=by
 have eY:=nm d a b;have bD:=vm d a b;have fg:=xp d a b;have gh:LV.pure (.agg [ak d,.list 3 ((aH d a b).map ab),.list 12 (po.map dj)])=true:=pc;have hS:=agA a b aa;rw[aAL dt,awJ dt]at hS;refine aE Tryz.func136 ?_;refine gA ?_;refine au rfl ?_ ?_<;>intro h6r h6
 ·omega
 refine dk ?_;refine kz ?_;refine aR ?_
 try simp only[t1,dc,eY,bD,fg,bF]
 refine cp aK (hS) ?_;refine ay ?_;exact iV [] rfl rfl rfl (cB.aj _) (acN _) zx (.pure (cB.pure _))
namespace aiM
theorem aD{p q:Prop}(k:q)(e:p=q:=by simp only[bc,aZ,aW,aS,ij,cw,cd,cy,reduceIte,if_true,if_false,cS,LV.kill,a9];exact rfl):p:=e.mpr k
end aiM
open aiM in
theorem amf(n0 n1 n2 w:Rat)(R:Nat)(hR:R<=1000000000)(h0:rl n0<=R)(h1:rl n1<=R)(h2:rl n2<=R)(hw:rl w<=R)(lW:0<w):ar ae 125 [.agg [ab n0,ab n1,ab n2,ab w]] (dj ⟨⟨n0/w,n1/w,n2/w⟩,w⟩):=by
 have hA:=gY w 0 (by have:rl 0=1:=rfl;omega);rw[sL]at hA;have aG:w≠0:=dR;have hQ0:ar ae 223 [ab n0,ab w] (.aQ [ab (n0/w),iL 0]):=by
  have:=ze n0 w aa;rwa[if_neg aG]at this
 have hQ1:ar ae 223 [ab n1,ab w] (.aQ [ab (n1/w),iL 0]):=by
  have:=ze n1 w aa;rwa[if_neg aG]at this
 have hQ2:ar ae 223 [ab n2,ab w] (.aQ [ab (n2/w),iL 0]):=by
  have:=ze n2 w aa;rwa[if_neg aG]at this
 refine aE Tryz.func125 (ht:=(fun g=>LV.dF g _ (iA.pure _))) ?_;refine bu ?_
 try simp only[ij]
 refine aR ?_;refine ai rfl (.aaq xI jB) ?_;refine cp aK (hA) ?_;refine vd (bdW rfl) ?_;refine cg ?_;refine eW ?_;refine cb ?_;refine ss 12 [9] bj ?_;refine bC (hQ0) ?_;refine dx ?_;refine eW ?_;refine cb ?_;refine ss 12 [9] bj ?_;refine bC (hQ1) ?_;refine dx ?_;refine eW ?_;refine cb ?_;refine ss 12 [9] bj ?_;refine bC (hQ2) ?_;refine dx ?_;refine oP ?_;refine bp ?_;exact iV [] rfl rfl rfl cs (fq cs rfl) vG (.pure pu)
theorem aw3{p q:List Rat}{R:Nat}(h:p.length-1+(q.length-1)<=40)(ix:p.length<=41)(hJ:q.length<=41)(gy:1<=R)(yA:∀x∈p,rl x<=R)(xM:∀x∈q,rl x<=R):∀x∈oa p q,rl x<=p.length*(q.length*(2*R+5))+5:=fun x hx=>by
 obtain⟨k,hk,rfl⟩:=fB.1 hx;have hS:=agb ix hJ gy yA xM p.length;have pk:=kg aa hS k;have hg2:=kg (S:=2) an (abN (n:=p.length-1+(q.length-1)) h) k;have h3:=ab9 ((allM p q p.length).getD k 0) ((iX (p.length-1+(q.length-1))).getD k 0);omega
theorem aly{p q:List Rat}{R a b:Nat}(ha:p.length=a)(hb:q.length=b)(h1:a*b<=30)(h2:a<=6)(h3:b<=6)(gy:1<=R)(yA:∀x∈p,rl x<=R)(xM:∀x∈q,rl x<=R):∀x∈oa p q,rl x<=60*R+155:=fun x hx=>by
 have h:=aw3 aa aa aa gy yA xM x hx;rw[ha,hb,<-dZ]at h;have:a*b*(2*R+5)<=30*(2*R+5):=dT _ h1;omega
structure sY (po:List dG) (d R:Nat):Prop where
 c:rM po d R
 d5:d<=5
 R1:1<=R
 R2:R<=1000
section
variable {po:List dG} {d R:Nat} (h:sY po d R)
include h
theorem sY.n(k:Nat):(cR po k).length=d+1/\∀x∈cR po k,rl x<=2*R:=⟨by rw[sb,h.c.hl],agd h.c.ok k⟩
theorem sY.w:(ef po).length=d+1/\∀x∈ef po,rl x<=R:=⟨by rw[uV,h.c.hl],afU h.c.ok⟩
theorem sY.dn(k:Nat):(iE (cR po k)).length=d/\∀x∈iE (cR po k),rl x<=4*R+4:=by
 obtain⟨h1,h2⟩:=h.n k;have:=h.c.hd;have:=h.d5;have:=h.R1;exact⟨by rw[aaX,h1,if_neg aa];omega,fun x hx=>bW (adh aa aa h2 x hx) aa⟩
theorem sY.dw:(iE (ef po)).length=d/\∀x∈iE (ef po),rl x<=4*R+4:=by
 obtain⟨h1,h2⟩:=h.w;have:=h.c.hd;have:=h.d5;exact⟨by rw[aaX,h1,if_neg aa];omega,fun x hx=>bW (adh h.R1 aa h2 x hx) aa⟩
theorem sY.dd:d*(d+1)<=30:=bW (rF h.d5 (show d+1<=6 by have:=h.d5;omega)) an
theorem sY.m1(k:Nat):(oa (iE (cR po k)) (ef po)).length=2*d-1+1/\∀x∈oa (iE (cR po k)) (ef po),rl x<=240*R+395:=by
 obtain⟨h1,h2⟩:=h.dn k;obtain⟨h3,h4⟩:=h.w;have:=h.c.hd;have:=h.d5;have h9:=h.dd;exact⟨by rw[adz,h1,h3];omega,fun x hx=>bW (aly h1 h3 h9 aa aa aa h2 (fun x hx=>bW (h4 x hx) aa) x hx) aa⟩
theorem sY.m2(k:Nat):(oa (cR po k) (iE (ef po))).length=2*d-1+1/\∀x∈oa (cR po k) (iE (ef po)),rl x<=240*R+395:=by
 obtain⟨h1,h2⟩:=h.n k;obtain⟨h3,h4⟩:=h.dw;have:=h.c.hd;have:=h.d5;have h9:=h.dd;exact⟨by rw[adz,h1,h3];omega,fun x hx=>bW (aly h1 h3 (by rw[er];exact h9) aa aa aa (fun x hx=>bW (h2 x hx) aa) h4 x hx) aa⟩
theorem sY.t(k:Nat):(yK po k).length=2*d-1+1/\∀x∈yK po k,rl x<=480*R+791:=by
 obtain⟨h1,h2⟩:=h.m1 k;obtain⟨_,h4⟩:=h.m2 k;exact⟨by rw[yK,wD,h1],fun x hx=>bW (alV kW aa h2 h4 x hx) aa⟩
theorem sY.lo:0<(axk (ef po)).1:=by
 have hl:=uV po;have h0:0<(ef po).length:=by rw[hl,h.c.hl];omega
 obtain⟨i,hi,e⟩:=((ajb (ef po) (ef po).length).2 h0).1;show 0<(sJ (ef po) (ef po).length).1;rw[e];obtain⟨q,hq,hw⟩:=fB.1 (df (p:=ef po) hi);rw[<-hw];exact(h.c.ok q hq).2.2
end
def ksB(l:List Int)(d:Nat)(k:List Rat)(t:Rat)(j:Nat):Prop:=k.length=d+1\/0<iO l j 3\/t=k.getD (k.length-d) 0
instance (l:List Int) (d:Nat) (k:List Rat) (t:Rat) (j:Nat):Decidable (ksB l d k t j):=by unfold ksB;infer_instance
abbrev Sp:=Rat×Rat
abbrev iH:=List Sp×Nat×List Int
abbrev yi:=List Sp×List Sp×Nat×Nat
def mdS(s:Sp):Rat:=(s.1+s.2)/2
def loS(s:Sp):Sp:=(s.1,mdS s)
def hiS(s:Sp):Sp:=(mdS s,s.2)
def aiw(t:List Int):Nat->Nat
 |0=>0
 |k+1=>if t.getD k 0<t.getD (aiw t k) 0 then k else aiw t k
def xb(x:iH):Nat:=aiw x.2.2 x.2.2.length
def abQ(x:iH)(s:Sp):iH:=(x.1.set (xb x) s,x.2.1+1,x.2.2.set (xb x) (x.2.2.getD (xb x) 0+1))
def loB(x:iH):iH:=abQ x (loS (x.1.getD (xb x) default))
def hiB(x:iH):iH:=abQ x (hiS (x.1.getD (xb x) default))
def avK(l:List Sp)(w:Rat):Bool:=l.any fun s=>decide (w<s.2-s.1)
abbrev vM:=List Sp->List Sp->Bool×Nat×Nat
abbrev RunT:=List iH×Nat×List yi
def ae9(v:Bool×Nat×Nat):Nat:=if v.2.1=0 then 1 else v.2.1
def kV(v:Bool×Nat×Nat):Nat:=if v.2.1=0 then 0 else v.2.2
def anR(na:Nat)(x:iH)(v:Bool×Nat×Nat):yi:=(x.1.take na,x.1.drop na,ae9 v,kV v)
def afS(D:Nat)(wd:Rat)(x:iH)(v:Bool×Nat×Nat):Bool :=
 (decide (ae9 v=3\/ae9 v=4)&&(decide (wd=0)||!avK x.1 wd))||decide (D<=x.2.1)
def aa0(D W na:Nat)(wd:Rat)(lk:vM):RunT->RunT
 |([],n,cs)=>([],n,cs)
 |(x::st,n,cs) =>
  if W<=n then(st,n,cs++[anR na x (false,0,0)])
  else if (lk (x.1.take na) (x.1.drop na)).1 then(st,n+1,cs)
  else if afS D wd x (lk (x.1.take na) (x.1.drop na))then(st,n+1,cs++[anR na x (lk (x.1.take na) (x.1.drop na))])
  else(loB x::hiB x::st,n+1,cs)
def adZ(D W na:Nat)(wd:Rat)(lk:vM):Nat->RunT->RunT
 |0,s=>s
 |k+1,s=>adZ D W na wd lk k (aa0 D W na wd lk s)
def rY(D:Nat)(x:iH):Nat:=2*2^(D-x.2.1)-1
def lR(D:Nat)(st:List iH):Nat:=(st.map (rY D)).sum
theorem anz(D:Nat)(x:iH):1<=rY D x:=by
 unfold rY;have:=agX (n:=D-x.2.1);omega
theorem aye{D:Nat}{x:iH}{s s':Sp}(h:x.2.1<D):rY D (abQ x s)+rY D (abQ x s')<rY D x:=by
 simp only[rY,abQ];have h1:=agX (n:=D-(x.2.1+1));have h2:2^(D-x.2.1)=2*2^(D-(x.2.1+1)):=by
  rw[show D-x.2.1=(D-(x.2.1+1))+1 by omega,gx,er]
 omega
theorem aAo{D:Nat}{wd:Rat}{x:iH}{v:Bool×Nat×Nat}(h:afS D wd x v=false):x.2.1<D:=by
 unfold afS at h;simp only[Bool.or_eq_false_iff,decide_eq_false_iff_not]at h;omega
theorem awK{D W na:Nat}{wd:Rat}{lk:vM}{x:iH}{st:List iH}{n:Nat}{cs:List yi}:lR D (aa0 D W na wd lk (x::st,n,cs)).1<lR D (x::st):=by
 have hw:=anz D x;have hmu:lR D (x::st)=rY D x+lR D st:=by simp[lR]
 rw[aa0];split
 ·show lR D st<_;omega
 split
 ·show lR D st<_;omega
 split
 ·show lR D st<_;omega
 rename_i h;have hd:=aAo ga;have:=aye (x:=x) (s:=loS (x.1.getD (xb x) default)) (s':=hiS (x.1.getD (xb x) default)) hd;have e:lR D (loB x::hiB x::st)=rY D (loB x)+(rY D (hiB x)+lR D st):=by simp[lR]
 show lR D (loB x::hiB x::st)<_;rw[e,hmu];unfold loB hiB;omega
theorem an6{D W na:Nat}{wd:Rat}{lk:vM}{n:Nat}{cs:List yi}:∀k,adZ D W na wd lk k ([],n,cs)=([],n,cs)
 |0=>rfl
 |k+1=>by rw[adZ,aa0,an6 k]
def ab4(D W na:Nat)(wd:Rat)(lk:vM)(s R:RunT):Prop:=∃k,lR D s.1<=k/\adZ D W na wd lk k s=R
theorem ab4.step{D W na:Nat}{wd:Rat}{lk:vM}{x:iH}{st:List iH}{n:Nat}{cs:List yi}{R:RunT}(h:ab4 D W na wd lk (x::st,n,cs) R):
  ab4 D W na wd lk (aa0 D W na wd lk (x::st,n,cs)) R:=by
 obtain⟨k,h1,h2⟩:=h;have hmu:lR D (x::st)=rY D x+lR D st:=by simp[lR]
 have hw:=anz D x
 match k,h1,h2 with
 |0,h1,_=>exact absurd (show lR D (x::st)<=0 from h1) aa
 |k+1,h1,h2 =>
  have:=awK (D:=D) (W:=W) (na:=na) (wd:=wd) (lk:=lk) (x:=x) (st:=st) (n:=n) (cs:=cs);exact⟨k,by have:lR D (x::st)<=k+1:=h1;omega,h2⟩
theorem ab4.nil{D W na:Nat}{wd:Rat}{lk:vM}{n:Nat}{cs:List yi}{R:RunT}(h:ab4 D W na wd lk ([],n,cs) R):R=([],n,cs):=by
 obtain⟨k,_,h2⟩:=h;rw[an6]at h2;exact h2.symm
def crV(u v:V3):Rat:=u.x*v.y-u.y*v.x
section
variable {u v:V3} (h:crV u v≠0)
include h
end
def nX(n:Nat)(q:Rat):Prop:=∃z:Int,q=(z:Rat)/((2^n:Nat):Int)
theorem two_pos(n:Nat):(0:Rat)<((2^n:Nat):Int):=by
 have:=agX (n:=n);exact Rat.intCast_pos.2 aa
theorem arK(n:Nat):(((2^(n+1):Nat):Int):Rat)=((2^n:Nat):Int)*2:=by
 rw[gx];push_cast;rfl
theorem nX.mul{n:Nat}{q:Rat}(h:nX n q):∃z:Int,q*((2^n:Nat):Int)=z:=by
 obtain⟨z,rfl⟩:=h;exact⟨z,Rat.div_mul_cancel (by have:=two_pos n;grind)⟩
theorem nX.of{n:Nat}{q:Rat}{z:Int}(h:q*((2^n:Nat):Int)=z):nX n q:=⟨z,by
 have:=two_pos n;rw[<-h,akp dR]⟩
theorem nX.succ{n:Nat}{q:Rat}(h:nX n q):nX (n+1) q:=by
 obtain⟨z,e⟩:=h.mul;refine nX.of (z:=z*2) ?_;rw[arK,<-aom,e];push_cast;rfl
theorem nX.le{n m:Nat}{q:Rat}(h:nX n q)(hm:n<=m):nX m q:=by
 induction m with
 |zero =>
      obtain rfl:n=0:=aa;exact h
 |succ m ih =>
  rcases fH n (m+1)with g|g
  ·exact(ih aa).succ
  obtain rfl:n=m+1:=aa;exact h
theorem nX.rl{n:Nat}{q:Rat}(h:nX n q)(hn:n<=24)(h1:-64<=q)(h2:q<=64):Go.Lg.rl q<=1:=by
 obtain⟨z,e⟩:=h.mul;have hp:=two_pos n;have sH:2^n<=2^24:=Nat.pow_le_pow_right an hn;have hz1:z<=64*((2^n:Nat):Int):=by
  have:(z:Rat)<=((64*((2^n:Nat):Int):Int):Rat):=by
   rw[<-e];rw[alA];exact aiZ h2 (anY hp)
  exact amh.1 this
 have hz2:-64*((2^n:Nat):Int)<=z:=by
  have:((-64*((2^n:Nat):Int):Int):Rat)<=(z:Rat):=by
   rw[<-e];rw[alA];exact aiZ h1 (anY hp)
  exact amh.1 this
 have:q=(z:Rat)/((2^n:Nat):Int):=by rw[<-e,akp dR]
 rw[this];exact zY aa aa
section
variable {a u p v:V3}
end
def acx(x:iH):LV:=.agg [.list 6 (x.1.map cP),ak x.2.1,.list 1 (x.2.2.map jx)]
theorem ave(x:iH):(acx x).pure=true:=by simp[acx,LV.pure,aN,bS cB,bS m8]
theorem axS(x:iH):(acx x).aj=3:=rfl
theorem aqn:fe acx 3 true:=⟨axS,fun _=>rfl,ave⟩
def yo(n:Nat)(s:Sp):Prop:=nX n s.1/\nX n s.2/\0<=s.1/\s.1<s.2/\s.2<=1
def iI(D:Nat)(x:iH):Prop:=∃(s t:Sp) (i j:Int),x.1=[s,t]/\x.2.2=[i,j]/\(0<=i/\i<=x.2.1/\0<=j/\j<=x.2.1)/\x.2.1<=D/\yo x.2.1 s/\yo x.2.1 t
theorem yo.succ{n:Nat}{s:Sp}(h:yo n s):yo (n+1) s:=⟨h.1.succ,h.2.1.succ,h.2.2⟩
theorem yo.rl{n:Nat}{s:Sp}(h:yo n s)(hn:n<=24):Go.Lg.rl s.1<=1/\Go.Lg.rl s.2<=1:=by
 obtain⟨h1,h2,h3,h4,h5⟩:=h;exact⟨h1.rl hn dR dR,h2.rl hn dR dR⟩
theorem axa{P:Program}{L:St}{a:Nat}{T:TypeId}{b sz t:Nat}{x y x' y':LV}{m:Bool}{n:Nat}{ag:Bool}{blk:aL}(h:L.slot a=.ax b sz 0 0)(hb:L.heap b=some ⟨sz,[x],m⟩)
  (hx:x.aj=sz) (ru:x.at 0 n ag=some x) (hT:aX P T n ag) (hi:qo L.heap 0 x y) (h':L.slot t=x') (pd:qo L.heap 0 x' y') (fp:L.heap 0=some blk) (hm:blk.mt=true) (hp:aN blk.vals=true):qX P [.cell a T,.tmp t] L (.aQ [y,y']) blk :=
 ⟨[x,x'],[y,y'],L.heap,.cons ⟨b,sz,0,0,_,x,n,ag,h,hb,rfl,rfl,hx,ru,hT⟩ (.cons h' .nil),bn.le_refl _,.cons hi (.cons pd .nil),fp,hm,hp,rfl⟩
def mJ(f:Rat)(v:List Rat)(j:Nat):List Rat:=(eH v.length).map fun i=>if j<i then v.getD (i-1) 0+f*(v.getD i 0-v.getD (i-1) 0)else v.getD i 0
theorem rm(f:Rat)(v:List Rat)(j:Nat):(mJ f v j).length=v.length:=by simp[mJ]
theorem wu(f:Rat)(v:List Rat)(j i:Nat)(h:i<v.length):(mJ f v j).getD i 0=if j<i then v.getD (i-1) 0+f*(v.getD i 0-v.getD (i-1) 0)else v.getD i 0:=by
 unfold mJ;rw[bf,iT,List.getElem?_range h];rfl
theorem adU{p q:List Rat}(h:p.length=q.length)(hg:∀i,i<p.length->p.getD i 0=q.getD i 0):p=q:=by
 refine List.ext_getElem h fun i h1 h2=>?_;have:=hg i h1;rwa[bf,bf,bO h1,bO h2]at this
theorem auF(f:Rat)(v:List Rat)(j:Nat)(h:v.length<=j+1):mJ f v j=v :=
 adU (rm f v j) fun i hi=>by
  rw[rm]at hi;rw[wu f v j i hi,if_neg aa]
theorem auR(f:Rat)(v:List Rat)(j:Nat)(h0:0<j)(h:j<v.length):(mJ f v j).set j (v.getD (j-1) 0+f*(v.getD j 0-v.getD (j-1) 0))=mJ f v (j-1) :=
 adU (by rw[afP,rm,rm]) fun i hi=>by
  rw[afP,rm]at hi;rw[wu f v (j-1) i hi,bf,List.getElem?_set];by_cases e:j=i
  ·subst e;rw[if_pos rfl,if_pos (by rw[rm];exact h),if_pos aa];rfl
  rw[if_neg e,<-bf,wu f v j i hi];by_cases g:j<i
  ·rw[if_pos g,if_pos aa]
  rw[if_neg g,if_neg aa]
def fc(F:Rat->Rat)(args v:List Rat):Nat->List Rat
 |0=>v
 |r+1=>mJ (F (args.getD r 0)) (fc F args v r) r
theorem adN(F:Rat->Rat)(args v:List Rat):∀r,(fc F args v r).length=v.length
 |0=>rfl
 |r+1=>by rw[fc,rm,adN F args v r]
theorem ayh{f:Rat}{v:List Rat}{Q R:Nat}(hf:rl f<=Q)(hR:1<=R)(hv:∀x∈v,rl x<=R)(j:Nat):∀x∈mJ f v j,rl x<=3*R+Q+2:=fun x hx=>by
 obtain⟨i,hi,rfl⟩:=abD hx;rw[rm]at hi;rw[wu f v j i hi];have a:=kg hR hv i;have b:=kg hR hv (i-1);split
 ·have h1:=kW (v.getD i 0) (v.getD (i-1) 0);have h2:=du f (v.getD i 0-v.getD (i-1) 0);have h3:=ks (v.getD (i-1) 0) (f*(v.getD i 0-v.getD (i-1) 0));omega
 omega
def uD(Q R:Nat):Nat->Nat
 |0=>R
 |r+1=>3*uD Q R r+Q+2
theorem amG{Q R:Nat}(hR:1<=R):∀r,1<=uD Q R r
 |0=>hR
 |r+1=>by have:=amG (Q:=Q) hR r;unfold uD;omega
theorem aol{Q R:Nat}(hR:1<=R):∀{r s},r<=s->uD Q R r<=uD Q R s
 |r,0,h=>by
         obtain rfl:r=0:=aa;exact bA _
 |r,s+1,h=>by
  rcases fH s r with g|g
  ·obtain rfl:r=s+1:=aa;exact bA _
  have:=aol (Q:=Q) hR (r:=r) (s:=s) g;show _<=3*uD Q R s+Q+2;omega
theorem am8{F:Rat->Rat}{args v:List Rat}{Q R:Nat}(hQ:∀t∈args,rl (F t)<=Q)(hR:1<=R)(hv:∀x∈v,rl x<=R):∀r,r<=args.length->∀x∈fc F args v r,rl x<=uD Q R r
 |0,_=>hv
 |r+1,h=>ayh (hQ _ (df (show r<args.length by omega))) (amG hR r) (am8 hQ hR hv r aa) r
def pO(d:Nat)(a b:Rat)(v args:List Rat):Rat:=(fc (fun t=>(t-a)/(b-a)) args v d).getD d 0
theorem au5(v:List Rat)(j i:Nat)(h:i<v.length)(hj:j<i):(mJ 0 v j).getD i 0=v.getD (i-1) 0:=by
 rw[wu _ _ _ _ h,if_pos hj];grind
theorem axc(v:List Rat)(j:Nat):mJ 1 v j=v:=adU (rm _ _ _) fun i hi=>by
 rw[rm]at hi;rw[wu _ _ _ _ hi];split<;>grind
theorem aiK{a b:Rat}{args v:List Rat}(n:Nat)(hA:∀r,r<n->args.getD r 0=a):∀r,r<=n->∀i,i<v.length->r<=i->(fc (fun t=>(t-a)/(b-a)) args v r).getD i 0=v.getD (i-r) 0
 |0,_,i,_,_=>rfl
 |r+1,h,i,hi,hr=>by
  have ih:=aiK (b:=b) (v:=v) n hA r aa (i-1) aa aa;rw[fc,hA r aa,show (a-a)/(b-a)=0 by rw[Rat.sub_self,tu,Rat.zero_mul],au5 _ _ _ (by rw[adN];exact hi) aa,ih];congr 1;omega
theorem aj2{a b:Rat}(dt:a≠b){args v:List Rat}(n:Nat)(hB:∀r,n<=r->r<args.length->args.getD r 0=b):∀k,n+k<=args.length->fc (fun t=>(t-a)/(b-a)) args v (n+k)=fc (fun t=>(t-a)/(b-a)) args v n
 |0,_=>rfl
 |k+1,h=>by
  have ih:=aj2 dt (v:=v) n hB k aa;rw[<-od,fc,hB (n+k) aa aa,show (b-a)/(b-a)=1 by rw[tu];exact aqC _ dR,axc,ih]
theorem aA4{d j:Nat}{a b:Rat}(hj:j<=d):((aH d a b).drop (j+1)).take d=aJ (d-j) a++aJ j b:=by
 have hl:(((aH d a b).drop (j+1)).take d).length=d:=by rw[eE,oe,nm];omega
 refine adU (by rw[hl,kH,zl,zl];omega) fun i hi=>?_;rw[hl]at hi;rw[bf,ajL hi,wv,<-bf,fX _ _ _ _ aa];by_cases g:i<d-j
 ·rw[if_pos aa,gD1 (by simpa using g),yC g]
 rw[if_neg aa,gD2 bm,zl,yC aa]
theorem adL{d j:Nat}{a b:Rat}(dt:a<b){v:List Rat}(hv:v.length=d+1)(hj:j<=d):pO d a b v (((aH d a b).drop (j+1)).take d)=v.getD j 0:=by
 rw[aA4 hj,pO];have qH:(aJ (d-j) a++aJ j b).length=d:=bm;have h1:=aj2 (a:=a) (b:=b) dR (args:=aJ (d-j) a++aJ j b) (v:=v) (d-j) (fun r g1 g2=>by rw[qH]at g2;rw[gD2 (by simpa using g1),zl,yC aa]) j (by rw[qH];omega);rw[show d-j+j=d by omega]at h1;rw[h1,aiK (d-j) (fun r g=>by rw[gD1 (by simpa using g),yC g]) (d-j) (bA _) d aa aa];congr 1;omega
open ahK in
theorem ay5(p:List Rat)(hl:p.length<=1048576)(pe:∀x∈p,rl x<=274877906944):ke ae 265 [.list 3 (p.map ab)] (.ref 1 3 0 p.length) [⟨3,p.map ab,true⟩]:=by
 refine xe Tryz.func265 ?_;have kC:True:=trivial;have jH:True:=trivial;refine anl ?_;rintro k L1 hk;refine aA ?_;refine au rfl ?_ ?_<;>intro abv wT
 ·have eQ:k<p.length:=aa;have hrk:=pe _ (df eQ);have hA:=gY (p.getD k 0) 0 (by rw[show rl 0=1 from rfl];omega);rw[sL]at hA;have kC:=afV (l:=p) eQ;have jH:((p.take k).map ab).take k=(p.take k).map ab:=cW vc;refine gA ?_;refine ai rfl (.aaq xI jB) ?_;refine cp aK (hA) ?_;refine aT ?_;refine dH rfl anu ?_;refine ay ?_;refine bX ((av.kill _ 5).trans (av.kill _ 19)) ?_;refine c9 ?_;exact fj (k+1) aa
 obtain rfl:k=p.length:=aa;have hE:p.take p.length=p:=je;refine bp ?_;rw[hE];exact aaw rfl rfl (bS al _)
theorem atP(p:List Rat)(hl:p.length<=1048576)(pe:∀x∈p,rl x<=274877906944):ar ae 265 [.list 3 (p.map ab)] (.list 3 (p.map ab)):=ag8 (ay5 p hl pe) (bS al _) az
open oz in
theorem aoc(a b t:Rat)(h:rl a+rl b+rl t<=100000)(dt:a<b):ar ae 297 [ab a,ab b,ab t] (ab ((t-a)/(b-a))):=by
 have h1:=kW t a;have h2:=kW b a;have hQ:ar ae 223 [ab (t-a),ab (b-a)] (.aQ [ab ((t-a)/(b-a)),iL 0]):=by
  have:=ze (t-a) (b-a) aa;rwa[if_neg dR]at this
 refine aE Tryz.func297 ?_;refine bx ?_;refine ss 11 [9] bj ?_;refine bC (ot t a aa) ?_;refine bC (ot b a aa) ?_;refine cp aK (hQ) ?_;refine gA ?_;exact ju
namespace alZ
theorem aD{p q:Prop}(k:q)(e:p=q:=by simp only[bc,aZ,aW,aS,dc,eY,bF,cw,cd,cy,reduceIte,if_true,if_false,cS,LV.kill,a9];exact rfl):p:=e.mpr k
end alZ
open alZ in
theorem asc(d:Nat)(a b:Rat)(j:Nat)(dt:a<b)(ha:rl a<=100)(hb:rl b<=100)(h9:d<=6)(hj:j<=d):ar ae 313 [.list 3 ((aH d a b).map ab),ak j] (ak d):=by
 have eY:=nm d a b;have bD:=vm d a b;have fg:=xp d a b;refine aE Tryz.func313 ?_;refine aP ?_;refine da (fun(i:Nat) L=>(mS L [] [(1,ak i),(0,.list 3 ((aH d a b).map ab))])) (fun i=>i<=d) (fun i=>d-i) j hj ?_;rintro i L1 hi;have hA:i<d->¬ez ((aH d a b).getD i 0) ((aH d a b).getD (i+1) 0)<0:=fun g=>by
  rw[fX _ _ _ _ aa,fX _ _ _ _ aa,if_pos aa,if_pos aa];exact fun e=>by have:=ym.2 (show a<=a by grind);omega
 have hB:i=d->ez ((aH d a b).getD i 0) ((aH d a b).getD (i+1) 0)<0:=fun g=>by
  rw[fX _ _ _ _ aa,fX _ _ _ _ aa,if_pos aa,if_neg aa];exact aaO.2 dt
 have lF:=y6 (d:=d) ha hb;have tI:=lF _ (df (p:=aH d a b) (i:=i) aa);have xh:=lF _ (df (p:=aH d a b) (i:=i+1) aa);refine ay ?_;refine ai rfl nj ?_;refine ay ?_;refine ai r7 (.move _) ?_;refine ai r7 (.move _) ?_;refine ai r7 sa ?_;refine ai r7 mb ?_;refine ai r7 (.move _) ?_;refine ai r7 (.move _) ?_;refine ai r7 (.bin rfl rfl (aif aa)) ?_;refine ai r7 sa ?_;refine ai r7 mb ?_
 try simp only[t1,dc]
 refine cF r7 (.cons dv (.cons dv .nil)) (kL ((aH d a b).getD i 0) ((aH d a b).getD (i+1) 0) aa) ?_;refine ai r7 (.bin rfl rfl rfl) ?_;refine ai rfl (.uf rfl ((decide_eq_true abO))) ?_;refine aR ?_;refine au rfl ?_ ?_<;>intro acB h22
 ·have dS:i<d:=by
   rcases fH i d with g|g
   ·exact g
   have:=hB aa;omega
  refine aV ?_;refine ai rfl nj ?_;refine ay ?_;exact mW
 obtain rfl:i=d:=by
  rcases fH i d with g|g
  ·have:=hA g;omega
  omega
 refine bp ?_;exact dg
namespace aqo
theorem aD{p q:Prop}(k:q)(e:p=q:=by simp only[bc,aZ,aW,aS,eY,bD,fg,vr,aod,bF,dc,cw,cd,cy,reduceIte,if_true,if_false,cS,LV.kill,a9];exact rfl):p:=e.mpr k
end aqo
open aqo in
theorem ajl(d:Nat)(a b t:Rat)(hd:d<=6)(hT:rl a<=100)(hT1:rl b<=100)(ht:rl t<=1000)(h1:a<=t)(h2:t<b):ar ae 296 [.list 3 ((aH d a b).map ab),ak d,ab t] (.aQ [ak d,iL 0]):=by
 have eY:=nm d a b;have bD:=vm d a b;have fg:=xp d a b;have c1:¬ez t a<0:=fun e=>by have:=ym.2 h1;omega
 have c2:¬ez t b > 0:=fun e=>by have:=acf.1 e;grind
 have vr:((2*(d+1):Nat):Int).toNat-1=2*(d+1)-1:=aa;have aod:(((2*(d+1):Nat):Int)-1).toNat=2*(d+1)-1:=aa;have c3:ez t b<0:=aaO.2 h2;refine aE Tryz.func296 (ht:=(lf rfl rfl)) ?_;refine dx ?_;refine ai aam mb ?_;refine ai aam (.move _) ?_;refine ai aam sa ?_;refine ai aam mb ?_
 try simp only[t1,dc,bD]
 refine cF aam (.cons dv (.cons dv .nil)) (kL t a aa) ?_;refine ai aam (.bin rfl rfl rfl) ?_;refine ai rfl (.kO rfl ((beq_eq_false_iff_ne.2 aa))) ?_;refine aT ?_;refine ai tX mb ?_;refine ai tX (.move _) ?_;refine ai tX (.move _) ?_;refine ai tX ry ?_;refine ai tX (.bin rfl rfl (ahh aa aa)) ?_;refine ai tX sa ?_;refine ai tX mb ?_
 try simp only[t1,dc,eY,fg,aod]
 refine cF tX (.cons dv (.cons dv .nil)) (kL t b aa) ?_;refine ai tX (.bin rfl rfl rfl) ?_;refine ai rfl (.kO rfl ((decide_eq_false c1))) ?_;refine aR ?_;refine rX (b:=_) rfl (decide_eq_false c2) ?_;refine dx ?_;refine da (fun(i:Nat) L=>(mS L [(5,⟨3,[ab t],true⟩)] [(9,ak i),(8,ak 0),(5,.ax 5 3 0 0),(0,.list 3 ((aH d a b).map ab))])) (fun i=>i<=d) (fun i=>d-i) 0 (bJ _) ?_;rintro i L1 hi;have hA:i<d->¬ez ((aH d a b).getD i 0) ((aH d a b).getD (i+1) 0)<0:=fun g=>by
  rw[fX _ _ _ _ aa,fX _ _ _ _ aa,if_pos aa,if_pos aa];exact fun e=>by have:=ym.2 (show a<=a by grind);omega
 have hB:i=d->ez ((aH d a b).getD i 0) ((aH d a b).getD (i+1) 0)<0:=fun g=>by
  rw[fX _ _ _ _ aa,fX _ _ _ _ aa,if_pos aa,if_neg aa];exact aaO.2 dR
 have lF:=y6 (d:=d) hT hT1;have tI:=lF _ (df (p:=aH d a b) (i:=i) aa);have xh:=lF _ (df (p:=aH d a b) (i:=i+1) aa);refine ay ?_;refine ai rfl nj ?_;refine aV ?_;refine pY (b:=_) rfl (decide_eq_true abO) ?_;refine dk ?_;refine ai rfl nj ?_;refine aR ?_
 try simp only[t1,dc]
 refine cp aK (kL ((aH d a b).getD i 0) ((aH d a b).getD (i+1) 0) aa) ?_;refine bw ?_;refine au rfl ?_ ?_<;>intro aar h49
 ·have dS:i<d:=by
   rcases fH i d with g|g
   ·exact g
   have:=hB aa;omega
  refine aA ?_;refine c9 ?_;exact mW
 obtain rfl:i=d:=by
  rcases fH i d with g|g
  ·have:=hA g;omega
  omega
 have aej:(aH i a b).getD (i+1) 0=b:=by rw[fX _ _ _ _ aa,if_neg aa]
 refine dk ?_;refine ai rfl nj ?_;refine aR ?_
 try simp only[t1,dc,aej]
 refine cp aK (kL t b aa) ?_;refine bw ?_;refine au rfl ?_ ?_<;>intro tj ta
 ·refine dx ?_;exact pt rfl (.pure rfl) rfl (.pure rfl)
 omega
namespace amY
theorem aD{p q:Prop}(k:q)(e:p=q:=by simp only[bc,aZ,aW,aS,aoX,iF,xE,asZ,ap7,eY,s4,aej,qH,hc,ewl,ewj,ewk,akm,dc,Rat.add_zero,Nat.sub_self,List.drop_zero,List.take_zero,eF,bF,List.length_replicate,eX,cw,cd,cy,reduceIte,if_true,if_false,cS,LV.kill,a9];exact rfl):p:=e.mpr k
end amY
open amY in
theorem ad6(d:Nat)(a b:Rat)(c args:List Rat)(R:Nat)(h9:d<=6)(dt:a<b)(ha:rl a<=100)(hb:rl b<=100)(hc:c.length=d+1)(qH:args.length=d)(gy:1<=R)(hR:R<=10000000)(tp:∀x∈c,rl x<=R)(hA:∀t∈args,rl t<=100):jt ae 340 ⟨3,c.map ab,true⟩ [.list 3 ((aH d a b).map ab),ak d,.ref 0 3 0 (d+1),ak d,.list 3 (args.map ab)] (.aQ [ab (pO d a b c args),iL 0]) ⟨3,c.map ab,true⟩:=by
 have eY:=nm d a b;have bD:=vm d a b;have fg:=xp d a b;have hs9:uD 402 R 6<=10000000000:=by simp only[uD];omega
 have hQ:∀t∈args,rl ((fun t=>(t-a)/(b-a)) t)<=402:=fun t ht=>by
  have h1:=ab9 (t-a) (b-a);have h2:=kW t a;have h3:=kW b a;have h4:=hA t ht;show rl ((t-a)/(b-a))<=402;omega
 have hBR:∀r,r<=d->∀x∈(fc (fun t=>(t-a)/(b-a)) args c r),rl x<=10000000000:=fun r hr x hx=>bW (am8 (R:=R) hQ gy tp r aa x hx) (bW (aol gy (show r<=6 by omega)) hs9);have s4:(aH d a b).getD d 0=a:=by rw[fX _ _ _ _ aa,if_pos aa]
 have aej:(aH d a b).getD (d+1) 0=b:=by rw[fX _ _ _ _ aa,if_neg aa]
 have c1:¬ez a b>=0:=fun e=>by have:=ym.1 e;grind
 have hpa:=bN al 3 args;have xE:((aJ (d+1) (0:Rat)).map ab).drop (0+(c.map ab).length)=[]:=iP bm;have asZ:((aJ (d+1) (0:Rat)).map ab).drop (d+1)=[]:=iP az;have aB9:=kg an (hBR d (bA _)) d;have hAd:=gY ((fc (fun t=>(t-a)/(b-a)) args c d).getD d 0) 0 (by have:rl 0=1:=rfl;omega);rw[sL]at hAd;have mL:=bN al 3 (aH d a b);refine tr Tryz.func340 ?_;have aoX:True:=trivial;have ap7:True:=trivial;have ewl:True:=trivial;have ewj:True:=trivial;have ewk:True:=trivial;have akm:True:=trivial;refine bC (ae6 (aH d a b) d aa aa) ?_;refine aR ?_;refine ai acp (.move _) ?_;refine ai acp ry ?_;refine ai acp (.move _) ?_;refine ai acp (.bin rfl rfl rfl) ?_;refine ai rfl (.kO rfl ((bne_eq_false_iff_eq.2 abO))) ?_;refine bw ?_;refine rX (b:=_) rfl (bne_eq_false_iff_eq.2 (by first|omega|(simp only[bF,qH];omega))) ?_;refine aA ?_;refine ai mr (.move _) ?_;refine ai mr (.move _) ?_;refine ai mr ry ?_;refine ai mr (.bin rfl rfl rfl) ?_;refine ai rfl (.kO rfl ((decide_eq_false aa))) ?_;refine aT ?_;refine ai mr (.move _) ?_;refine ai mr (.move _) ?_;refine ai mr sa ?_;refine ai mr mb ?_;refine ai mr (.move _) ?_
 refine ai mr (.move _) ?_;refine ai mr (.bin rfl rfl (aif aa)) ?_;refine ai mr sa ?_;refine ai mr mb ?_
 try simp only[t1,dc,s4,aej]
 refine cF mr (.cons dv (.cons dv .nil)) (kL a b aa) ?_;refine ai mr (.bin rfl rfl rfl) ?_;refine ai rfl (.kO rfl ((decide_eq_false aa))) ?_;refine bw ?_;refine rX (b:=_) rfl (decide_eq_false c1) ?_;refine aA ?_;refine ai rfl nj ?_;refine eD rfl rfl (.gC (n:=d+1) (m:=d+1) ml ml om om om) ?_;refine bx ?_;refine ai rfl (.bin rfl rfl (adY (a:=d) (b:=d) (c:=0) aa aa)) ?_;refine ai rfl (.vi (a:=0) (h:=d+1) rfl en bZ (fun y hy=>by cases hy;exact⟨_,rfl⟩) (fun h=>by cases h) (fun y hy=>by cases hy) (fun _=>rfl) om om om) ?_;refine dH rfl (.cpy (b:=58) (off:=0) (sz:=3) (news:=c.map ab) (by rw[bF,hc];exact rfl) rfl rfl rfl (by simp[hc]) en en bZ (.inl ⟨0,0,_,(by rw[bF,hc];exact rfl),rfl,rfl,by simp[hc],by rw[gX,je]⟩)) ?_;refine cg ?_;refine da (fun(r:Nat) L=>(mS L [(0,⟨3,c.map ab,true⟩),(10,⟨3,[ab 0],true⟩),(58,⟨3,(fc (fun t=>(t-a)/(b-a)) args c r).map ab,true⟩)] [(68,ak r),(67,ak d),(66,.list 3 (args.map ab)),(12,.ref 58 3 0 (d+1)),(10,.ax 10 3 0 0),(3,ak d),(1,ak d),(0,.list 3 ((aH d a b).map ab))])) (fun r=>r<=d) (fun r=>d-r) 0 (bJ _) ?_;rintro r L1 hr;refine aA ?_;refine au rfl ?_ ?_<;>intro atz h69
 ·have xh:r<d:=aa;have hrt:=hA _ (df (p:=args) (i:=r) aa);have uW:(fc (fun t=>(t-a)/(b-a)) args c r).length=d+1:=by rw[adN,hc]
  have akm:mJ ((args.getD r 0-a)/(b-a)) (fc (fun t=>(t-a)/(b-a)) args c r) d=(fc (fun t=>(t-a)/(b-a)) args c r):=auF _ _ _ aa;have cJ:=aoc a b (args.getD r 0) aa dt;refine w9 ?_;refine da (fun(j:Nat) L=>(mS L [(0,⟨3,c.map ab,true⟩),(10,⟨3,[ab 0],true⟩),(58,⟨3,(mJ ((args.getD r 0-a)/(b-a)) (fc (fun t=>(t-a)/(b-a)) args c r) j).map ab,true⟩),(14,⟨3,[ab (args.getD r 0)],true⟩)] [(68,ak r),(67,ak d),(66,.list 3 (args.map ab)),(15,ak j),(14,.ax 14 3 0 0),(13,ak r),(12,.ref 58 3 0 (d+1)),(10,.ax 10 3 0 0),(3,ak d),(1,ak d),(0,.list 3 ((aH d a b).map ab))])) (fun j=>r<=j/\j<=d) (fun j=>j) d ⟨aa,bA _⟩ ?_;rintro j L2 ⟨hj1,fA⟩;refine bu ?_;refine au rfl ?_ ?_<;>intro apQ h76
  ·have hj3:r<j:=aa;have ewl:(mJ ((args.getD r 0-a)/(b-a)) (fc (fun t=>(t-a)/(b-a)) args c r) j).length=d+1:=by rw[rm,uW]
   have ewj:(mJ ((args.getD r 0-a)/(b-a)) (fc (fun t=>(t-a)/(b-a)) args c r) j).getD j 0=(fc (fun t=>(t-a)/(b-a)) args c r).getD j 0:=by rw[wu _ _ _ _ aa,if_neg aa]
   have ewk:(mJ ((args.getD r 0-a)/(b-a)) (fc (fun t=>(t-a)/(b-a)) args c r) j).getD (j-1) 0=(fc (fun t=>(t-a)/(b-a)) args c r).getD (j-1) 0:=by rw[wu _ _ _ _ aa,if_neg aa]
   have hv1:=kg an (hBR r aa) j;have hv2:=kg an (hBR r aa) (j-1);have hfq:rl ((args.getD r 0-a)/(b-a))<=402:=hQ _ (df (p:=args) (i:=r) aa);have cZ:=kW ((fc (fun t=>(t-a)/(b-a)) args c r).getD j 0) ((fc (fun t=>(t-a)/(b-a)) args c r).getD (j-1) 0);have hmf:=du ((args.getD r 0-a)/(b-a)) ((fc (fun t=>(t-a)/(b-a)) args c r).getD j 0-(fc (fun t=>(t-a)/(b-a)) args c r).getD (j-1) 0);have ap7:=auR ((args.getD r 0-a)/(b-a)) (fc (fun t=>(t-a)/(b-a)) args c r) j aa aa;have hkj:(aH d a b).getD j 0=a:=by rw[fX _ _ _ _ aa,if_pos aa]
   have hkh:(aH d a b).getD (j+d-r) 0=b:=by rw[fX _ _ _ _ aa,if_neg aa]
   refine bu ?_;refine ai rfl (.bin rfl rfl (adY (a:=d) (b:=d) (c:=0) aa aa)) ?_;refine aT ?_;refine ai rfl (.bin rfl rfl (abg (a:=0) (b:=j) aa)) ?_;refine bp ?_;refine ai rfl (.bin rfl rfl (abg (a:=j) (b:=d) aa)) ?_;refine aT ?_;refine ai rfl (.bin rfl rfl (adY (a:=j+d) (b:=r) (c:=j+d-r) aa aa)) ?_;refine bw ?_
   try simp only[t1,dc,hkj,hkh]
   refine cp iM (cJ) ?_;refine bx ?_;refine kz ?_;refine bx ?_;refine kz ?_;refine aR ?_;refine aD ?_;refine cp aK (ot ((fc (fun t=>(t-a)/(b-a)) args c r).getD j 0) ((fc (fun t=>(t-a)/(b-a)) args c r).getD (j-1) 0) aa) ?_;refine cp aK (fo ((args.getD r 0-a)/(b-a)) ((fc (fun t=>(t-a)/(b-a)) args c r).getD j 0-(fc (fun t=>(t-a)/(b-a)) args c r).getD (j-1) 0) aa) ?_;refine cp aK (gY ((fc (fun t=>(t-a)/(b-a)) args c r).getD (j-1) 0) ((args.getD r 0-a)/(b-a)*((fc (fun t=>(t-a)/(b-a)) args c r).getD j 0-(fc (fun t=>(t-a)/(b-a)) args c r).getD (j-1) 0)) aa) ?_;refine aV ?_;refine bX (av.kill _ 17) ?_;refine aT ?_;refine kz ?_;refine bw ?_;exact fj (j-1) ⟨aa,aa⟩
  obtain rfl:r=j:=aa;refine aA ?_;refine bX (av.kill _ 14) ?_;refine c9 ?_;exact fj (r+1) aa
 obtain rfl:d=r:=aa;have aoX:(fc (fun t=>(t-a)/(b-a)) args c d).length=d+1:=by rw[adN,hc]
 refine cg ?_;refine aD ?_;refine ai rfl (.aaq xI jB) ?_;refine cp aK (hAd) ?_;refine aV ?_;exact axa rfl rfl (al.aj _) (pC _) bZ (.cC (.pure (al.pure _))) rfl (.cC (.pure rfl)) rfl rfl (bS al _)
structure Q4 where
 x:Rat
 y:Rat
 z:Rat
 w:Rat
instance:Inhabited Q4:=⟨⟨0,0,0,0⟩⟩
def cD(q:Q4):LV:=.agg [ab q.x,ab q.y,ab q.z,ab q.w]
theorem gp:fe cD 12 true:=⟨fun q=>by simp[cD,LV.aj,bI,al.aj],fun _=>rfl,fun q=>by simp[cD,LV.pure,aN,al.pure]⟩
theorem wi(b:Nat)(q:Q4):(cD q).kill b=cD q:=LV.kM b _ (gp.pure q)
def nQ(R:Nat)(q:Q4):Prop:=rl q.x<=R/\rl q.y<=R/\rl q.z<=R/\rl q.w<=R
def pol(d:Nat)(a b:Rat)(C:List Q4)(args:List Rat):Q4:=⟨pO d a b (C.map (·.x)) args,pO d a b (C.map (·.y)) args,pO d a b (C.map (·.z)) args,pO d a b (C.map (·.w)) args⟩
theorem u7{C:List Q4}{i:Nat}(h:i<C.length)(f:Q4->Rat):(C.map f).getD i 0=f (C.getD i default):=by
 rw[bf,iT,bf,bO h];rfl
theorem axV{d j:Nat}{a b:Rat}(dt:a<b){C:List Q4}(hC:C.length=d+1)(hj:j<=d):pol d a b C (((aH d a b).drop (j+1)).take d)=C.getD j default:=by
 unfold pol;rw[adL dt kh hj,adL dt kh hj,adL dt kh hj,adL dt kh hj,
  u7 aa,u7 aa,u7 aa,u7 aa]
theorem acH{A B:List Rat}{i:Nat}(hl:A.length=B.length)(h:i<A.length):(A.take i++B.drop i).set i (A.getD i 0)=A.take (i+1)++B.drop (i+1):=by
 rw[List.set_append_right _ _ (by rw[eE];omega),eE,jE aa,sS,<-afV h,wC];congr 1;rw[yE (by omega:i<B.length),cw];rfl
theorem adS{A B:List Rat}{i:Nat}(hl:A.length=B.length)(h:i<=A.length):(A.take i++B.drop i).length=A.length:=by
 rw[kH,eE,oe];omega
theorem adw{A B:List Rat}{i:Nat}(hl:A.length=B.length)(h:A.length<=i):A.take i++B.drop i=A:=by
 rw[cW h,iP aa,eX]
theorem axl{C:List Q4}{k:Nat}(h:k<C.length):C.take k++[C.getD k default]=C.take (k+1):=by
 rw[tt,bO h,bf,bO h];rfl
theorem amk{d:Nat}{a b:Rat}{pr:Rat->Bool}(ha:pr a=false)(hb:pr b=true):xc pr (aH d a b)=((d+1:Nat):Int) :=
 ap8 (by rw[nm];omega) (fun j hj=>by
  have:(aH d a b).getD j default=(aH d a b).getD j 0:=rfl;rw[this,fX _ _ _ _ aa,if_pos hj,ha]) (by
  have:(aH d a b).getD (d+1) default=(aH d a b).getD (d+1) 0:=rfl;rw[this,fX _ _ _ _ aa,if_neg aa,hb])
theorem acw{P:Program}{dst:Option Tmp}{ty:TypeId}{pos:String}{af:Array Edge}{g:Option (Nat×Bool)}{rest:List Oper}{L:St}{K:St->Prop}{f:FuncId}{xs:Array Operand}{mh:Array TypeId}{args:List LV}{r:LV}{ops:Array Oper}(b:Nat){blk blk':aL}(hg:cI ops L ⟨dst,.call ⟨.value (.func f),xs,mh⟩,ty,pos,af,g⟩ true)
  (hb:L.heap b=some blk) (hm:blk.mt=true) (hp:aN blk.vals=true) (ha:p9 L.heap b (xs.toList.map L.ev) args) (hn:Names b (xs.toList.map L.ev)) (hk:jt P f blk args r blk')
  (lQ:blk'.mt=true) (fy:aN blk'.vals=true) (hr:∀g,r.bl g=r) (k:opsL P false ops rest ((L.a5 b (some blk')).put dst r) K) :
  opsL P false ops (⟨dst,.call ⟨.value (.func f),xs,mh⟩,ty,pos,af,g⟩::rest) L K :=
 tD b hg hb hm hp ha hn hk lQ fy (by rw[hr];exact k)
instance:EC ae 172 cD 12 true ⟨0,0,0,0⟩:=⟨gp,adm,sA⟩
namespace ark
theorem aD{p q:Prop}(k:q)(e:p=q:=by simp only[bc,aZ,aW,aS,iF,cD,hC,uB,ect,u0,tN,dc,List.drop_zero,List.take_zero,eF,bF,List.length_replicate,wi,cT gp,cw,cd,cy,reduceIte,if_true,if_false,cS,LV.kill,a9];exact rfl):p:=e.mpr k
end ark
open ark in
theorem avB(d:Nat)(a b:Rat)(C:List Q4)(args:List Rat)(R:Nat)(h9:d<=6)(dt:a<b)(ha:rl a<=100)(hb:rl b<=100)(hC:C.length=d+1)(qH:args.length=d)(gy:1<=R)(hR:R<=10000000)(tp:∀q∈C,nQ R q)(hA:∀t∈args,rl t<=100):ar ae 314 [.agg [ak d,.list 3 ((aH d a b).map ab),.list 12 (C.map cD)],ak d,.list 3 (args.map ab)] (cD (pol d a b C args)):=by
 have eY:=nm d a b;have bD:=vm d a b;have fg:=xp d a b;have hpS:LV.pure (.agg [ak d,.list 3 ((aH d a b).map ab),.list 12 (C.map cD)])=true:=aby;have mL:=bN al 3 (aH d a b);have hpa:=bN al 3 args;have dE:∀x∈(C.map (·.x)),rl x<=R:=fun x hx=>by
  obtain⟨q,hq,rfl⟩:=fB.1 hx;exact(tp q hq).1
 have pF:∀x∈(C.map (·.y)),rl x<=R:=fun x hx=>by
  obtain⟨q,hq,rfl⟩:=fB.1 hx;exact(tp q hq).2.1
 have fh:∀x∈(C.map (·.z)),rl x<=R:=fun x hx=>by
  obtain⟨q,hq,rfl⟩:=fB.1 hx;exact(tp q hq).2.2.1
 have xl:∀x∈(C.map (·.w)),rl x<=R:=fun x hx=>by
  obtain⟨q,hq,rfl⟩:=fB.1 hx;exact(tp q hq).2.2.2
 refine aE Tryz.func314 (ht:=(fun g=>LV.dF g _ (gp.pure _))) ?_;have uB:True:=trivial;have ect:True:=trivial;have u0:True:=trivial;have tN:True:=trivial;refine nB ?_;refine eD rfl rfl (.gC (n:=d+1) (m:=d+1) ml ml om om om) ?_;refine cb ?_;refine eW ?_;refine iQ ?_;refine da (fun(i:Nat) L=>(mS L [(3,⟨3,[.agg [ak d,.list 3 ((aH d a b).map ab),.list 12 (C.map cD)]],true⟩),(6,⟨12,[.agg [ab 0,ab 0,ab 0,ab 0]],true⟩),(7,⟨12,[.agg [ab 0,ab 0,ab 0,ab 0]],true⟩),(15,⟨3,((C.map (·.x)).take i++(aJ (d+1) (0:Rat)).drop i).map ab,true⟩)] [(22,ak i),(21,ak (d+1)),(20,.list 12 (C.map cD)),(16,ak 0),(9,ak 0),(8,.ref 15 3 0 (d+1)),(7,.ax 7 12 0 0),(6,.ax 6 12 0 0),(3,.ax 3 3 0 0),(2,.list 3 (args.map ab)),(1,ak d)])) (fun i=>i<=d+1) (fun i=>d+1-i) 0 (bJ _) ?_;rintro i L2 hi;refine aA ?_;refine au rfl ?_ ?_<;>intro mN mB
 ·have dS:i<d+1:=aa;have tN:=u7 (C:=C) (i:=i) aa (·.x);have ect:((C.map (·.x)).take i++(aJ (d+1) (0:Rat)).drop i).set i ((C.getD i default).x)=(C.map (·.x)).take (i+1)++(aJ (d+1) (0:Rat)).drop (i+1):=by
   rw[<-tN];exact acH kh (by simp[hC];omega)
  have uB:((C.map (·.x)).take i++(aJ (d+1) (0:Rat)).drop i).length=d+1:=by rw[adS kh (by simp[hC];omega)];simp[hC]
  refine tE ?_;refine bX (av.kill _ 11) ?_;refine c9 ?_;exact mW
 obtain rfl:i=d+1:=aa;have u0:(C.map (·.x)).take (d+1)++(aJ (d+1) (0:Rat)).drop (d+1)=(C.map (·.x)):=adw kh kh
 try simp only[u0]
 refine dx ?_;refine acw 15 rfl rfl rfl (bS al _) (.cons (.cC (.pure mL)) (.cons (.cC (.pure rfl)) (.cons .ref (.cons (.cC (.pure rfl)) (.cons (.cC (.pure hpa)) .nil))))) (.tl (.tl (.ref (ac7 _)))) (ad6 d a b (C.map (·.x)) args R h9 dt ha hb (by rw[bF,hC]) qH gy hR dE hA) rfl (bS al _) (lf (al.pure _) rfl) ?_;refine dk ?_;refine eW ?_;refine iQ ?_;refine da (fun(i:Nat) L=>(mS L [(3,⟨3,[.agg [ak d,.list 3 ((aH d a b).map ab),.list 12 (C.map cD)]],true⟩),(6,⟨12,[.agg [ab 0,ab 0,ab 0,ab 0]],true⟩),(7,⟨12,[.agg [ab (pO d a b (C.map (·.x)) args),ab 0,ab 0,ab 0]],true⟩),(15,⟨3,((C.map (·.y)).take i++(C.map (·.x)).drop i).map ab,true⟩)] [(22,ak i),(21,ak (d+1)),(20,.list 12 (C.map cD)),(16,ak 1),(9,ak 1),(8,.ref 15 3 0 (d+1)),(7,.ax 7 12 0 0),(6,.ax 6 12 0 0),(3,.ax 3 3 0 0),(2,.list 3 (args.map ab)),(1,ak d)])) (fun i=>i<=d+1) (fun i=>d+1-i) 0 (bJ _) ?_;rintro i L2 hi;refine aA ?_;refine au rfl ?_ ?_<;>intro mN mB
 ·have dS:i<d+1:=aa;have tN:=u7 (C:=C) (i:=i) aa (·.y);have ect:((C.map (·.y)).take i++(C.map (·.x)).drop i).set i ((C.getD i default).y)=(C.map (·.y)).take (i+1)++(C.map (·.x)).drop (i+1):=by
   rw[<-tN];exact acH kh (by simp[hC];omega)
  have uB:((C.map (·.y)).take i++(C.map (·.x)).drop i).length=d+1:=by rw[adS kh (by simp[hC];omega)];simp[hC]
  refine tE ?_;refine bX (av.kill _ 11) ?_;refine c9 ?_;exact mW
 obtain rfl:i=d+1:=aa;have u0:(C.map (·.y)).take (d+1)++(C.map (·.x)).drop (d+1)=(C.map (·.y)):=adw kh kh
 try simp only[u0]
 refine dx ?_;refine acw 15 rfl rfl rfl (bS al _) (.cons (.cC (.pure mL)) (.cons (.cC (.pure rfl)) (.cons .ref (.cons (.cC (.pure rfl)) (.cons (.cC (.pure hpa)) .nil))))) (.tl (.tl (.ref (ac7 _)))) (ad6 d a b (C.map (·.y)) args R h9 dt ha hb (by rw[bF,hC]) qH gy hR pF hA) rfl (bS al _) (lf (al.pure _) rfl) ?_;refine dk ?_;refine eW ?_;refine iQ ?_;refine da (fun(i:Nat) L=>(mS L [(3,⟨3,[.agg [ak d,.list 3 ((aH d a b).map ab),.list 12 (C.map cD)]],true⟩),(6,⟨12,[.agg [ab 0,ab 0,ab 0,ab 0]],true⟩),(7,⟨12,[.agg [ab (pO d a b (C.map (·.x)) args),ab (pO d a b (C.map (·.y)) args),ab 0,ab 0]],true⟩),(15,⟨3,((C.map (·.z)).take i++(C.map (·.y)).drop i).map ab,true⟩)] [(22,ak i),(21,ak (d+1)),(20,.list 12 (C.map cD)),(16,ak 2),(9,ak 2),(8,.ref 15 3 0 (d+1)),(7,.ax 7 12 0 0),(6,.ax 6 12 0 0),(3,.ax 3 3 0 0),(2,.list 3 (args.map ab)),(1,ak d)])) (fun i=>i<=d+1) (fun i=>d+1-i) 0 (bJ _) ?_;rintro i L2 hi;refine aA ?_;refine au rfl ?_ ?_<;>intro mN mB
 ·have dS:i<d+1:=aa;have tN:=u7 (C:=C) (i:=i) aa (·.z);have ect:((C.map (·.z)).take i++(C.map (·.y)).drop i).set i ((C.getD i default).z)=(C.map (·.z)).take (i+1)++(C.map (·.y)).drop (i+1):=by
   rw[<-tN];exact acH kh (by simp[hC];omega)
  have uB:((C.map (·.z)).take i++(C.map (·.y)).drop i).length=d+1:=by rw[adS kh (by simp[hC];omega)];simp[hC]
  refine tE ?_;refine bX (av.kill _ 11) ?_;refine c9 ?_;exact mW
 obtain rfl:i=d+1:=aa;have u0:(C.map (·.z)).take (d+1)++(C.map (·.y)).drop (d+1)=(C.map (·.z)):=adw kh kh
 try simp only[u0]
 refine dx ?_;refine acw 15 rfl rfl rfl (bS al _) (.cons (.cC (.pure mL)) (.cons (.cC (.pure rfl)) (.cons .ref (.cons (.cC (.pure rfl)) (.cons (.cC (.pure hpa)) .nil))))) (.tl (.tl (.ref (ac7 _)))) (ad6 d a b (C.map (·.z)) args R h9 dt ha hb (by rw[bF,hC]) qH gy hR fh hA) rfl (bS al _) (lf (al.pure _) rfl) ?_;refine dk ?_;refine eW ?_;refine iQ ?_;refine da (fun(i:Nat) L=>(mS L [(3,⟨3,[.agg [ak d,.list 3 ((aH d a b).map ab),.list 12 (C.map cD)]],true⟩),(6,⟨12,[.agg [ab 0,ab 0,ab 0,ab 0]],true⟩),(7,⟨12,[.agg [ab (pO d a b (C.map (·.x)) args),ab (pO d a b (C.map (·.y)) args),ab (pO d a b (C.map (·.z)) args),ab 0]],true⟩),(15,⟨3,((C.map (·.w)).take i++(C.map (·.z)).drop i).map ab,true⟩)] [(22,ak i),(21,ak (d+1)),(20,.list 12 (C.map cD)),(16,ak 3),(9,ak 3),(8,.ref 15 3 0 (d+1)),(7,.ax 7 12 0 0),(6,.ax 6 12 0 0),(3,.ax 3 3 0 0),(2,.list 3 (args.map ab)),(1,ak d)])) (fun i=>i<=d+1) (fun i=>d+1-i) 0 (bJ _) ?_;rintro i L2 hi;refine aA ?_;refine au rfl ?_ ?_<;>intro mN mB
 ·have dS:i<d+1:=aa;have tN:=u7 (C:=C) (i:=i) aa (·.w);have ect:((C.map (·.w)).take i++(C.map (·.z)).drop i).set i ((C.getD i default).w)=(C.map (·.w)).take (i+1)++(C.map (·.z)).drop (i+1):=by
   rw[<-tN];exact acH kh (by simp[hC];omega)
  have uB:((C.map (·.w)).take i++(C.map (·.z)).drop i).length=d+1:=by rw[adS kh (by simp[hC];omega)];simp[hC]
  refine tE ?_;refine bX (av.kill _ 11) ?_;refine c9 ?_;exact mW
 obtain rfl:i=d+1:=aa;have u0:(C.map (·.w)).take (d+1)++(C.map (·.z)).drop (d+1)=(C.map (·.w)):=adw kh kh
 try simp only[u0]
 refine dx ?_;refine acw 15 rfl rfl rfl (bS al _) (.cons (.cC (.pure mL)) (.cons (.cC (.pure rfl)) (.cons .ref (.cons (.cC (.pure rfl)) (.cons (.cC (.pure hpa)) .nil))))) (.tl (.tl (.ref (ac7 _)))) (ad6 d a b (C.map (·.w)) args R h9 dt ha hb (by rw[bF,hC]) qH gy hR xl hA) rfl (bS al _) (lf (al.pure _) rfl) ?_;refine dk ?_;refine oP ?_;refine bp ?_;exact iV [] rfl rfl rfl cs (fq cs rfl) sA (.pure (gp.pure (pol d a b C args)))
namespace aqQ
theorem aD{p q:Prop}(k:q)(e:p=q:=by simp only[bc,aZ,aW,aS,eY,s4,kC,jH,hC,ejd,dc,bF,jW,dO,ff,eF,List.map_nil,gE,eX,wi,cT gp,cw,cd,cy,reduceIte,if_true,if_false,cS,LV.kill,a9];exact rfl):p:=e.mpr k
end aqQ
open aqQ in
theorem asN(d:Nat)(a b:Rat)(C:List Q4)(R:Nat)(h9:d<=6)(dt:a<b)(ha:rl a<=100)(hb:rl b<=100)(hC:C.length=d+1)(gy:1<=R)(hR:R<=10000000)(tp:∀q∈C,nQ R q):ar ae 270 [.agg [ak d,.list 3 ((aH d a b).map ab),.list 12 (C.map cD)],.list 3 ((aH d a b).map ab)] (.agg [ak d,.list 3 ((aH d a b).map ab),.list 12 (C.map cD)]):=by
 have eY:=nm d a b;have bD:=vm d a b;have fg:=xp d a b;have hpS:LV.pure (.agg [ak d,.list 3 ((aH d a b).map ab),.list 12 (C.map cD)])=true:=aby;have mL:=bN al 3 (aH d a b);have s4:(aH d a b).getD d 0=a:=by rw[fX _ _ _ _ aa,if_pos aa]
 have rW:2*(d+1)-d-1=d+1:=aa;have hKP:=ae6 (aH d a b) d aa aa;rw[eY,rW]at hKP;refine aE Tryz.func270 (ht:=(fun g=>LV.dF g _ aby)) ?_;have kC:True:=trivial;have jH:True:=trivial;have ejd:True:=trivial;refine bC (hKP) ?_;refine ay ?_;refine kD ((av.cell 5 rfl (fun Z μ w cs h=>aeu 51 12 _ _ Z μ w cs h)).trans (av.tV _ 51 12 rfl)) ?_;refine da (fun(j:Nat) L=>(mS L [(2,⟨3,[.agg [ak d,.list 3 ((aH d a b).map ab),.list 12 (C.map cD)]],true⟩),(4,⟨3,[.agg [.v (.int .i64 0),.v (.slice none 0 0),.v (.slice none 0 0)]],true⟩),(5,⟨3,[.agg [ak d,.list 3 ((aH d a b).map ab),.ref 51 12 0 j]],true⟩),(51,⟨12,(C.take j).map cD,true⟩)] [(18,ak j),(17,ak (d+1)),(5,.ax 5 3 0 0),(4,.ax 4 3 0 0),(2,.ax 2 3 0 0),(1,.list 3 ((aH d a b).map ab))])) (fun j=>j<=d+1) (fun j=>d+1-j) 0 (bJ _) ?_;rintro j L1 hj;refine aA ?_;refine au rfl ?_ ?_<;>intro yN uv
 ·have fA:j<d+1:=aa;have kC:=axl (C:=C) (k:=j) aa;have jH:((C.take j).map cD).take j=(C.take j).map cD:=cW vc;have ejd:((aH d a b).take (j+d+1)).drop (j+1)=((aH d a b).drop (j+1)).take d:=by
   rw[List.drop_take];congr 1;omega
  have hPo:ar ae 314 [.agg [ak d,.list 3 ((aH d a b).map ab),.list 12 (C.map cD)],ak d,.list 3 ((((aH d a b).drop (j+1)).take d).map ab)] (cD (C.getD j default)):=by
   have:=avB d a b C (((aH d a b).drop (j+1)).take d) R h9 dt ha hb hC (by rw[eE,oe,eY];omega) gy hR tp (fun t ht=>y6 ha hb t (List.mem_of_mem_drop (xY ht)));rwa[axV dt hC aa]at this
  refine bC (asc d a b j dt ha hb h9 aa) ?_;refine dk ?_
  try simp only[t1,dc,s4]
  refine cp iM (ajl d a b a h9 ha hb aa dR dt) ?_;refine dx ?_;refine c9 ?_;refine ai rfl (.bin rfl rfl (abg (a:=j) (b:=d) aa)) ?_;refine ai rfl nj ?_;refine ai rfl (.agR (a:=j+1) (h:=j+d+1) al rfl en bZ rfl rfl om om) ?_;refine aD ?_;refine cp iM (hPo) ?_;refine aT ?_;refine dH rfl (.iJ (d:=51) (news:=[cD (C.getD j default)]) rfl rfl rfl rfl bm (.inl rfl) an vT vT adm sA cs ajf (.inl ⟨50,0,_,rfl,by decide,rfl,rfl,by simp,rfl,by simp[aN,gp.pure]⟩) bm bm an) ?_;refine aV ?_;refine bX (av.kill _ 50) ?_;refine c9 ?_;exact pR
 obtain rfl:j=d+1:=aa;have hE:C.take (d+1)=C:=cW aa;simp only[hE];refine bp ?_;exact iV [51] rfl rfl rfl cs (fq cs rfl) ac4 (.agg (.cons (.pure rfl) (.cons (.pure mL) (.cons (eM (l:=C) gp rfl rfl hC.symm) .nil))))
namespace ani
theorem aD{p q:Prop}(k:q)(e:p=q:=by simp only[bc,aZ,aW,aS,dc,cw,cd,cy,reduceIte,if_true,if_false,cS,LV.kill,a9,bF];exact rfl):p:=e.mpr k
end ani
open ani in
theorem aoi(f:Nat)(cap:List LV)(gh:aN cap=true)(hcs:∀x∈cap,x.aj=1/\x.isAgg=false)(pr:Rat->Bool)(l:List Rat)(hl:l.length<=1048576)(hf:∀x∈l,ar ae f ([ab x]++cap) (bL (pr x))):ar ae 158 [.list 3 (l.map ab),.bQ f cap] (iL (xc pr l)):=by
 refine aE Tryz.func158 ?_;refine dx ?_;refine da (fun(i:Nat) L=>(mS L [] [(8,ak i),(7,ak l.length),(6,.list 3 (l.map ab)),(1,.bQ f cap),(0,.list 3 (l.map ab))])) (fun i=>i<=l.length/\∀j,j<i->pr (l.getD j default)=false) (fun i=>l.length-i) 0 ⟨bJ _,fun j hj=>absurd hj (Nat.not_lt_zero j)⟩ ?_;rintro i L1 ⟨hi,h0⟩;refine aA ?_;refine au rfl ?_ ?_<;>intro sB h9
 ·have dS:i<l.length:=aa;have hc:=hf _ (df dS);refine jX ?_;refine jA [] rfl rfl (.bQ (f:=f) (cap:=cap) (args:=[ab (l.getD i 0)]) rfl (.cons dv .nil) ⟨gh,hcs⟩ hc.1 an (fun _ h=>by cases h)) (hc.2 _) ?_;refine aR ?_;refine au rfl ?_ ?_<;>intro nn jJ
  ·have hV:xc pr l=(i:Int):=ap8 dS h0 (by first|exact nn|exact jJ);refine bp ?_;rw[hV];exact dg
  have hn:∀j,j<i+1->pr (l.getD j default)=false:=fun j hj=>by
   rcases Nat.lt_succ_iff_lt_or_eq.1 hj with e|rfl
   ·exact h0 j e
   first|exact nn|(simpa using jJ)
  refine ay ?_;refine c9 ?_;exact fj (i+1) ⟨aa,hn⟩
 obtain rfl:i=l.length:=aa;refine cg ?_;rw[aAd h0];exact dg
open oz in
theorem avk(a x:Rat)(h:rl a+rl x<=100000):ar ae 271 [ab x,.bg (ab a)] (bL (decide (ez x a > 0))):=by
 refine aE Tryz.func271 ?_;refine bC (kL x a aa) ?_;refine aV ?_;exact dg
open oz in
theorem awo(a x:Rat)(h:rl a+rl x<=100000):ar ae 272 [ab x,.bg (ab a)] (bL (decide (ez x a>=0))):=by
 refine aE Tryz.func272 ?_;refine bC (kL x a aa) ?_;refine aV ?_;exact dg
namespace ajx
theorem aD{p q:Prop}(k:q)(e:p=q:=by simp only[bc,aZ,aW,aS,eY,bD,fg,vr,eal,ebl,eap,ebp,hC,aA9,hdz,dc,ij,iG,bF,List.length_replicate,Nat.sub_self,List.drop_zero,List.replicate_zero,jW,dO,ff,eF,List.map_nil,gE,eX,wi,cT gp,cw,cd,cy,reduceIte,if_true,if_false,cS,LV.kill,a9];exact rfl):p:=e.mpr k
end ajx
open ajx in
theorem ayw(d:Nat)(a b:Rat)(C:List Q4)(R:Nat)(h9:d<=6)(dt:a<b)(ha:rl a<=100)(hb:rl b<=100)(hC:C.length=d+1)(gy:1<=R)(hR:R<=10000000)(tp:∀q∈C,nQ R q):ar ae 188 [.agg [ak d,.list 3 ((aH d a b).map ab),.list 12 (C.map cD)],ab a,ab b] (.agg [ak d,.list 3 ((aH d a b).map ab),.list 12 (C.map cD)]):=by
 have eY:=nm d a b;have bD:=vm d a b;have fg:=xp d a b;have hpS:LV.pure (.agg [ak d,.list 3 ((aH d a b).map ab),.list 12 (C.map cD)])=true:=aby;have mL:=bN al 3 (aH d a b);have vr:(((2*(d+1):Nat):Int)-1).toNat=2*(d+1)-1:=aa;have aA9:d+1-(d+1)=0:=sS _;have hdz:((aH d a b).take (d+1)).drop (d+1)=[]:=iP (by rw[eE,eY];omega);have tY:ar ae 17 [ab a,ab a] (bL true):=by
  have:=nG a a aa;rwa[decide_eq_true rfl]at this
 have hS2:ar ae 17 [ab b,ab a] (bL false):=by
  have:=nG b a aa;rwa[decide_eq_false dR]at this
 have hS3:ar ae 17 [ab b,ab b] (bL true):=by
  have:=nG b b aa;rwa[decide_eq_true rfl]at this
 have hO:=asN d a b C R h9 dt ha hb hC gy hR tp;have sC:=y6 (d:=d) ha hb;have se:ar ae 158 [.list 3 ((aH d a b).map ab),.bQ 271 [.bg (ab a)]] (ak (d+1)):=by
  have:=aoi 271 [.bg (ab a)] (by simp[aN,LV.pure,al.pure]) (fun x hx=>by rw[qk.1 hx];exact⟨rfl,rfl⟩) (fun x=>decide (ez x a > 0)) (aH d a b) aa (fun x hx=>avk a x (by have:=sC x hx;omega));rwa[amk (decide_eq_false (fun e=>by have:=acf.1 e;grind)) (decide_eq_true (acf.2 dt))]at this
 have hI2:ar ae 158 [.list 3 ((aH d a b).map ab),.bQ 272 [.bg (ab b)]] (ak (d+1)):=by
  have:=aoi 272 [.bg (ab b)] (by simp[aN,LV.pure,al.pure]) (fun x hx=>by rw[qk.1 hx];exact⟨rfl,rfl⟩) (fun x=>decide (ez x b>=0)) (aH d a b) aa (fun x hx=>awo b x (by have:=sC x hx;omega));rwa[amk (decide_eq_false (fun e=>by have:=ym.1 e;grind)) (decide_eq_true (ym.2 dR))]at this
 refine aE Tryz.func188 (ht:=(fun g=>LV.dF g _ aby)) ?_;have eal:True:=trivial;have ebl:True:=trivial;have eap:True:=trivial;have ebp:True:=trivial;refine tE ?_;refine eW ?_;refine jX ?_;refine aD ?_;refine cp aK (tY) ?_;refine aT ?_;refine ax8 ?_;refine fQ ib ?_;refine fQ ib ?_;refine fQ ib ?_;refine aD ?_;refine fQ ib ?_;refine ai rfl (.uf rfl ((rfl))) ?_;refine ay ?_;refine jR ?_;refine aA ?_;refine aku ?_;refine fQ fx ?_;refine fQ fx ?_;refine ai rfl (.kO rfl ((rfl))) ?_;refine aR ?_;refine ny ?_;refine aA ?_;refine bX (av.kill _ 9) ?_;refine ay ?_;refine eW ?_;refine jX ?_;refine aD ?_;refine cp aK (hS2) ?_;refine aT ?_;refine ai fx mb ?_;refine ai fx (.move _) ?_;refine ai fx (.move _) ?_;refine ai fx ry ?_;refine ai fx (.bin rfl rfl (ahh aa aa)) ?_;refine ai fx sa ?_;refine ai fx mb ?_;refine aD ?_;refine cF fx (.cons dv (.cons dv .nil)) (hS3) ?_;refine ai rfl (.kO rfl ((rfl))) ?_;refine ay ?_
 refine jR ?_;refine aA ?_;refine aku ?_;refine fQ fx ?_;refine fQ fx ?_;refine ai rfl (.kO rfl ((rfl))) ?_;refine aR ?_;refine ny ?_;refine aA ?_;refine bX (av.kill _ 9) ?_;refine ay ?_;refine oP ?_;refine bC (hO) ?_;refine iQ ?_;refine jA [4] rfl rfl (.mk (caps:=[.bg (ab a)]) (.cons (.ax rfl rfl rfl (al.aj _) (pC _) (al.pure _) rfl) .nil) (fun x hx=>by rw[qk.1 hx];exact⟨rfl,rfl⟩)) rfl ?_;refine cF rfl (.cons (.pure mL) (.cons (.pure (show LV.pure (.bQ 271 [.bg (ab a)])=true by simp[LV.pure,aN,al.pure])) .nil)) (se) ?_;refine kz ?_;refine aA ?_;refine jA [5] rfl rfl (.mk (caps:=[.bg (ab b)]) (.cons (.ax rfl rfl rfl (al.aj _) (pC _) (al.pure _) rfl) .nil) (fun x hx=>by rw[qk.1 hx];exact⟨rfl,rfl⟩)) rfl ?_;refine cF rfl (.cons (.pure mL) (.cons (.pure (show LV.pure (.bQ 272 [.bg (ab b)])=true by simp[LV.pure,aN,al.pure])) .nil)) (hI2) ?_;refine bu ?_;refine ai rfl nj ?_;refine ay ?_;refine kD ((av.cell 12 rfl (fun Z μ w cs h=>aA1 74 3 _ _ Z μ w cs h)).trans (av.tV _ 74 3 rfl)) ?_
 refine da (fun(m:Nat) L=>(mS L [(3,⟨3,[.agg [ak d,.list 3 ((aH d a b).map ab),.list 12 (C.map cD)]],true⟩),(4,⟨3,[ab a],false⟩),(5,⟨3,[ab b],false⟩),(6,⟨3,[.agg [.v (.int .i64 0),.v (.slice none 0 0),.v (.slice none 0 0)]],true⟩),(11,⟨3,[.agg [ak d,.list 3 ((aH d a b).map ab),.list 12 (C.map cD)]],true⟩),(12,⟨3,[.agg [ak d,.ref 74 3 0 m,.v (.slice none 0 0)]],true⟩),(74,⟨3,(aJ m a).map ab,true⟩)] [(68,ak m),(67,ak (d+1)),(14,ak (d+1)),(13,ak d),(12,.ax 12 3 0 0),(11,.ax 11 3 0 0),(7,.list 3 ((aH d a b).map ab)),(6,.ax 6 3 0 0),(5,.ax 5 3 0 0),(4,.ax 4 3 0 0),(3,.ax 3 3 0 0)])) (fun m=>m<=d+1) (fun m=>d+1-m) 0 (bJ _) ?_;rintro m L3 hm;refine aA ?_;refine au rfl ?_ ?_<;>intro atz h69
 ·have fh:m<d+1:=aa;have eal:(aJ m a++[a])=aJ (m+1) a:=by rw[ai5]
  have eap:((aJ m a).map ab).take m=(aJ m a).map ab:=cW az;refine bx ?_;refine dH rfl (.iJ (d:=74) (news:=[ab a]) rfl rfl rfl rfl vH (.inl rfl) an en en jB bZ rfl mG (.inl ⟨73,0,_,rfl,by decide,rfl,rfl,by simp,rfl,by simp[aN,al.pure]⟩) vH vH an) ?_;refine aV ?_;refine bX (av.kill _ 73) ?_;refine c9 ?_;exact fj (m+1) aa
 obtain rfl:m=d+1:=aa;have eal:True:=trivial;have eap:((aJ (d+1) a).map ab).take (d+1)=(aJ (d+1) a).map ab:=cW az;refine cg ?_;refine ai rfl nj ?_;refine aT ?_;refine ai rfl (.agR (a:=d+1) (h:=d+1) al rfl en bZ rfl rfl om om) ?_;refine aD ?_;refine dH rfl (.iJ (d:=74) (news:=[]) rfl rfl rfl rfl az (.inl rfl) an en en jB bZ rfl mG (.inr (.inl rfl)) vH vH an) ?_;refine bx ?_;refine ai rfl nj ?_;refine ay ?_;refine da (fun(m:Nat) L=>(mS L [(3,⟨3,[.agg [ak d,.list 3 ((aH d a b).map ab),.list 12 (C.map cD)]],true⟩),(4,⟨3,[ab a],false⟩),(5,⟨3,[ab b],false⟩),(6,⟨3,[.agg [.v (.int .i64 0),.v (.slice none 0 0),.v (.slice none 0 0)]],true⟩),(11,⟨3,[.agg [ak d,.list 3 ((aH d a b).map ab),.list 12 (C.map cD)]],true⟩),(12,⟨3,[.agg [ak d,.ref 74 3 0 (d+1+m),.v (.slice none 0 0)]],true⟩),(74,⟨3,(aJ (d+1) a++aJ m b).map ab,true⟩)] [(89,ak m),(88,ak (d+1)),(14,ak (d+1)),(13,ak d),(12,.ax 12 3 0 0),(11,.ax 11 3 0 0),(7,.list 3 ((aH d a b).map ab)),(6,.ax 6 3 0 0),(5,.ax 5 3 0 0),(4,.ax 4 3 0 0),(3,.ax 3 3 0 0)])) (fun m=>m<=d+1) (fun m=>d+1-m) 0 (bJ _) ?_;rintro m L4 hm;refine aA ?_;refine au rfl ?_ ?_<;>intro aCj h90
 ·have fh:m<d+1:=aa;have ebl:(aJ (d+1) a++aJ m b)++[b]=aJ (d+1) a++aJ (m+1) b:=by rw[wC,<-ai5]
  have ebp:((aJ (d+1) a++aJ m b).map ab).take (d+1+m)=(aJ (d+1) a++aJ m b).map ab:=cW az;refine bx ?_;refine dH rfl (.iJ (d:=74) (news:=[ab b]) rfl rfl rfl rfl vH (.inl rfl) an en en jB bZ rfl mG (.inl ⟨94,0,_,rfl,by decide,rfl,rfl,by simp,rfl,by simp[aN,al.pure]⟩) vH vH an) ?_;refine aV ?_;refine bX (av.kill _ 94) ?_;refine c9 ?_;exact fj (m+1) aa
 obtain rfl:m=d+1:=aa;have hkE:aJ (d+1) a++aJ (d+1) b=aH d a b:=rfl;have hTC:C.take (d+1)=C:=cW aa;have arP:d+1+(d+1)=2*(d+1):=aa;refine bp ?_;refine ai rfl (.bin rfl rfl (adY (a:=d) (b:=d) (c:=0) aa aa)) ?_;refine aT ?_;refine ai rfl (.agR (a:=0) (h:=d+1) gp rfl vT sA rfl rfl om om) ?_;refine cg ?_
 try simp only[hTC,hkE,arP]
 exact iV [74] rfl rfl rfl cs (fq cs rfl) ac4 (.agg (.cons (.pure rfl) (.cons (eM (l:=aH d a b) al rfl rfl (by rw[eY])) (.cons (.pure (bN gp 12 _)) .nil))))
theorem tB(bs:List Nat)(c:Nat)(y:aL)(l:List (Nat×aL)):xS bs ((c,y)::l)=(c,⟨y.sz,y.vals,y.mt&&!bs.contains c⟩)::xS bs l:=rfl
namespace amv
theorem aD{p q:Prop}(k:q)(e:p=q:=by simp only[bc,aZ,aW,aS,bF,gE,eF,cw,cd,cy,reduceIte,if_true,if_false,cS,LV.kill,a9];exact rfl):p:=e.mpr k
theorem pb{p q:Prop}(k:q)(e:p=q:=by simp only[bc,aZ,aW,aS,bF,gE,eF,cw,cd,cy,reduceIte,if_true,if_false,cS,LV.kill,a9,List.take_zero,gE,eF,cT al,LV.kill];exact rfl):p:=e.mpr k
theorem nx{p:Prop}(h:p:=by first|(refine pb ?_;exact rfl)|exact rfl):p:=h
end amv
open amv in
theorem ayA(c:List Rat)(h0:0<c.length)(hl:c.length<=1000):ke ae 332 [.list 3 (c.map ab)] (.ref 1 3 0 c.length) [⟨3,c.map ab,true⟩]:=by
 refine xe Tryz.func332 ?_;refine aP ?_;refine ad2 (alT (sz:=3) (l:=c.map ab) rfl oB (fun b hb=>?_));refine aT ?_;refine au rfl ?_ ?_<;>intro h4r h4
 ·have uX:c=[]:=by simpa using hb h4r
  subst uX
  cases h0
 refine aA ?_;refine dH rfl (.app rfl rfl rfl rfl rfl (bJ _) (.inr rfl) an oB oB jB bZ cs mG (.inr (.inl rfl)) bm bm an) ?_;refine aT ?_;refine nL nx ?_;refine aR ?_;exact aaw rfl rfl (bS al _)
def nW(r:Rat)(c:List Rat):List Rat:=c.map (r*·)
theorem agC(r:Rat)(c:List Rat):(nW r c).length=c.length:=by simp[nW]
theorem ax1{r:Rat}{c:List Rat}{i:Nat}(h:i<c.length):(nW r c).getD i 0=r*c.getD i 0:=by
 rw[bf,bf,nW,iT,bO h];rfl
theorem avi{w:List Rat}{r:Rat}{c:List Rat}{i:Nat}(hi:i<c.length)(hl:w.length=c.length)(ht:w.take i=(nW r c).take i):(w.set i (r*c.getD i 0)).take (i+1)=(nW r c).take (i+1):=by
 exact wW (by rw[agC];exact hi) (by rw[agC];exact hl) ht (ax1 hi).symm
open agE in
theorem amW(c:List Rat)(r:Rat)(hl:c.length<=1000)(hr:∀x∈c,rl x<=1000000)(hq:rl r<=1000000):ar ae 304 [.list 3 (c.map ab),ab r] (.list 3 ((nW r c).map ab)):=by
 refine aE Tryz.func304 (ht:=(fun g=>LV.dF g _ (bN al 3 _))) ?_;refine cb ?_;refine eD rfl rfl (.gC (n:=c.length) (m:=c.length) ml ml om om om) ?_;refine bp ?_;refine iy (fun(i:Nat) (w:List Rat) L=>(mS L [(3,⟨3,[ab r],true⟩),(10,⟨3,w.map ab,true⟩)] [(13,ak i),(12,ak c.length),(11,.list 3 (c.map ab)),(5,.ref 10 3 0 c.length),(3,.ax 3 3 0 0)])) (fun i w=>i<=c.length/\w.length=c.length/\w.take i=(nW r c).take i) (fun i w=>c.length-i) 0 (aJ c.length 0) ⟨bJ _,by simp,rfl⟩ ?_;rintro i w L1 ⟨hi,hw,ht⟩;refine aA ?_;refine au rfl ?_ ?_<;>intro rV nb
 ·have dS:i<c.length:=aa;have hci:=hr _ (df dS);refine bC (fo r (c.getD i 0) aa) ?_;refine aV ?_;refine bX (av.kill _ 7) ?_;refine c9 ?_;exact fC (i+1) (w.set i (r*c.getD i 0)) ⟨aa,by simp[hw],avi dS hw ht⟩
 obtain rfl:i=c.length:=aa;have hE:w=nW r c:=by rw[<-hw,je,hw,<-agC r c,je]at ht;exact ht
 refine bp ?_;rw[<-hE];exact nq [10] rfl rfl (eM al rfl rfl (by simp[hw]))
def rQ(c:List Rat):List Rat:=nW (1/c.getD (c.length-1) 0) c
def qK(c:List Rat)(n:Nat):List Rat:=(eH n).map fun i=>((i+1:Nat):Rat)*c.getD (i+1) 0
theorem abA(c:List Rat)(n:Nat):(qK c n).length=n:=by simp[qK]
theorem ar2(c:List Rat)(n:Nat):qK c n++[((n+1:Nat):Rat)*c.getD (n+1) 0]=qK c (n+1):=by simp[qK,aaa]
theorem auw{c:List Rat}{n:Nat}(hn:n<c.length)(hl:c.length<=1000)(hr:∀x∈c,rl x<=1000000):∀x∈qK c n,rl x<=1000000000:=by
 intro x hx;simp only[qK,fB,List.mem_range]at hx;obtain⟨i,hi,rfl⟩:=hx;have h1:=du ((i+1:Nat):Rat) (c.getD (i+1) 0);have h2:rl ((i+1:Nat):Rat)<=1:=aal (n:=((i+1:Nat):Int)) aa;have h3:=hr _ (df (show i+1<c.length by omega));omega
def pX(c:List Rat):List Rat:=ew (qK c (c.length-1))
namespace aiN
theorem aD{p q:Prop}(k:q)(e:p=q:=by simp only[bc,aZ,aW,aS,ej,dc,eq1,bF,cw,cd,cy,reduceIte,if_true,if_false,cS,LV.kill,a9];exact rfl):p:=e.mpr k
end aiN
open aiN in
theorem aAx(c:List Rat)(hl:c.length<=1000)(hr:∀x∈c,rl x<=900000)(hz:0<c.length->c.getD (c.length-1) 0≠0):ar ae 307 [.list 3 (c.map ab)] (.list 3 ((rQ c).map ab)):=by
 have zR:ar ae 138 [iL 1] (ab 1):=rS 1 an an;refine aE Tryz.func307 (ht:=(fun g=>LV.dF g _ (bN al 3 _))) ?_;have ej:True:=trivial;have eq1:True:=trivial;refine dk ?_;refine au rfl ?_ ?_<;>intro h7r h7
 ·have uX:c=[]:=by cases c with
   |nil=>rfl
   |cons a b=>simp at h7;omega
  refine aP ?_;subst uX;exact cm rfl (.nil 3)
 have dE:0<c.length:=aa;have ej:((c.length:Int)-1).toNat=c.length-1:=aa;have hlr:=hr _ (df (show c.length-1<c.length by omega));have pQ:rl (1:Rat)=1:=rfl;have hQ:=ze 1 (c.getD (c.length-1) 0) aa;rw[if_neg (hz dE)]at hQ;have hd:=ab9 1 (c.getD (c.length-1) 0);have hT:=amW c (1/c.getD (c.length-1) 0) hl (fun x hx=>by have:=hr x hx;omega) aa;refine bw ?_;refine ss 12 [10] bj ?_;refine cp bK (zR) ?_;refine aA ?_;refine aD ?_;refine cp aK (hQ) ?_;refine bC (hT) ?_;refine ay ?_;exact xq
namespace akd
theorem aD{p q:Prop}(k:q)(e:p=q:=by simp only[bc,aZ,aW,aS,dc,pG,tB,eN,dn0,bF,jW,dO,ff,eF,List.map_nil,gE,eX,cw,cd,cy,reduceIte,if_true,if_false,cS,LV.kill,a9];exact rfl):p:=e.mpr k
end akd
open akd in
theorem afj(c:List Rat)(hl:c.length<=1000)(hr:∀x∈c,rl x<=1000000):ar ae 239 [.list 3 (c.map ab)] (.list 3 ((pX c).map ab)):=by
 have dn0:qK c 0=[]:=rfl;refine aE Tryz.func239 (ht:=(fun g=>LV.dF g _ (bN al 3 _))) ?_;have eN:True:=trivial;refine jX ?_;refine kD (av.own (t:=3) 20 3 rfl rfl) ?_;refine da (fun(i:Nat) L=>(mS L [(20,⟨3,(qK c i).map ab,true⟩)] [(4,ak (i+1)),(3,.ref 20 3 0 (qK c i).length),(0,.list 3 (c.map ab))])) (fun i=>i<=c.length-1) (fun i=>c.length-i) 0 (bJ _) ?_;rintro i L1 hi;refine bx ?_;refine au rfl ?_ ?_<;>intro oS h8
 ·have dS:i+1<c.length:=aa;have hci:=hr _ (df dS);have hN:rl ((i+1:Nat):Rat)<=1:=aal (n:=((i+1:Nat):Int)) aa;have hIn:ar ae 138 [ak (i+1)] (ab ((i+1:Nat):Rat)):=rS ((i+1:Nat):Int) aa aa;have eN:=(ar2 c i).symm;have eNl:=abA c i;refine cO (hIn) ?_;refine bC (fo ((i+1:Nat):Rat) (c.getD (i+1) 0) aa) ?_;refine aT ?_;refine dH rfl (.app (d:=20) (news:=[ab (((i+1:Nat):Rat)*c.getD (i+1) 0)]) rfl rfl rfl rfl rfl az (.inl rfl) an oB oB jB bZ cs mG (.inl ⟨19,0,_,rfl,by decide,rfl,rfl,by simp,rfl,by simp[aN,al.pure]⟩) (by simp[abA];omega) (by simp[abA];omega) an) ?_;refine ay ?_;refine bX (av.kill _ 19) ?_;refine aT ?_;refine c9 ?_;exact mW
 have hil:i=c.length-1:=aa;have hC:=ahA (qK c i) (by rw[abA];omega) (by by_cases h9:i<c.length;exact auw h9 hl hr;intro x hx;rw[show i=0 by omega]at hx;cases hx);have eNl:=abA c i;refine bu ?_;refine zG [20] rfl rfl (.cons (eM al rfl rfl rfl) .nil) (hC) ?_;refine ay ?_;rw[pX,<-hil];exact nq [] rfl rfl (.pure (bN al _ _))
theorem aiT{l:List (Nat×aL)}{c:Nat}(h:∀x∈l.map (·.1),x≠c):hp l c=none:=by
 induction l with
 |nil=>rfl
 |cons q t ih =>
  obtain⟨d,y⟩:=q;have e:mO c d=false:=by
   rw[<-yO,sR];exact fun e=>h d az e.symm
  simp only[hp,e,cond_false];exact ih fun x hx=>h x (by simp only[jh,fJ];exact .inr hx)
theorem amZ{P:Program}{f:FuncId}{blk blk':aL}{args:List LV}{r:LV}(h:jt P f blk args r blk'):abt P f blk args r blk' []:=by
 have e:zq blk' []=re blk':=by
  funext n;unfold zq re;split<;>simp
 unfold abt;rw[e];exact h
theorem akF{a b:Nat}(h:b<=a)(h2:a<=9223372036854775807):cj .sub .i64 (a:Nat) (b:Nat)=some (.int .i64 ((a-b:Nat):Int)):=by
 rw[o5 aa aa];congr 2;omega
def sD(w d:List Rat)(k:Nat)(f:Rat):Nat->List Rat
 |0=>w
 |i+1=>(sD w d k f i).set (k+i) (w.getD (k+i) 0-f*d.getD i 0)
theorem afW(w d:List Rat)(k:Nat)(f:Rat):∀i,(sD w d k f i).length=w.length
 |0=>rfl
 |i+1=>by rw[sD,afP,afW w d k f i]
theorem aoJ(w d:List Rat)(k:Nat)(f:Rat):∀i j,k+i<=j->(sD w d k f i).getD j 0=w.getD j 0
 |0,j,_=>rfl
 |i+1,j,h=>by rw[sD,bf,List.getElem?_set_ne aa,<-bf,aoJ w d k f i j aa]
theorem akw{w d:List Rat}{k:Nat}{f:Rat}{R:Nat}(hw:∀x∈w,rl x<=R):∀i,(∀j,j<i->rl (w.getD (k+j) 0-f*d.getD j 0)<=R)->∀x∈sD w d k f i,rl x<=R
 |0,_,x,hx=>hw x hx
 |i+1,h,x,hx=>by
   rw[sD]at hx;rcases abX hx with h1|h1
   ·exact akw hw i (fun j hj=>h j aa) x h1
   rw[h1];exact h i aa
def nE(d w:List Rat)(n m:Nat):Rat:=w.getD (m-1) 0/d.getD n 0
def oA(d w:List Rat)(n m:Nat):List Rat:=sD w d (m-1-n) (nE d w n m) n
def qW(d:List Rat)(n:Nat):Nat->List Rat->Nat->List Rat->List Rat×Nat×List Rat
 |0,w,m,q=>(w,m,q)
 |e+1,w,m,q=>if n<m then qW d n e (oA d w n m) (iu (oA d w n m) (m-1)) (q.set (m-1-n) (nE d w n m))else(w,m,q)
def vJ(d:List Rat)(n:Nat):Nat->List Rat->Nat->Bool
 |0,_,m=>decide (m<=n)
 |e+1,w,m=>w.all (fun x=>decide (rl x<=1000))&&(if n<m then vJ d n e (oA d w n m) (iu (oA d w n m) (m-1))else true)
theorem avL{d:List Rat}{n e m:Nat}{w q:List Rat}(h:¬n<m):qW d n e w m q=(w,m,q):=by
 cases e with
 |zero=>rfl
 |succ e=>rw[qW,if_neg h]
theorem au3{d:List Rat}{n e m:Nat}{w:List Rat}(h:n<m)(hk:vJ d n e w m=true):∃e',e=e'+1/\(∀x∈w,rl x<=1000)/\vJ d n e' (oA d w n m) (iu (oA d w n m) (m-1))=true:=by
 cases e with
 |zero=>rw[vJ]at hk;have:=of_decide_eq_true hk;omega
 |succ e' =>
  rw[vJ,if_pos h,cY,mg]at hk;exact⟨e',rfl,fun x hx=>of_decide_eq_true (hk.1 x hx),hk.2⟩
theorem ay6{L:St}{bs:List Nat}{b len:Nat}{l:List Rat}{m:Bool}(hb:L.heap b=some ⟨3,l.map ab,m⟩)(o9:bs.contains b=true)(hl:len<=l.length):bR (L.bo bs).heap (.ref b 3 0 len) (.list 3 ((l.take len).map ab)):=by
 have:=bR.ref (H:=(L.bo bs).heap) (b:=b) (off:=0) (len:=len) (blk:=⟨3,l.map ab,m&&!bs.contains b⟩) (by show (L.heap b).map _=_;rw[hb];rfl) rfl (bS al _) (by simpa using hl) (by rw[o9];cases m<;>rfl);simpa only[gX,pU]using this
theorem ay8{α:Type}(f:α->LV)(l:List α)(n:Nat):zP n (l.map f)=(l.take n).map f:=pU.symm
namespace aqJ
theorem aD{p q:Prop}(k:q)(e:p=q:=by simp only[bc,aZ,aW,aS,dc,pG,tB,ay8,edl,esb,edt,Nat.zero_add,List.drop_zero,bF,cw,cd,cy,reduceIte,if_true,if_false,cS,LV.kill,a9];exact rfl):p:=e.mpr k
end aqJ
open aqJ in
theorem att(c d:List Rat)(gu:0<d.length)(qj:d.length<=c.length)(hl:c.length<=100)(ec:∀x∈d,rl x<=1000)(rH:d.getD (d.length-1) 0≠0)(kF:vJ d (d.length-1) c.length c c.length=true):ar ae 303 [.list 3 (c.map ab),.list 3 (d.map ab)] (.aQ [.list 3 ((ew (qW d (d.length-1) c.length c c.length (aJ (c.length-(d.length-1)) 0)).2.2).map ab),.list 3 (((qW d (d.length-1) c.length c c.length (aJ (c.length-(d.length-1)) 0)).1.take (qW d (d.length-1) c.length c c.length (aJ (c.length-(d.length-1)) 0)).2.1).map ab)]):=by
 refine aE Tryz.func303 (ht:=(lf (bN al _ _) (bN al _ _))) ?_;have edl:True:=trivial;have esb:True:=trivial;have edt:True:=trivial;refine bx ?_;refine xG [] rfl rfl (.cons dv .nil) (ayA c aa aa) (bS al _) rfl ?_;refine aP ?_;refine kz ?_;refine bp ?_;refine au rfl ?_ ?_<;>intro w6 xF
 ·refine ay ?_;refine ai rfl (.bin rfl rfl (akF aa aa)) ?_;refine eD rfl rfl (.gC (n:=(c.length-(d.length-1))) (m:=(c.length-(d.length-1))) ml ml om om om) ?_;refine aV ?_;refine lp4 (fun(e:Nat) (w:List Rat) (m:Nat) (q:List Rat) L=>(mS L [(1000209,⟨3,w.map ab,true⟩),(25,⟨3,q.map ab,true⟩)] [(6,ak (d.length-1)),(5,.ref 1000209 3 0 m),(4,.ref 25 3 0 (c.length-(d.length-1))),(1,.list 3 (d.map ab))])) (fun e w m q=>w.length=c.length/\q.length=(c.length-(d.length-1))/\m<=c.length/\vJ d (d.length-1) e w m=true/\qW d (d.length-1) e w m q=qW d (d.length-1) c.length c c.length (aJ (c.length-(d.length-1)) 0)/\∀x∈q,rl x<=1000000000) (fun e w m q=>m) c.length c c.length (aJ (c.length-(d.length-1)) 0) ⟨rfl,by simp,bA _,kF,rfl,fun x hx=>by rw[List.eq_of_mem_replicate hx];decide⟩ ?_;rintro e w m q L1 ⟨hw,hq,hm,hk,hS,hqr⟩;refine bx ?_;refine au rfl ?_ ?_<;>intro tw ri
  ·have iz:(d.length-1)<m:=aa;obtain⟨e',rfl,hwr,jG⟩:=au3 iz hk;rw[qW,if_pos iz]at hS;have hS':=hS;have fO:(oA d w (d.length-1) m).length=w.length:=afW ..;have ha:=hwr _ (df (show m-1<w.length by omega));have hb:=ec _ (df (show (d.length-1)<d.length by omega));have hQ:=ze (w.getD (m-1) 0) (d.getD (d.length-1) 0) aa;rw[if_neg rH]at hQ;have hf:=ab9 (w.getD (m-1) 0) (d.getD (d.length-1) 0);have cJ:rl (nE d w (d.length-1) m)<=2000:=by unfold nE;omega
   have dz:∀x∈(oA d w (d.length-1) m),rl x<=1000000000:=akw (fun x hx=>by have:=hwr x hx;omega) _ (fun j hj=>by
    have h1:=hwr _ (df (show (m-1-(d.length-1))+j<w.length by omega));have h2:=ec _ (df (show j<d.length by omega));have h3:=du (nE d w (d.length-1) m) (d.getD j 0);have h4:=kW (w.getD ((m-1-(d.length-1))+j) 0) ((nE d w (d.length-1) m)*d.getD j 0);omega)
   have edl:(d.take (d.length-1)).length=(d.length-1):=by rw[eE];omega
   refine aP ?_;refine kz ?_;refine aT ?_;refine ai rfl (.bin rfl rfl (akF aa aa)) ?_;refine ay ?_;refine ss 15 [13] bj ?_;refine bw ?_;refine kz ?_;refine aA ?_;refine aD ?_;refine cp aK (hQ) ?_;refine aip ?_;refine ai rfl (by first|exact .adg (h:=(d.length-1)) al rfl oB bZ rfl om|exact .vV rfl oB bZ rfl om om) ?_;refine aV ?_;refine da (fun(i:Nat) L=>(mS L [(1000209,⟨3,(sD w d (m-1-(d.length-1)) (nE d w (d.length-1) m) i).map ab,true⟩),(25,⟨3,(q.set (m-1-(d.length-1)) (nE d w (d.length-1) m)).map ab,true⟩),(8,⟨3,[ab (nE d w (d.length-1) m)],true⟩)] [(57,ak i),(56,ak (d.length-1)),(55,.list 3 ((d.take (d.length-1)).map ab)),(36,.ref 1000209 3 0 m),(8,.ax 8 3 0 0),(7,ak (m-1-(d.length-1))),(6,ak (d.length-1)),(5,.ref 1000209 3 0 m),(4,.ref 25 3 0 (c.length-(d.length-1))),(1,.list 3 (d.map ab))])) (fun i=>i<=(d.length-1)) (fun i=>(d.length-1)-i) 0 (bJ _) ?_;rintro i L2 hi;refine aA ?_;refine au rfl ?_ ?_<;>intro tj ta
   ·have dS:i<(d.length-1):=aa;have edt:(d.take (d.length-1)).getD i 0=d.getD i 0:=aji dS;have esb:(sD w d (m-1-(d.length-1)) (nE d w (d.length-1) m) i).getD ((m-1-(d.length-1))+i) 0=w.getD ((m-1-(d.length-1))+i) 0:=aoJ _ _ _ _ _ _ (bA _);have hdi:=ec _ (df (show i<d.length by omega));have hwi:=hwr _ (df (show (m-1-(d.length-1))+i<w.length by omega));have jc:=afW w d (m-1-(d.length-1)) (nE d w (d.length-1) m) i;have g1:=du (nE d w (d.length-1) m) (d.getD i 0);refine qP ?_;refine ai rfl (.bin rfl rfl (abg aa)) ?_;refine bw ?_;refine ai rfl (.bin rfl rfl (abg aa)) ?_;refine ay ?_;refine aD ?_;refine cp aK (fo (nE d w (d.length-1) m) (d.getD i 0) aa) ?_;refine cp aK (ot (w.getD ((m-1-(d.length-1))+i) 0) ((nE d w (d.length-1) m)*d.getD i 0) aa) ?_;refine aT ?_;refine aD ?_;refine ay ?_;refine bX (av.kill _ 11) ?_;refine c9 ?_;exact mW
   obtain rfl:i=(d.length-1):=aa;refine aV ?_;refine ah6 5 (av.kill _ 8) ?_;simp only[sr,xa];refine bw ?_;refine kz ?_;refine ai rfl (.vV rfl oB bZ rfl om om) ?_;refine aD ?_;refine abS rfl (asP (ys:=[.tmp 36]) (blk:=⟨3,(oA d w (d.length-1) m).map ab,true⟩) 83 rfl rfl rfl (bS al _) (.cons .ref .nil) (.ref aa) (amZ (ax2 (oA d w (d.length-1) m) (m-1) (by rw[fO];omega) (by rw[fO];omega) dz)) (bS al _) an (fun kk pf=>aiT (by intro x hx;simp only[jh,nK,fJ,jN,or_false]at hx;unfold cQ;omega))) ?_;simp only[aap,gX];refine ay ?_;exact nx4 e' (oA d w (d.length-1) m) (iu (oA d w (d.length-1) m) (m-1)) (q.set (m-1-(d.length-1)) (nE d w (d.length-1) m)) ⟨by rw[fO,hw],by simp[hq],by have:=adO (oA d w (d.length-1) m) (m-1);omega,jG,hS',fun x hx=>by rcases abX hx with h9|h9;exact hqr x h9;rw[h9];omega⟩ (hm:=by have:=adO (oA d w (d.length-1) m) (m-1);omega)
  have hE:=avL (d:=d) (e:=e) (w:=w) (q:=q) (show ¬(d.length-1)<m by omega);rw[hE]at hS;refine bu ?_;refine zG [25] rfl rfl (.cons (eM al rfl rfl hq.symm) .nil) (ahA q aa hqr) ?_;refine aA ?_;rw[<-hS];exact ajt [1000209] rfl rfl (.pure (bN al _ _)) rfl (ay6 rfl rfl (by show m<=w.length;omega))
 omega
def kf(c d:List Rat):List Rat×List Rat :=
 (ew (qW d (d.length-1) c.length c c.length (aJ (c.length-(d.length-1)) 0)).2.2,(qW d (d.length-1) c.length c c.length (aJ (c.length-(d.length-1)) 0)).1.take (qW d (d.length-1) c.length c c.length (aJ (c.length-(d.length-1)) 0)).2.1)
def vK(c:List Rat)(R:Nat):Bool:=c.all fun x=>decide (rl x<=R)
theorem u5{c:List Rat}{R:Nat}(h:vK c R=true):∀x∈c,rl x<=R:=fun x hx=>of_decide_eq_true (mg.1 h x hx)
def xg(c d:List Rat):Bool:=decide (0<d.length/\d.length<=c.length/\c.length<=100/\d.getD (d.length-1) 0≠0)&&(vK d 1000&&vJ d (d.length-1) c.length c c.length)
theorem aeS(c d:List Rat)(h:xg c d=true):ar ae 303 [.list 3 (c.map ab),.list 3 (d.map ab)] (.aQ [.list 3 ((kf c d).1.map ab),.list 3 ((kf c d).2.map ab)]):=by
 rw[xg,cY,cY]at h;obtain⟨h1,h2,h3⟩:=h;obtain⟨g1,g2,g3,g4⟩:=of_decide_eq_true h1;exact att c d g1 g2 g3 (u5 h2) g4 h3
def vz(c:List Rat):Bool:=decide (c.length<=100/\(c.length=0\/c.getD (c.length-1) 0≠0))&&vK c 100000
theorem agT(c:List Rat)(h:vz c=true):ar ae 307 [.list 3 (c.map ab)] (.list 3 ((rQ c).map ab)):=by
 rw[vz,cY]at h;obtain⟨h1,h2⟩:=of_decide_eq_true h.1;refine aAx c aa (fun x hx=>by have:=u5 h.2 x hx;omega) fun h0=>?_;rcases h2 with h2|h2
 ·omega
 exact h2
def o4:Nat->List Rat->List Rat->List Rat
 |0,a,_=>rQ a
 |e+1,a,b=>if b.length=0 then rQ a else o4 e b (rQ (kf a b).2)
def rG:Nat->List Rat->List Rat->Bool
 |0,a,b=>decide (b.length=0)&&vz a
 |e+1,a,b=>if b.length=0 then vz a else xg a b&&(vz (kf a b).2&&rG e b (rQ (kf a b).2))
theorem ayq{e:Nat}{a b:List Rat}(hb:0<b.length)(h:rG e a b=true):∃e',e=e'+1/\xg a b=true/\vz (kf a b).2=true/\rG e' b (rQ (kf a b).2)=true/\o4 e a b=o4 e' b (rQ (kf a b).2):=by
 cases e with
 |zero=>rw[rG,cY]at h;have:=of_decide_eq_true h.1;omega
 |succ e =>
  rw[rG,if_neg aa,cY,cY]at h;exact⟨e,rfl,h.1,h.2.1,h.2.2,by rw[o4,if_neg aa]⟩
theorem aze{e:Nat}{a b:List Rat}(hb:b.length=0)(h:rG e a b=true):vz a=true/\o4 e a b=rQ a:=by
 cases e with
 |zero=>rw[rG,cY]at h;exact⟨h.2,rfl⟩
 |succ e=>rw[rG,if_pos hb]at h;exact⟨h,by rw[o4,if_pos hb]⟩
open zB in
theorem aiL(e0:Nat)(a0 b0:List Rat)(h0:rG e0 a0 b0=true):ar ae 238 [.list 3 (a0.map ab),.list 3 (b0.map ab)] (.list 3 ((o4 e0 a0 b0).map ab)):=by
 refine aE Tryz.func238 (ht:=(fun g=>LV.dF g _ (bN al 3 _))) ?_;refine aP ?_;refine ow (fun(e:Nat) (a b:List Rat) L=>(mS L [] [(1,.list 3 (b.map ab)),(0,.list 3 (a.map ab))])) (fun e a b=>rG e a b=true/\o4 e a b=o4 e0 a0 b0) (fun e a b=>e) e0 a0 b0 ⟨h0,rfl⟩ ?_;rintro e a b L1 ⟨hk,hS⟩;refine bu ?_;refine au rfl ?_ ?_<;>intro sB h9
 ·obtain⟨e',rfl,hd,hm,jG,hS'⟩:=ayq aa hk;have hD:=aeS a b hd;have hM:=agT _ hm;refine bC (hD) ?_;refine cO (hM) ?_;refine aV ?_;exact nN e' b (rQ (kf a b).2) ⟨jG,by rw[<-hS',hS]⟩
 obtain⟨hm,hE⟩:=aze aa hk;have hM:=agT a hm;rw[hE]at hS;refine cO (hM) ?_;refine ay ?_;rw[<-hS];exact xq
def mT(c:List Rat):List Rat:=rQ (kf c (o4 c.length c (pX c))).1
def yL(c:List Rat):Bool:=decide (0<c.length/\c.length<=100)&&(vK c 900000&&(rG c.length c (pX c)&&(xg c (o4 c.length c (pX c))&&vz (kf c (o4 c.length c (pX c))).1)))
open zB in
theorem auj(c:List Rat)(h:yL c=true):ar ae 302 [.list 3 (c.map ab)] (.list 3 ((mT c).map ab)):=by
 rw[yL,cY,cY,cY,cY]at h;obtain⟨h1,h2,h3,h4,h5⟩:=h;obtain⟨g1,g2⟩:=of_decide_eq_true h1;have sV:=afj c aa (fun x hx=>by have:=u5 h2 x hx;omega);have hG:=aiL c.length c (pX c) h3;have hD:=aeS c _ h4;have hM:=agT _ h5;refine aE Tryz.func302 (ht:=(fun g=>LV.dF g _ (bN al 3 _))) ?_;refine dk ?_;refine au rfl ?_ ?_<;>intro h7r h7
 ·omega
 refine cO (sV) ?_;refine cp aK (hG) ?_;refine cp aK (hD) ?_;refine cO (hM) ?_;refine ay ?_;rw[mT];exact xq
def ofK(p:List Rat):Bool:=decide (0<p.length/\p.length<=25)&&(p.all (fun x=>decide ((rl x+1)*2^p.length<=1073741824))&&vK (eR p) 1000000000)
open zB in
theorem asF(p:List Rat)(h:ofK p=true):ar ae 231 [.list 3 (p.map ab)] (.list 3 ((ew (eR p)).map ab)):=by
 rw[ofK,cY,cY]at h;obtain⟨h1,h2,h3⟩:=h;obtain⟨g1,g2⟩:=of_decide_eq_true h1;have hT:=atr p g1 g2 (fun x hx=>of_decide_eq_true (mg.1 h2 x hx));have hC:=ahA (eR p) (by rw[ad4];omega) (u5 h3);refine aE Tryz.func231 (ht:=(fun g=>LV.dF g _ (bN al 3 _))) ?_;refine cO (hT) ?_;refine cp bK (hC) ?_;refine ay ?_;exact xq
def dY(l:List Rat):LV:=.list 3 (l.map ab)
theorem gW:fe dY 1 false:=⟨fun _=>rfl,fun _=>rfl,fun p=>bN al 3 p⟩
theorem plZ:ck ae 276 (dY []):=⟨Tryz.t276,_,by kernel_rfl,rfl,rfl,fun _ _ _=>aeN 3⟩
instance:EC ae 276 dY 1 false []:=⟨gW,plZ,apz⟩
theorem xQ(l:List Rat)(b:Nat):(dY l).kill b=dY l:=LV.kM b _ (gW.pure l)
theorem dfR:(default:List Rat)=[]:=rfl
theorem arR{L:St}{b b' sz:Nat}{vals:List LV}(hb:b≠0)(l6:b'≠0)(aG:b≠b')(hv:aN vals=true)(hL:L.heap=hp [(b,⟨sz,vals,true⟩)]):
  av L ⟨fun t=>((L.slot t).kill b').bl (gj b b'),hp [(b',⟨sz,vals,true⟩)]⟩:=by
 refine(av.aAI (b:=b) (b':=b') hL hb l6 aG).trans (av.of_eq ?_);simp only[St.mk.injEq,true_and];have e:mO b b'=false:=by rw[<-yO,sR];exact aG
 simp only[kI,e,cond_false,jh,nK,acP b' _ hv,vp _ _ hv,gj,if_true]
theorem ajU{F:Nat->LV}{H0:bn}{h:List (Nat×aL)}:∀(sl:List (Nat×LV)),(∀p∈sl,F p.1=p.2)->mS ⟨F,H0⟩ h sl=⟨F,hp h⟩
 | [],_=>rfl
 |(t,x)::r,e=>by
   rw[ms2,ajU r fun p h=>e p (List.mem_cons_of_mem _ h)];have:=e (t,x) (List.mem_cons_self ..);simp only[St.put,St.mk.injEq,and_true];funext k
   cases hk:k.beq t with
   |true=>rw[sR]at hk;subst hk;exact this.symm
   |false=>rfl
theorem ayR{L:St}{b b' sz:Nat}{vals:List LV}(sl:List (Nat×LV))(hb:b≠0)(l6:b'≠0)(aG:b≠b')(hv:aN vals=true)(hL:L.heap=hp [(b,⟨sz,vals,true⟩)])(h:∀p∈sl,((L.slot p.1).kill b').bl (gj b b')=p.2):
  av L (mS ⟨fun t=>((L.slot t).kill b').bl (gj b b'),fun _=>none⟩ [(b',⟨sz,vals,true⟩)] sl):=by
 rw[ajU sl h];exact arR hb l6 aG hv hL
theorem pvS{x:LV}{f:Nat->Nat}{b:Nat}(h:x.pure=true):(x.kill b).bl f=x:=by rw[LV.kM _ _ h,LV.dF _ _ h]
theorem fa1{P:Nat×LV->Prop}{a:Nat×LV}{l:List (Nat×LV)}(h:P a)(t:∀p∈l,P p):∀p∈a::l,P p:=afg.2 ⟨h,t⟩
theorem fa0{P:Nat×LV->Prop}:∀p∈([]:List (Nat×LV)),P p:=fun _ h=>by cases h
def wh:Nat->List Rat->List Rat->List (List Rat)
 |0,_,_=>[]
 |e+1,a,b=>if b.length=0 then []else b::wh e b (nW (-1) (kf a b).2)
def xz:Nat->List Rat->List Rat->Bool
 |0,_,b=>decide (b.length=0)
 |e+1,a,b=>if b.length=0 then true else xg a b&&(decide ((kf a b).2.length<=1000)&&vK (kf a b).2 1000000&&xz e b (nW (-1) (kf a b).2))
theorem asy{e:Nat}{a b:List Rat}(hb:0<b.length)(h:xz e a b=true):∃e',e=e'+1/\xg a b=true/\(kf a b).2.length<=1000/\(∀x∈(kf a b).2,rl x<=1000000)/\xz e' b (nW (-1) (kf a b).2)=true/\wh e a b=b::wh e' b (nW (-1) (kf a b).2):=by
 cases e with
 |zero=>rw[xz]at h;have:=of_decide_eq_true h;omega
 |succ e =>
  rw[xz,if_neg aa,cY,cY,cY]at h;exact⟨e,rfl,h.1,of_decide_eq_true h.2.1.1,u5 h.2.1.2,h.2.2,by rw[wh,if_neg aa]⟩
theorem axp{e:Nat}{a b:List Rat}(hb:b.length=0):wh e a b=[]:=by
 cases e with
 |zero=>rfl
 |succ e=>rw[wh,if_pos hb]
def ky(c:List Rat):List (List Rat):=mT c::wh c.length (mT c) (pX (mT c))
def suK(c:List Rat):Bool:=yL c&&(decide ((mT c).length<=100)&&(vK (mT c) 1000000&&xz c.length (mT c) (pX (mT c))))
namespace akq
theorem aD{p q:Prop}(k:q)(e:p=q:=by simp only[bc,aZ,aW,aS,pG,tB,eA,eL,List.length_append,dO,ff,jW,dO,ff,eF,List.map_nil,gE,eX,xQ,cT gW,dfR,bF,cw,cd,cy,reduceIte,if_true,if_false,cS,LV.kill,a9];exact rfl):p:=e.mpr k
end akq
open akq in
theorem asE(c:List Rat)(h:suK c=true):ar ae 232 [.list 3 (c.map ab)] (.list 1 ((ky c).map dY)):=by
 rw[suK,cY,cY,cY]at h;obtain⟨h1,h2,h3,h4⟩:=h;have g2:=of_decide_eq_true h2;have wA:=auj c h1;have sV:=afj (mT c) aa (u5 h3);have aBM:c.length<=100:=by rw[yL,cY]at h1;exact(of_decide_eq_true h1.1).2
 have hIn:ar ae 138 [iL (-1)] (ab (-1)):=rS (-1) an an;refine aE Tryz.func232 (ht:=(fun g=>LV.dF g _ (bN gW 1 _))) ?_;have eA:True:=trivial;have eL:True:=trivial;refine cO (wA) ?_;refine cO (sV) ?_;refine ay ?_;refine kD (ayR (b:=11) (b':=20) [(5,.list 3 ((pX (mT c)).map ab)),(4,.ref 20 1 0 1),(3,.list 3 ((mT c).map ab))] an an an (bS gW [mT c]) rfl (fa1 (pvS (bN al _ _)) (fa1 rfl (fa1 (pvS (bN al _ _)) fa0)))) ?_;refine lp4 (fun(e:Nat) (a b:List Rat) (out:List (List Rat)) L=>(mS L [(20,⟨1,out.map dY,true⟩)] [(5,.list 3 (b.map ab)),(4,.ref 20 1 0 out.length),(3,.list 3 (a.map ab))])) (fun e a b out=>xz e a b=true/\out++wh e a b=ky c/\out.length+e<=101) (fun e a b out=>e) c.length (mT c) (pX (mT c)) ([mT c]) ⟨h4,rfl,by simp;omega⟩ ?_;rintro e a b out L1 ⟨hk,hS,cf⟩;refine bu ?_;refine au rfl ?_ ?_<;>intro nn jJ
 ·obtain⟨e',rfl,hd,qO,xh,jG,hS'⟩:=asy aa hk;have hD:=aeS a b hd;have hM:=amW (kf a b).2 (-1) qO xh an;have eA:out.map dY++[dY b]=(out++[b]).map dY:=az;have eL:(out++[b]).length=out.length+1:=az;refine bu ?_;refine dH rfl (.app (d:=20) (news:=[dY b]) rfl rfl rfl rfl rfl az (.inl rfl) an aaP aaP azN apz rfl aAc (.inl ⟨19,0,_,rfl,by decide,rfl,rfl,by simp,rfl,bS gW [b]⟩) bm bm an) ?_;refine ay ?_;refine bX (av.kill _ 19) ?_;refine bC (hD) ?_;refine cO (hIn) ?_;refine cp aK (hM) ?_;refine aV ?_;exact nx4 e' b (nW (-1) (kf a b).2) (out++[b]) ⟨jG,by rw[wC,List.singleton_append,<-hS',hS],by simp;omega⟩
 rw[axp (e:=e) (a:=a) (b:=b) aa,eX]at hS;refine bp ?_;rw[<-hS];exact nq [20] rfl rfl (eM gW rfl rfl rfl)
theorem aih{s:List (List Rat)}{j:Nat}(h:j<s.length):s.getD j []∈s:=by
 rw[bf,bO h];exact rA h
theorem aur:rl (0:Rat)=1:=an
theorem ao1{c:List Rat}{t:Rat}{R:Nat}(hc:∀x∈c,rl x<=R)(hR:1<=R)(ht:rl t<=R):∀(pre:List Nat),rl (kA c t pre)<=1+pre.length*(2*R+1):=by
 intro pre;have hg:∀k,rl (c.getD k 0)<=R:=fun k=>by
  by_cases h:k<c.length
  ·exact hc _ (df h)
  rw[bf,List.getElem?_eq_none aa];exact hR
 have:∀(pre:List Nat) (o:Rat),rl (pre.foldl (fun o k=>o*t+c.getD (c.length-1-k) 0) o)<=rl o+pre.length*(2*R+1):=by
  intro pre
  induction pre with
  |nil=>intro o;simp
  |cons x l ih =>
   intro o;have h1:=ih (o*t+c.getD (c.length-1-x) 0);have h2:=du o t;have h3:=ks (o*t) (c.getD (c.length-1-x) 0);have h4:=hg (c.length-1-x);simp only[List.foldl_cons,dO,Nat.succ_mul,ep,vI]at h1 ⊢;omega
 have:=this pre 0;rw[aur]at this;exact this
def mX(c:List Rat)(t:Rat):Rat:=kA c t (eH c.length)
theorem ahF(c:List Rat)(t:Rat)(R:Nat)(h0:0<c.length)(hl:c.length<=100)(hc:∀x∈c,rl x<=R)(ht:rl t<=R)(h1:1<=R)(hR:R<=1000000):ar ae 234 [.list 3 (c.map ab),ab t] (ab (mX c t)):=by
 have hb:∀pre:List Nat,pre.length<c.length->rl (kA c t pre)<=300000000:=fun pre hp=>by
  have:=ao1 hc h1 ht pre;have h2:pre.length*(2*R+1)<=99*2000001:=rF aa aa;omega
 refine azM c t h0 aa (fun pre hp=>fo _ _ (by have:=hb pre hp;omega)) (fun pre x hp=>?_);rw[arU];have h3:=du (kA c t pre) t;have h4:rl (c.getD (c.length-1-x) 0)<=R:=hc _ (df aa);exact gY _ _ (by have:=hb pre hp;omega)
theorem ahd{c:List Rat}{t:Rat}{R:Nat}(hl:c.length<=100)(hc:∀x∈c,rl x<=R)(ht:rl t<=R)(h1:1<=R)(hR:R<=1000000):rl (mX c t)<=300000000:=by
 have:=ao1 hc h1 ht (eH c.length);rw[ajZ]at this;have h2:c.length*(2*R+1)<=100*2000001:=rF aa aa;exact bW this aa
def yd(s:List (List Rat)):Bool:=decide (0<s.length/\s.length<=100)&&s.all fun c=>decide (0<c.length/\c.length<=100)&&vK c 100000
theorem ahe{s:List (List Rat)}(h:yd s=true):0<s.length/\s.length<=100/\∀c∈s,0<c.length/\c.length<=100/\∀x∈c,rl x<=100000:=by
 rw[yd,cY]at h;obtain⟨h1,h2⟩:=of_decide_eq_true h.1;refine⟨h1,h2,fun c hc=>?_⟩;have:=mg.1 h.2 c hc;rw[cY]at this;obtain⟨g1,g2⟩:=of_decide_eq_true this.1;exact⟨g1,g2,u5 this.2⟩
def fG(s:List (List Rat))(t:Rat):Nat->Int×Int
 |0=>(0,0)
 |j+1=>(if bY (mX (s.getD j []) t)=0 then(fG s t j).1 else bY (mX (s.getD j []) t),if bY (mX (s.getD j []) t)*(fG s t j).1<0 then(fG s t j).2+1 else(fG s t j).2)
theorem adF(s:List (List Rat))(t:Rat):∀j,(-1<=(fG s t j).1/\(fG s t j).1<=1)/\(0<=(fG s t j).2/\(fG s t j).2<=j)
 |0=>by simp[fG]
 |j+1=>by
   have ih:=adF s t j;have hs:=aeH (mX (s.getD j []) t);simp only[fG];refine⟨?_,?_⟩
   ·split
    ·exact ih.1
    exact hs
   split
   ·omega
   omega
def u9(s:List (List Rat))(t:Rat):Int:=(fG s t s.length).2
namespace ame
theorem aD{p q:Prop}(k:q)(e:p=q:=by simp only[bc,aZ,aW,aS,eN1,eN2,xQ,cT gW,dfR,bF,cw,cd,cy,reduceIte,if_true,if_false,cS,LV.kill,a9];exact rfl):p:=e.mpr k
end ame
open ame in
theorem ake(s:List (List Rat))(h:yd s=true)(t:Rat)(ht:rl t<=100000):ar ae 306 [.list 1 (s.map dY),ab t] (iL (u9 s t)):=by
 obtain⟨cG,fV,jq⟩:=ahe h;refine aE Tryz.func306 ?_;have eN1:True:=trivial;have eN2:True:=trivial;refine w9 ?_;refine da (fun(j:Nat) L=>(mS L [(3,⟨3,[ab t],true⟩)] [(12,ak j),(11,ak s.length),(10,.list 1 (s.map dY)),(6,iL (fG s t j).2),(5,iL (fG s t j).1),(3,.ax 3 3 0 0)])) (fun j=>j<=s.length) (fun j=>s.length-j) 0 (bJ _) ?_;rintro j L1 hj;refine aA ?_;refine au rfl ?_ ?_<;>intro tL sX
 ·have fA:j<s.length:=aa;obtain⟨g0,g1,g2⟩:=jq _ (aih fA);have hA:=ahF (s.getD j []) t 100000 g0 g1 g2 ht an an;have hv:=ahd g1 g2 ht an an;have rb:=adF s t j;have hm:=aeH (mX (s.getD j []) t);have hmm:-1<=(bY (mX (s.getD j []) t))*(fG s t j).1/\(bY (mX (s.getD j []) t))*(fG s t j).1<=1:=by rcases aei (mX (s.getD j []) t)with h9|h9|h9<;>rw[h9]<;>omega
  refine bC (hA) ?_;refine cp bK (mM _ aa) ?_;refine bu ?_;refine ai rfl abl ?_;refine bw ?_;refine au rfl ?_ ?_<;>intro mN mB
  ·have eN2:(fG s t j).2+1=(fG s t (j+1)).2:=by simp only[fG];rw[if_pos mB]
   refine aR ?_;refine ai rfl pn ?_;refine bx ?_;refine au rfl ?_ ?_<;>intro sf zu
   ·have eN1:(bY (mX (s.getD j []) t))=(fG s t (j+1)).1:=by simp only[fG];rw[if_neg zu]
    refine aP ?_;refine c9 ?_;exact pR
   have eN1:(fG s t j).1=(fG s t (j+1)).1:=by simp only[fG];rw[if_pos aa]
   refine ay ?_;refine c9 ?_;exact pR
  have eN2:(fG s t j).2=(fG s t (j+1)).2:=by simp only[fG];rw[if_neg mB]
  refine bu ?_;refine au rfl ?_ ?_<;>intro sf zu
  ·have eN1:(bY (mX (s.getD j []) t))=(fG s t (j+1)).1:=by simp only[fG];rw[if_neg zu]
   refine aP ?_;refine c9 ?_;exact pR
  have eN1:(fG s t j).1=(fG s t (j+1)).1:=by simp only[fG];rw[if_pos aa]
  refine ay ?_;refine c9 ?_;exact pR
 obtain rfl:j=s.length:=aa;refine bp ?_;rw[u9];exact dg
def zw(s:List (List Rat))(a b:Rat):Int:=if ez a b>=0 then 0 else if bY (mX (s.getD 0 []) b)=0 then u9 s a-u9 s b-1 else u9 s a-u9 s b
namespace ae8
theorem aD{p q:Prop}(k:q)(e:p=q:=by simp only[bc,aZ,aW,aS,dfR,xQ,cT gW,dfR,bF,cw,cd,cy,reduceIte,if_true,if_false,cS,LV.kill,a9];exact rfl):p:=e.mpr k
end ae8
open ae8 in
theorem azC(s:List (List Rat))(h:yd s=true)(a b:Rat)(ha:rl a<=100000)(hb:rl b<=100000):ar ae 236 [.list 1 (s.map dY),ab a,ab b] (iL (zw s a b)):=by
 obtain⟨cG,fV,jq⟩:=ahe h;have hA:=ake s h a ha;have hB:=ake s h b hb;obtain⟨g0,g1,g2⟩:=jq _ (aih cG);have hV:=ahF (s.getD 0 []) b 100000 g0 g1 g2 hb an an;have hvr:=ahd g1 g2 hb an an;have hca:=(adF s a s.length).2;have il:=(adF s b s.length).2;have eva:u9 s a=(fG s a s.length).2:=rfl;have evb:u9 s b=(fG s b s.length).2:=rfl;refine aE Tryz.func236 ?_;refine bC (kL a b aa) ?_;refine bw ?_;refine au rfl ?_ ?_<;>intro aaA pQ
 ·refine aP ?_;rw[zw,if_pos pQ];exact dg
 refine aA ?_;refine cF rfl (.cons (.pure (bN gW 1 _)) (.cons dv .nil)) hA ?_;refine aR ?_;refine cF rfl (.cons (.pure (bN gW 1 _)) (.cons dv .nil)) hB ?_;refine ai rfl nv ?_;refine bC (hV) ?_;refine cp bK (mM _ aa) ?_;refine bw ?_;refine au rfl ?_ ?_<;>intro ad1 o6
 ·refine aR ?_;refine ai rfl nv ?_;refine cb ?_;rw[zw,if_neg pQ,if_pos o6];exact dg
 refine bx ?_;rw[zw,if_neg pQ,if_neg o6];exact dg
section
variable {D W na:Nat} {lk:vM} {x:iH} {st:List iH} {m:Nat} {cl:List yi}
end
end Go.Proofs.YtbgmjcnjbhhljaaGreat
namespace Go.Lg
theorem av.amd{L:St}(b:Nat)(bs:List Nat)(h0:bs.contains 0=false){sz:Nat}{x y:LV}{mt:Bool}(hb:(L.bo bs).heap b=some ⟨sz,[x],mt⟩)(hi:bR (L.bo bs).heap x y):av L ((L.bo bs).a5 b (some ⟨sz,[y],mt⟩)):=by
 rintro n W X Z0 a w ⟨cZ,a6,μ,Z,wG,hr⟩;obtain⟨Z',hc,hz⟩:=wG.tq (r8 bs h0);refine⟨cZ,a6,μ,Z',?_,fun s=>aC.mono hz (fun _ _ h=>h) (Frame.refl Z μ w) (hr s)⟩;have hs:∀c,((L.bo bs).a5 b (some ⟨sz,[y],mt⟩)).heap c=if c=b then some ⟨sz,[y],mt⟩else(L.bo bs).heap c:=fun c=>rfl
 refine⟨hc.bB,hc.iD,hc.fZ,hc.g9,hc.inj,hc.own,hc.x0,hc.kQ,hc.x1,fun c id blk g1 g2=>?_,fun c id blk g1 g2=>?_,fun c id g1=>?_⟩
 ·rw[hs]at g2;split at g2
  ·rename_i e;subst e;cases g2;exact hc.gL c id ⟨sz,[x],mt⟩ g1 hb
  exact hc.gL c id blk g1 g2
 ·rw[hs]at g2;split at g2
  ·rename_i e;subst e;cases g2;exact hc.bo c id ⟨sz,[x],mt⟩ g1 hb
  exact hc.bo c id blk g1 g2
 obtain⟨blk,k1,k2⟩:=hc.heap c id g1;rw[hs];by_cases e:c=b
 ·subst e;rw[if_pos rfl];rw[hb]at k1
  cases k1
  refine⟨_,rfl,?_⟩;obtain⟨cs,T,part,rest,e1,e2,e3⟩:=k2;refine⟨cs,T,part,rest,e1,e2,?_⟩;simp only[aw]at e3 ⊢;obtain⟨c1,c2,q1,q2,q3,q4⟩:=e3;exact⟨c1,c2,q1,q2,bR.sound (aF:=μ) hc hi q3,q4⟩
 rw[if_neg e];exact⟨blk,k1,k2⟩
end Go.Lg
namespace Go.Proofs.YtbgmjcnjbhhljaaGreat
open Go.Lg
theorem az9{P:Program}{ρ:Operand->LV}{T E:TypeId}{x:Operand}{d sz:Nat}{ag:Bool}{z v:LV}(hT:P.underlying T=some (.slice E))(hz:ck P E z)(hzc:z.aj=sz)(hza:z.isAgg=ag)(hE:aX P E sz ag)
  (hx:ρ x=v) (hvc:v.aj=sz) (hva:v.isAgg=ag) (hvp:v.pure=true) (hs:0<sz) (ee:sz<=1000):cH P ρ d (.buildSlice T 1 #[(0,x)]) (.ref d sz 0 1) ⟨sz,[v],true⟩:=by
 have:=cH.lit (P:=P) (ρ:=ρ) (d:=d) (T:=T) (n:=1) (ps:=#[(0,x)]) hT hz (by rw[hza];exact hE) hzc aa aa aa (by
  intro p hp;simp only[qk]at hp;subst hp;refine⟨by simp,?_,by rw[hx];exact LV.eg hvp,by rw[hx];exact LV.dV hvp⟩;simp[lay,hx,hvc,hva,hzc,hza])
 simpa[jf,hx,aJ]using this
theorem auP:aX ae 128 1 false:=⟨by kernel_rfl,_,Tryz.underlying128,rfl⟩
theorem avH:ck ae 128 (.v .nilFunc):=by exact zk (i:=Tryz.t128) gg rfl rfl rfl rfl
instance:TI ae 128 1 false:=⟨auP⟩
instance:ZI ae 128 (.v .nilFunc):=⟨avH⟩
theorem aAs:aX ae 281 1 false:=⟨by kernel_rfl,_,Tryz.underlying281,rfl⟩
theorem arE:ck ae 281 (.v .nilFunc):=by exact zk (i:=Tryz.t281) gg rfl rfl rfl rfl
instance:TI ae 281 1 false:=⟨aAs⟩
instance:ZI ae 281 (.v .nilFunc):=⟨arE⟩
theorem av.amz{L:St}{t b sz:Nat}{y:LV}{m ag:Bool}(h:L.slot t=.ax b sz 0 0)(hb:L.heap b=some ⟨sz,[y],m⟩)(hs:y.aj=sz)(ha:y.isAgg=ag)(hp:y.pure=true)(ru:y.at 0 sz ag=some y)(h0:b≠0:=by decide):av L ((L.put (some t) (.bg y)).kill b):=by
 have yr:([b]:List Nat).contains 0=false:=bm;have e1:=(av.bo [b] yr h (.ax (blk:=⟨sz,[y],m&&!([b]:List Nat).contains b⟩) (x:=y) (n:=sz) (ag:=ag) (by simp only[St.bo,hb,Option.map_some]) rfl rfl hs ru hp az)).trans (av.kill _ b h0);have e2:((L.bo [b]).put (some t) (.bg y)).kill b=(L.put (some t) (.bg y)).kill b:=by
  unfold St.kill;congr 1;funext c;rw[gD,gD];by_cases il:c=b
  ·simp[il]
  simp only[St.bo,if_neg il]
  cases L.heap c with
  |none=>rfl
  |some blk=>simp[il]
 rw[<-e2];exact e1
end Go.Proofs.YtbgmjcnjbhhljaaGreat
namespace Go.Lg
theorem az3{P:Program}{f:FuncId}{fn:Func}{c:Code}{args:List LV}{r:LV}{blk blk':aL}(fI:P.follows .mixedOrders=true)(hf:P.funcs[f]?=some fn)(hb:fn.body=some c)
  (hn:(fn.name== "runtime.NumGoroutine")=false) (hd:ig fn.ntmps c=true) (hlen:args.length<=fn.ntmps) (dW:blk.mt=true)
  (h:bM P c (fun e L=>match e with | .exit _=>False|_=>∃L1,av L L1/\qX P fn.results.toList L1 r blk') (sK args blk)):jt P f blk args r blk':=by
 refine⟨⟨fn,hf,by rw[hb];rfl,hn⟩,fun W Z0 vs i0 hz km iC hargs=>?_⟩;have rD:=xA _ _ hargs;refine calls_of_wp hf hb ?_;have dE:∀b id,jr i0 b=some id->b=0/\id=i0:=fun b id h=>by
  unfold jr at h;split at h
  ·cases h;exact⟨by assumption,rfl⟩
  cases h
 have bT:i0<W.heap.size:=by
  obtain⟨c,T,part,rest,h1,_⟩:=iC;exact(fY.1 h1).1
 have kR:dM fn.ntmps W (XS.one i0) Z0 (sK args blk) ⟨vs.toArray++nD (fn.ntmps-vs.toArray.size) undef,[]⟩ W:=by
  refine⟨rfl,by simp;omega,jr i0,Z0,⟨Kept.refl _ _,hz,fun _ h=>h,fun _ h=>.inl h,fun b b' id h h'=>(dE b id h).1.trans (dE b' id h').1.symm,fun b id h=>.inr (.inl (dE b id h).2),
   fun b id h _=>(dE b id h).1,fun id h=>by rw[XS.aik h];exact bT,fun id h=>by rw[show id=i0 from h];rfl,fun b id bk h _ _=>by rw[(dE b id h).2];exact km,
   fun b id bk h g hm=>?_,fun b id h=>?_⟩,fun t=>?_⟩
  ·obtain⟨rfl,rfl⟩:=dE b id h;simp only[sK,if_true]at g;cases g;rw[dW]at hm;cases hm
  ·obtain⟨rfl,rfl⟩:=dE b id h;exact⟨blk,rfl,iC⟩
  have e:vs.toArray++nD (fn.ntmps-vs.toArray.size) undef=(vs++aJ (fn.ntmps-vs.toArray.size) undef).toArray:=by apply Array.ext';simp
  show aC Z0 (jr i0) W ((tU args).slot t) ((vs.toArray++nD (fn.ntmps-vs.toArray.size) undef).getD t undef);rw[e];exact aeE args vs _ hargs t
 refine wp_mono (uH fI c _ _ _ _ kR h hd) fun e a w q=>?_;have main:∀L,qX P fn.results.toList L r blk'->dM fn.ntmps W (XS.one i0) Z0 L a w ->
   a.defers=[]/\∃v,(results fn a.tmps).run P w=.ok v w/\∃v' μ Z,Ending.returned v=.returned v'/\Core W (XS.one i0) Z0 μ Z (re blk') w/\aC Z μ w r v':=by
  rintro L ⟨xs,ys,H1,h1,h2,h3,h4,h5,h6,h7⟩ ⟨cZ,a6,μ,Z,hc,hr⟩;obtain⟨Z1,k1,k2⟩:=hc.tq h2;have h0:=k1.x1 i0 rfl;obtain⟨us,q1,q2⟩:=age hc hr k1 k2 h0 _ _ _ h1 h3;have abT:Core W (XS.one i0) Z0 (jr i0) Z1 (re blk') w:=by
   refine⟨k1.bB,k1.iD,k1.fZ,k1.g9,fun b b' id h h'=>(dE b id h).1.trans (dE b' id h').1.symm,fun b id h=>.inr (.inl (dE b id h).2),fun b id h _=>(dE b id h).1,k1.kQ,fun id h=>by rw[show id=i0 from h];rfl,?_,?_,?_⟩
   ·intro b id bk h g hm;obtain⟨rfl,rfl⟩:=dE b id h;exact k1.gL 0 id blk' h0 h4 h5
   ·intro b id bk h g hm;obtain⟨rfl,rfl⟩:=dE b id h;simp only[re,if_true]at g;cases g;rw[h5]at hm;cases hm
   intro b id h;obtain⟨rfl,rfl⟩:=dE b id h;obtain⟨bk,l1,cc,T,part,rest,l2,l3,l4⟩:=k1.heap 0 id h0;rw[h4]at l1;cases l1;exact⟨_,rfl,cc,T,part,rest,l2,l3,aw.fE (fun _ h=>h) (fun _ _=>rfl) _ _ _ h6 l4⟩
  have lV:(fn.results.mapM (vL a.tmps)).run P w=.ok us.toArray w:=by
   rw[Array.mapM_eq_mapM_toList,Sem.run_map,q1];rfl
  refine⟨cZ,(if h:us.toArray.size=1 then us.toArray[0]else .tuple us.toArray),?_,_,jr i0,Z1,rfl,abT,?_⟩
  ·rw[afs,Sem.run_bind,lV];rfl
  subst h7;have tO:=xA _ _ q2
  match ys,us,q2,tO with
  | [y],[u],q2,_ =>
   obtain⟨v,gV,e,g1,g2⟩:=q2;simp only[dq]at e;obtain⟨rfl,_⟩:=e;have hnt:∀l,y≠.aQ l:=fun l e=>by subst e;have:=g1.2 rfl;simp[ao]at this
   exact aC.nZ hnt g1
  | [],[],q2,_=>exact⟨_,rfl,by simpa using q2⟩
  |y::y'::ys,u::u'::us,q2,_ =>
   refine⟨(u::u'::us).toArray,by simp,by simpa using q2⟩
 cases e with
 |normal=>obtain⟨L,⟨L1,hw,q1⟩,q2⟩:=q;exact main L1 q1 (hw _ _ _ _ _ _ q2)
 |ret=>obtain⟨L,⟨L1,hw,q1⟩,q2⟩:=q;exact main L1 q1 (hw _ _ _ _ _ _ q2)
 |exit id=>obtain⟨L,q1,q2⟩:=q;exact q1.elim
 |_=>exact q.elim
end Go.Lg
namespace Go.Proofs.YtbgmjcnjbhhljaaGreat
open Go.Lg
theorem azP{f:FuncId}{fn:Func}{c:Code}{args:List LV}{r:LV}{blk blk':aL}(hf:ae.funcs[f]?=some fn)
  (h:bM ae c (fun e L=>match e with | .exit _=>False|_=>∃L1,av L L1/\qX ae fn.results.toList L1 r blk') (St.mk (fun t=>args.getD t .any) (hp [(0,blk)])))
  (hb:fn.body=some c:=by exact rfl) (hn:(fn.name== "runtime.NumGoroutine")=false:=by decide +kernel) (hd:ig fn.ntmps c=true:=by decide +kernel) (hlen:args.length<=fn.ntmps:=by exact Nat.le_of_ble_eq_true rfl) (dW:blk.mt=true:=by exact rfl):jt ae f blk args r blk':=by
 refine az3 fol hf hb hn hd hlen dW ?_;have:sK args blk=St.mk (fun t=>args.getD t .any) (hp [(0,blk)]):=by
  simp only[sK,St.mk.injEq,true_and];funext c;by_cases hc:c=0
  ·subst hc;rfl
  have e:mO c 0=false:=by rw[<-yO,sR];exact hc
  simp only[hp,e,cond_false,if_neg hc]
 rw[this];exact h
open ae8 in
theorem ajR(s:List (List Rat))(h:yd s=true)(t:Rat)(ht:rl t<=100000):ar ae 233 [ab t,(.bg (.list 1 (s.map dY)))] (bL (decide (bY (mX (s.getD 0 []) t)=0))):=by
 obtain⟨cG,fV,jq⟩:=ahe h;obtain⟨g0,g1,g2⟩:=jq _ (aih cG);have hV:=ahF (s.getD 0 []) t 100000 g0 g1 g2 ht an an;have hvr:=ahd g1 g2 ht an an;have hSp:(LV.list 1 (s.map dY)).pure=true:=bN gW 1 s;refine aE Tryz.func233 ?_;refine bu ?_;refine ai rfl (.jQ (c:=.list 1 (s.map dY)) rfl (bN gW 1 s) rfl rfl) ?_;refine bC (hV) ?_;refine cp bK (mM _ aa) ?_;refine aV ?_;exact dg
namespace alI
theorem aD{p q:Prop}(k:q)(e:p=q:=by simp only[bc,aZ,aW,aS,h1,xQ,cT gW,dfR,bF,cw,cd,cy,reduceIte,if_true,if_false,cS,LV.kill,a9];exact rfl):p:=e.mpr k
end alI
open alI in
theorem axE(s:List (List Rat))(h:yd s=true)(a b:Rat)(ha:rl a<=100000)(hb:rl b<=100000)(h1:zw s a b=1):jt ae 235 ⟨1,[.v (.slice none 0 0)],true⟩ [ab a,ab b,(.bg (.list 1 (s.map dY))),.ax 0 1 0 0,.any,.any] (.aQ []) ⟨1,[.list 6 ([(bU a b,bV a b)].map cP)],true⟩:=by
 have hB:=azC s h a b ha hb;have hSp:(LV.list 1 (s.map dY)).pure=true:=bN gW 1 s;have hSO:ar ae 141 [ab a,ab b] (cP (bU a b,bV a b)):=agA a b aa;refine azP Tryz.func235 ?_;refine bu ?_;refine ai rfl (.jQ (c:=.list 1 (s.map dY)) rfl (bN gW 1 s) rfl rfl) ?_;refine aR ?_;refine cF rfl (.cons (.pure (bN gW 1 _)) (.cons dv (.cons dv .nil))) hB ?_;refine bx ?_;refine au rfl ?_ ?_<;>intro yZ zH
 ·omega
 refine aA ?_;refine au rfl ?_ ?_<;>intro xV tc
 ·refine bC (hSO) ?_;refine aT ?_;refine dH rfl (.vE (d:=41) (news:=[cP (bU a b,bV a b)]) rfl rfl aaZ aaZ Z81 zx cs B81 (.inl ⟨40,0,_,rfl,rfl,rfl,by simp,rfl,by simp[aN,cB.pure]⟩) az az az an) ?_;refine bw ?_
  try refine aD ?_
  refine⟨_,av.amd 0 [41] rfl rfl (eM (l:=[(bU a b,bV a b)]) cB rfl rfl rfl),?_⟩;exact awV rfl rfl (by simp[aN,LV.pure,cB.pure])
 exact absurd trivial tc
theorem ajr(s:Rat×Rat):lay (cP s)=lay (.agg [ab 0,ab 0]):=by unfold lay;rw[cB.aj,cB.isAgg];simp[LV.aj,bI,al.aj,LV.isAgg]
theorem akU:jn ae 105 ([.agg [ab 0,ab 0],.v (.int .i64 0)].map lay):=by
 rw[show [LV.agg [ab 0,ab 0],.v (.int .i64 0)].map lay=[(6,true),(1,false)] from by simp[lay,LV.aj,bI,al.aj,LV.isAgg]];exact aj1
theorem adn(σ:Nat->Nat)(k:Nat)(L:St):ob σ k [] L=L:=rfl
def iB(r:(Rat×Rat)×Int):LV:=.agg [cP r.1,iL r.2]
theorem oJ:fe iB 7 true:=⟨fun r=>by simp[iB,LV.aj,bI,cB.aj],fun _=>rfl,fun r=>by simp[iB,LV.pure,aN,cB.pure]⟩
theorem rtZ:ck ae 105 (iB ((0,0),0)):=by unfold iB cP;exact aex
instance:EC ae 105 iB 7 true ((0,0),0):=⟨oJ,rtZ,adE⟩
theorem ahk(r:(Rat×Rat)×Int)(b:Nat):(iB r).kill b=iB r:=LV.kM b _ (oJ.pure r)
theorem awr{P:Program}{L:St}{ops:Array Oper}{f:FuncId}{xs:Array Operand}{caps:List LV}{dst:Option Tmp}{ty:TypeId}{pos:String}{af:Array Edge}{g:Option (Nat×Bool)}
  (hg:cI ops L ⟨dst,.makeFunc (.func f) #[] xs,ty,pos,af,g⟩ true) (he:xs.toList.map L.ev=caps) (hcs:∀x∈caps,x.aj=1/\x.isAgg=false/\x≠.any/\∀l,x≠.aQ l) :
  uq P ops ⟨dst,.makeFunc (.func f) #[] xs,ty,pos,af,g⟩ L (L.put dst (.gZ f caps)):=by
 subst he;exact ayB hg hcs
def isK(p:List Rat):Bool:=ofK p&&(suK (ew (eR p))&&(yd (ky (ew (eR p)))&&(decide (bY (mX ((ky (ew (eR p))).getD 0 []) 0)≠0)&&(decide (bY (mX ((ky (ew (eR p))).getD 0 []) 1)≠0)&&(decide (zw (ky (ew (eR p))) 0 1=1)&&decide ((o4 (ew (eR p)).length (ew (eR p)) (pX (ew (eR p)))).length<=1))))))
namespace aj3
theorem aD{p q:Prop}(k:q)(e:p=q:=by simp only[bc,aZ,aW,aS,pG,tB,eG,ahk,cT oJ,List.replicate_zero,adn,dO,ff,eF,List.take_zero,xQ,cT gW,dfR,bF,cw,cd,cy,reduceIte,if_true,if_false,cS,LV.kill,a9];exact rfl):p:=e.mpr k
end aj3
open aj3 in
theorem aAl(p:List Rat)(h:isK p=true):ar ae 137 [.list 3 (p.map ab)] (.aQ [.list 7 ([((bU 0 1,bV 0 1),(1:Int))].map iB),iL 0]):=by
 rw[isK,cY,cY,cY,cY,cY,cY]at h;obtain⟨k1,k2,k3,k4,k5,k6,k7⟩:=h;have n4:=of_decide_eq_true k4;have n5:=of_decide_eq_true k5;have n6:=of_decide_eq_true k6;have n7:=of_decide_eq_true k7;have hf:yL (ew (eR p))=true:=by rw[suK,cY]at k2;exact k2.1
 have lr:=hf;rw[yL,cY,cY,cY]at lr;obtain⟨f1,f2,f3,f4⟩:=lr;obtain⟨g1,g2⟩:=of_decide_eq_true f1;have hOf:=asF p k1;have hSt:=asE (ew (eR p)) k2;have sV:=afj (ew (eR p)) aa (fun x hx=>by have:=u5 f2 x hx;omega);have hGc:=aiL (ew (eR p)).length (ew (eR p)) (pX (ew (eR p))) f3;have r0:rl (0:Rat)<=100000:=an;have r1:rl (1:Rat)<=100000:=an;have iY:=ajR (ky (ew (eR p))) k3 0 r0;have sE:=ajR (ky (ew (eR p))) k3 1 r1;have dS:=axE (ky (ew (eR p))) k3 0 1 r0 r1 n6;have hI0:ar ae 138 [iL 0] (ab 0):=rS 0 an an;have se:ar ae 138 [iL 1] (ab 1):=rS 1 an an;have hch:(LV.bg (.list 1 ((ky (ew (eR p))).map dY))).pure=true:=bN gW 1 _;have gh:aN [(LV.bg (.list 1 ((ky (ew (eR p))).map dY)))]=true:=by simp only[aN,hch,ahb]
 have hcs:∀x∈[(LV.bg (.list 1 ((ky (ew (eR p))).map dY)))],x.aj=1/\x.isAgg=false:=by intro x hx;simp only[qk]at hx;subst hx;exact⟨rfl,rfl⟩
 have hc4:∀x∈([(LV.bg (.list 1 ((ky (ew (eR p))).map dY))),.ax 6 1 0 0,.ax 8 1 0 0,.ax 7 1 0 0]:List LV),x.aj=1/\x.isAgg=false/\x≠.any/\∀l,x≠.aQ l:=by intro x hx;simp only[fJ,jN,or_false]at hx;rcases hx with rfl|rfl|rfl|rfl<;>exact⟨rfl,rfl,by simp,by simp⟩
 refine aE Tryz.func137 (ht:=(lf (bN oJ _ _) rfl)) ?_;have eG:True:=trivial;refine cO (hOf) ?_;refine cg ?_;refine au rfl ?_ ?_<;>intro w6 xF
 ·omega
 refine cO (hSt) ?_;refine cb ?_;refine bX (av.amz (t:=5) (b:=5) rfl rfl rfl rfl (bN gW 1 _) rfl) ?_;refine jA [] rfl rfl (.mk (caps:=[(LV.bg (.list 1 ((ky (ew (eR p))).map dY)))]) (.cons (.pure hch) .nil) hcs) rfl ?_;refine cb ?_;refine agO 0 ?_;simp only[sr,xa];refine abS rfl (awr (caps:=[(LV.bg (.list 1 ((ky (ew (eR p))).map dY))),.ax 6 1 0 0,.ax 8 1 0 0,.ax 7 1 0 0]) rfl rfl hc4) ?_;simp only[aap,gX];refine cO (hI0) ?_;refine cp bK (se) ?_;refine cg ?_;refine jA [] rfl rfl (.bQ (f:=233) (cap:=[(LV.bg (.list 1 ((ky (ew (eR p))).map dY)))]) (args:=[ab 0]) rfl (.cons dv .nil) ⟨gh,hcs⟩ (iY).1 an (fun _ h=>by cases h)) ((iY).2 _) ?_;refine aR ?_;refine au rfl ?_ ?_<;>intro tw ri
 ·exact absurd ri n4
 refine bw ?_;refine agO 3 ?_;simp only[sr,xa];refine bw ?_;refine abS rfl (atI (f:=235) (t:=35) (cap:=[(LV.bg (.list 1 ((ky (ew (eR p))).map dY))),.ax 6 1 0 0,.ax 8 1 0 0,.ax 7 1 0 0]) (args:=[ab 0,ab 1]) (ys:=[(LV.bg (.list 1 ((ky (ew (eR p))).map dY))),.ax 0 1 0 0,.any,.any]) (b:=6) (blk':=⟨1,[.list 6 ([(bU 0 1,bV 0 1)].map cP)],true⟩) (bs:=[]) 38 rfl rfl rfl rfl rfl (.cons (.cC (.pure (al.pure _))) (.cons (.cC (.pure (al.pure _))) .nil)) (.cons (.m (.cC (.pure hch))) (.cons (.m .ptr) (.cons (.any az az) (.cons (.any az az) .nil)))) (fun x hx=>⟨(hc4 x hx).1,(hc4 x hx).2.1,(hc4 x hx).2.2.2⟩) (zs:=[.tmp 6]) .ptr (amZ dS) (by simp[aN,LV.pure,cB.pure]) an (fun kk pf=>aiT (by intro x hx;simp only[jh,nK,fJ,jN,or_false]at hx;unfold cQ;omega))) ?_;refine aP ?_;refine jA [] rfl rfl (.bQ (f:=233) (cap:=[(LV.bg (.list 1 ((ky (ew (eR p))).map dY)))]) (args:=[ab 1]) rfl (.cons dv .nil) ⟨gh,hcs⟩ (sE).1 an (fun _ h=>by cases h)) ((sE).2 _) ?_;refine aR ?_;refine au rfl ?_ ?_<;>intro abw yX
 ·exact absurd yX n5
 refine aA ?_;refine eD rfl rfl (.gC (n:=0) (m:=1) ml ml om om om) ?_;refine bp ?_;refine jR ?_;refine aA ?_;refine pY (b:=_) rfl (rfl) ?_;refine gA ?_;refine ai rfl (.build (zs:=[.agg [ab 0,ab 0],.v (.int .i64 0)]) akU aex (by simp only[afg];exact⟨⟨_,rfl,ajr _,ic⟩,⟨_,rfl,rfl,ic⟩,fun _ h=>by cases h⟩)) ?_;refine eD rfl rfl (.l1 (a0:=((bU 0 1,bV 0 1),(1:Int))) rfl) ?_;refine dH rfl (.app (d:=60) (news:=[iB ((bU 0 1,bV 0 1),1)]) rfl rfl rfl rfl rfl az (.inr rfl) an aeo aeo rtZ adE (oJ.aj _) ae1 (.inl ⟨59,0,_,rfl,by decide,rfl,rfl,by simp,rfl,by simp[aN,oJ.pure]⟩) az az an) ?_;refine bx ?_;refine jR ?_;refine aA ?_;refine ny ?_;refine cO (sV) ?_;refine cp aK (hGc) ?_;refine ay ?_;refine jR ?_;refine bu ?_;refine rX (b:=_) rfl (by rw[decide_eq_false_iff_not];omega) ?_;refine dk ?_;exact ajt [60] rfl rfl (eM (l:=[((bU 0 1,bV 0 1),(1:Int))]) oJ rfl rfl rfl) rfl (.pure rfl)
open H0 in
theorem arx(q:Rat)(h:rl q<=274877906944):ar ae 171 [ab q] (ab (-q)):=by
 refine aE Tryz.func171 ?_;refine cO (aeR q aa) ?_;refine bx ?_;refine cz 8 rfl ?_ ?_<;>intro oS h8
 ·refine aA ?_;refine dH rfl (.aoI rfl rfl rfl T4 (by first|exact alh oS|exact anO oS)) ?_;refine bx ?_;exact ju
 refine aA ?_;refine dH rfl (.aoI rfl rfl rfl T4 (by first|exact alh oS|exact anO oS)) ?_;refine bx ?_;exact ju
structure M3 where
 a:V3
 b:V3
 c:V3
 t:V3
 deriving Inhabited
def fR(m:M3):LV:=.agg [.agg [aB m.a,aB m.b,aB m.c],aB m.t]
theorem gq:fe fR 36 true:=⟨fun m=>by simp[fR,LV.aj,bI,a7.aj],fun _=>rfl,fun m=>by simp[fR,LV.pure,aN,a7.pure]⟩
def sn(m:M3)(p:V3):V3:=⟨nO m.a p,nO m.b p,nO m.c p⟩
def m3p(m:M3)(p:V3):V3:=v3a (sn m p) m.t
def wZ(R:Nat)(m:M3):Prop:=bE R m.a/\bE R m.b/\bE R m.c/\bE R m.t
theorem apt{R S:Nat}{m:M3}{p:V3}(hm:wZ R m)(hp:bE S p):bE (3*(R+S)+4) (sn m p):=⟨aca hm.1 hp,aca hm.2.1 hp,aca hm.2.2.1 hp⟩
theorem azE{R S:Nat}{m:M3}{p:V3}(hm:wZ R m)(hp:bE S p):bE (3*(R+S)+5+R) (m3p m p):=by
 obtain⟨a1,a2,a3⟩:=apt hm hp;obtain⟨t1,t2,t3⟩:=hm.2.2.2;have h1:=ks (sn m p).x m.t.x;have h2:=ks (sn m p).y m.t.y;have h3:=ks (sn m p).z m.t.z;refine⟨?_,?_,?_⟩
 ·show rl ((sn m p).x+m.t.x)<=_;omega
 ·show rl ((sn m p).y+m.t.y)<=_;omega
 show rl ((sn m p).z+m.t.z)<=_;omega
instance:EC ae 36 fR 36 true ⟨⟨0,0,0⟩,⟨0,0,0⟩,⟨0,0,0⟩,⟨0,0,0⟩⟩:=⟨gq,Z36,T36⟩
theorem adV(p:V3):(aB p).at 0 9 true=some (aB p):=fq (a7.aj p) rfl
theorem aAb(m:M3):(fR m).at 0 9 true=some (aB m.a):=by
 simp[fR,LV.at,lE,LV.aj,bI,a7.aj,adV]
theorem axh(m:M3):(fR m).at 9 9 true=some (aB m.b):=by
 simp[fR,LV.at,lE,LV.aj,bI,a7.aj,adV]
theorem aya(m:M3):(fR m).at 18 9 true=some (aB m.c):=by
 simp[fR,LV.at,lE,LV.aj,bI,a7.aj,adV]
theorem atK(m:M3):(fR m).at 27 9 true=some (aB m.t):=by
 simp[fR,LV.at,lE,LV.aj,bI,a7.aj,adV]
theorem aao(m:M3)(b:Nat):(fR m).kill b=fR m:=LV.kM b _ (gq.pure m)
section
variable {P:Program} {H:bn} {ρ:Operand->LV} {T E:TypeId}
theorem au6{o0 o1 o2:Operand}{a b c:V3}[u:UN P T (.array 3 E)][t:TI P E 9 true][z:ZI P T (.agg [aB ⟨0,0,0⟩,aB ⟨0,0,0⟩,aB ⟨0,0,0⟩])](h0:ρ o0=aB a)(h1:ρ o1=aB b)(h2:ρ o2=aB c):
  aq P H ρ (.build T #[(0,o0),(1,o1),(2,o2)]) (.agg [aB a,aB b,aB c]):=by
 have:=aq.iK (H:=H) (ρ:=ρ) (ps:=#[(0,o0),(1,o1),(2,o2)]) (u:=u) (t:=t) (z:=z) (by simp[lay,a7.aj,a7.isAgg]) (by
  intro p hp;simp only[fJ,jN,or_false]at hp;rcases hp with rfl|rfl|rfl
  ·exact⟨_,rfl,by rw[h0];simp[lay,a7.aj,a7.isAgg],by rw[h0];exact LV.eg (a7.pure _),by rw[h0];exact LV.dV (a7.pure _)⟩
  ·exact⟨_,rfl,by rw[h1];simp[lay,a7.aj,a7.isAgg],by rw[h1];exact LV.eg (a7.pure _),by rw[h1];exact LV.dV (a7.pure _)⟩
  exact⟨_,rfl,by rw[h2];simp[lay,a7.aj,a7.isAgg],by rw[h2];exact LV.eg (a7.pure _),by rw[h2];exact LV.dV (a7.pure _)⟩)
 simpa only[jf,fl,zL,aax,h0,h1,h2]using this
theorem ay7{o0 o1:Operand}{a b c t:V3}[z:ZI P T (.agg [.agg [aB ⟨0,0,0⟩,aB ⟨0,0,0⟩,aB ⟨0,0,0⟩],aB ⟨0,0,0⟩])][s:SI P T [(27,true),(9,true)]](h0:ρ o0=.agg [aB a,aB b,aB c])(h1:ρ o1=aB t):
  aq P H ρ (.build T #[(0,o0),(1,o1)]) (fR ⟨a,b,c,t⟩):=by
 have hp:LV.pure (.agg [aB a,aB b,aB c])=true:=by simp[LV.pure,aN,a7.pure]
 have:=aq.bd (H:=H) (ρ:=ρ) (ps:=#[(0,o0),(1,o1)]) (z:=z) (s:=s) (by simp[lay,LV.aj,bI,a7.aj,a7.isAgg,tb]) (by
  intro q hq;simp only[fJ,jN,or_false]at hq;rcases hq with rfl|rfl
  ·exact⟨_,rfl,by rw[h0];simp[lay,a7.aj,LV.aj,bI,tb],by rw[h0];exact LV.eg hp,by rw[h0];exact LV.dV hp⟩
  exact⟨_,rfl,by rw[h1];simp[lay,a7.aj,a7.isAgg],by rw[h1];exact LV.eg (a7.pure _),by rw[h1];exact LV.dV (a7.pure _)⟩)
 simp only[jf,fl,zL,aax,h0,h1]at this;exact this
end
instance:ZI ae 34 (.agg [aB ⟨0,0,0⟩,aB ⟨0,0,0⟩,aB ⟨0,0,0⟩]):=⟨Z34⟩
instance:ZI ae 36 (.agg [.agg [aB ⟨0,0,0⟩,aB ⟨0,0,0⟩,aB ⟨0,0,0⟩],aB ⟨0,0,0⟩]):=⟨Z36⟩
instance:AE ae 36 fR 36 true ⟨⟨0,0,0⟩,⟨0,0,0⟩,⟨0,0,0⟩,⟨0,0,0⟩⟩:=⟨gq,Z36⟩
open oz in
theorem aum(p q r:V3)(R:Nat)(hR:R<=200000000)(hp:bE R p)(hq:bE R q)(hr:bE R r):ar ae 53 [aB p,aB q,aB r] (ab (nO p (s7 q r))):=by
 have hx:=aeT hq hr;refine aE Tryz.func53 ?_;refine bC (ang q r R aa hq hr) ?_;refine cp aK (abi p (s7 q r) (4*R+5) aa (hp.le aa) hx) ?_;refine ay ?_;exact ju
namespace al8
theorem aD{p q:Prop}(k:q)(e:p=q:=by simp only[bc,aZ,aW,aS,aao,cw,cd,cy,reduceIte,if_true,if_false,cS,LV.kill,a9];exact rfl):p:=e.mpr k
end al8
open al8 in
theorem axC(m:M3)(R:Nat)(hR:R<=200000000)(hm:wZ R m):ar ae 14 [fR m] (ab (nO m.a (s7 m.b m.c))):=by
 obtain⟨pF,fh,xl,nC⟩:=hm;refine aE Tryz.func14 ?_;refine cb ?_;refine ai rfl (.eP rfl rfl rfl rfl (gq.aj m) (aAb m) kt) ?_;refine aR ?_;refine ai rfl (.eP rfl rfl rfl rfl (gq.aj m) (axh m) kt) ?_;refine aR ?_;refine ai rfl (.eP rfl rfl rfl rfl (gq.aj m) (aya m) kt) ?_;refine cp iM (aum m.a m.b m.c R hR pF fh xl) ?_;refine ay ?_;exact ju
theorem auH(m:M3):(fR m).at 0 27 true=some (.agg [aB m.a,aB m.b,aB m.c]):=by
 simp[fR,LV.at,lE,LV.aj,bI,a7.aj,tb]
namespace ahj
theorem aD{p q:Prop}(k:q)(e:p=q:=by simp only[bc,aZ,aW,aS,aao,ij,iG,cw,cd,cy,reduceIte,if_true,if_false,cS,LV.kill,a9];exact rfl):p:=e.mpr k
end ahj
open ahj in
theorem axJ(m:M3)(R:Nat)(hR:R<=1000000000)(hm:wZ R m)(p:V3)(ll:bE R p):ar ae 56 [fR m,aB p] (aB (sn m p)):=by
 obtain⟨pF,fh,xl,nC⟩:=hm;refine aE Tryz.func56 (ht:=(fun r=>LV.dF r _ (a7.pure _))) ?_;refine nB ?_;refine ai rfl (.eP (r:=.agg [aB m.a,aB m.b,aB m.c]) (n:=27) (ag:=true) rfl rfl rfl rfl (gq.aj m) (auH m) T34) ?_;refine ay ?_;refine eW ?_;refine bC (abi m.a p R aa pF ll) ?_;refine aV ?_;refine bX (av.kill _ 7) ?_;refine ay ?_;refine eW ?_;refine bC (abi m.b p R aa fh ll) ?_;refine aV ?_;refine bX (av.kill _ 7) ?_;refine ay ?_;refine eW ?_;refine bC (abi m.c p R aa xl ll) ?_;refine aV ?_;refine bX (av.kill _ 7) ?_;refine ay ?_;refine oP ?_;refine bp ?_;exact yp
def fP(q:dG):Q4:=⟨q.w*q.p.x,q.w*q.p.y,q.w*q.p.z,q.w⟩
theorem axe{q:dG}{R:Nat}(h:okP R q):nQ (2*R) (fP q):=by
 obtain⟨⟨h1,h2,h3⟩,h4,_⟩:=h;have a:=du q.w q.p.x;have b:=du q.w q.p.y;have c:=du q.w q.p.z;exact⟨by show rl (q.w*q.p.x)<=_;omega,by show rl (q.w*q.p.y)<=_;omega,by show rl (q.w*q.p.z)<=_;omega,by show rl q.w<=_;omega⟩
theorem aeZ{w x:Rat}(h:0<w):w*x/w=x:=by
 rw[tu,Rat.mul_comm w x,aom,aqC _ dR,Rat.mul_one]
theorem auS{q:dG}(h:0<q.w):(⟨⟨q.w*q.p.x/q.w,q.w*q.p.y/q.w,q.w*q.p.z/q.w⟩,q.w⟩:dG)=q:=by
 rw[aeZ h,aeZ h,aeZ h]
theorem aAC(d:Nat)(a b t:Rat):iv (aH d a b) t (aH d a b).length=(if a=t then d+1 else 0)+(if b=t then d+1 else 0):=by
 have h:=aiH (aJ (d+1) a) (aJ (d+1) b) t (d+1);rw[zl]at h;have e:(aH d a b).length=d+1+(d+1):=by rw[nm];omega
 rw[e];show iv (aJ (d+1) a++_) t _=_;rw[h,agZ _ _ _ _ (bA _),agZ _ _ _ _ (bA _)]
theorem adI{d:Nat}{a b:Rat}(h1:1<=d)(h6:d<=6)(dt:a<b)(hT:rl a<=64)(hT1:rl b<=64):kOK (aH d a b) d:=by
 have hl:=nm d a b;have aG:a≠b:=dR;have e0:(aH d a b).getD 0 0=a:=by rw[fX _ _ _ _ aa,if_pos aa]
 have e1:(aH d a b).getD ((aH d a b).length-1) 0=b:=by rw[hl,fX _ _ _ _ aa,if_neg aa]
 have hm:∀x∈aH d a b,x=a\/x=b:=fun x hx=>by
  rcases p7.1 hx with h|h
  ·exact .inl (xT.1 h).2
  exact .inr (xT.1 h).2
 refine⟨h1,h6,aa,aa,fun i hi=>?_,by rw[e0,e1];exact aG,fun t ht he=>?_,fun t ht g0 g1=>?_,fun x hx=>?_⟩
 ·rw[fX _ _ _ _ aa,fX _ _ _ _ aa];split<;>split
  ·exact aa8
  ·grind
  ·omega
  exact aa8
 ·rw[aAC];rcases hm t ht with rfl|rfl
  ·rw[if_pos rfl,if_neg (fun e=>aG e.symm)]
  rw[if_neg aG,if_pos rfl,fW]
 ·rw[e0]at g0;rw[e1]at g1;rcases hm t ht with h|h
  ·exact absurd h g0
  exact absurd h g1
 rcases hm x hx with rfl|rfl<;>assumption
theorem anG{d:Nat}{a b:Rat}:∀i,i+1<=d+1->cq (aH d a b) (i+1)=[a]
 |0,_=>by rw[cq,if_pos (.inl rfl),vm];rfl
 |i+1,h=>by
  rw[adJ aa (by rw[fX _ _ _ _ aa,fX _ _ _ _ aa,if_pos aa,if_pos aa]),anG i aa]
theorem amt{d:Nat}{a b:Rat}(dt:a<b):∀i,i+1<=d+1->cq (aH d a b) (d+1+(i+1))=[a,b]
 |0,_=>by
  rw[<-od,aqX aa (by rw[fX _ _ _ _ aa,fX _ _ _ _ aa,if_neg aa,if_pos aa];grind),jK,anG d aa,fX _ _ _ _ aa,if_neg aa];rfl
 |i+1,h=>by
  rw[<-od,adJ aa (by rw[fX _ _ _ _ aa,fX _ _ _ _ aa,if_neg aa,if_neg aa]),amt dt i aa]
theorem awO{d:Nat}{a b:Rat}(dt:a<b):cq (aH d a b) (aH d a b).length=[a,b]:=by
 have:=amt (d:=d) dt d (bA _);rwa[show d+1+(d+1)=(aH d a b).length by rw[nm];omega]at this
namespace ape
theorem aD{p q:Prop}(k:q)(e:p=q:=by simp only[bc,aZ,aW,aS,eY,hl,bF,cw,cd,cy,reduceIte,if_true,if_false,cS,LV.kill,a9];exact rfl):p:=e.mpr k
end ape
open ape in
theorem ap5(d:Nat)(a b:Rat)(po:List dG)(R:Nat)(h:rM po d R)(gy:1<=R)(hR:R<=1000)(dt:a<b)(ha:rl a<=64)(hb:rl b<=64):ar ae 122 [.agg [ak d,.list 3 ((aH d a b).map ab),.list 12 (po.map dj)]] (bL true):=by
 have hl:=h.hl;have hd:=h.hd;have h6:=h.h6;have eY:=nm d a b;have gh:LV.pure (.agg [ak d,.list 3 ((aH d a b).map ab),.list 12 (po.map dj)])=true:=pc;have hsq:LV.pure (.agg [ak d,.list 3 ((aH d a b).map ab),.list 12 ((po.map fP).map cD)])=true:=aat;have hk:=adI hd h6 dt ha hb;have hKp:ar ae 220 [.list 3 ((aH d a b).map ab),ak d] (ak (d+1)):=by
  have:=ae6 (aH d a b) d aa aa;rwa[show (aH d a b).length-d-1=d+1 by omega]at this
 refine aE Tryz.func122 ?_;refine bC (awC (aH d a b) d hk) ?_;refine aR ?_;refine ai ib faA ?_;refine ai ib mb ?_;refine ai ib ry ?_;refine ai ib faA ?_;refine ai ib mb ?_;refine ai ib faA ?_;refine ai ib mb ?_;refine cF ib (.cons dv (.cons dv .nil)) (hKp) ?_;refine ai ib (.bin rfl rfl rfl) ?_;refine ai rfl (.uf rfl ((rfl))) ?_;refine ay ?_;exact cm (x:=bL true) (by refine Eq.trans (b:=LV.v (Value.bool (((d+1:Nat):Int)==((d+1:Nat):Int)))) rfl ?_;rw[beq_self_eq_true]) (.pure rfl)
namespace anA
theorem aD{p q:Prop}(k:q)(e:p=q:=by simp only[bc,aZ,aW,aS,jH,kC,bF,jW,dO,ff,eF,List.map_nil,gE,eX,cw,cd,cy,reduceIte,if_true,if_false,cS,LV.kill,a9,wi,cT gp];exact rfl):p:=e.mpr k
end anA
open anA in
theorem are(d:Nat)(a b:Rat)(po:List dG)(R:Nat)(h:rM po d R)(gy:1<=R)(hR:R<=1000)(dt:a<b)(ha:rl a<=64)(hb:rl b<=64):ar ae 123 [.agg [ak d,.list 3 ((aH d a b).map ab),.list 12 (po.map dj)]] (.agg [ak d,.list 3 ((aH d a b).map ab),.list 12 ((po.map fP).map cD)]):=by
 have hl:=h.hl;have hd:=h.hd;have h6:=h.h6;have eY:=nm d a b;have gh:LV.pure (.agg [ak d,.list 3 ((aH d a b).map ab),.list 12 (po.map dj)])=true:=pc;have hsq:LV.pure (.agg [ak d,.list 3 ((aH d a b).map ab),.list 12 ((po.map fP).map cD)])=true:=aat;have hk:=adI hd h6 dt ha hb;refine aE Tryz.func123 (ht:=(fun g=>LV.dF g _ aat)) ?_;have jH:True:=trivial;have kC:True:=trivial;refine afJ ?_;refine kD ((av.cell 3 rfl (fun Z μ w cs h=>aeu 23 12 _ _ Z μ w cs h)).trans (av.tV _ 23 12 rfl)) ?_;refine da (fun(j:Nat) L=>(mS L [(1,⟨3,[.agg [ak d,.list 3 ((aH d a b).map ab),.list 12 (po.map dj)]],true⟩),(2,⟨3,[.agg [.v (.int .i64 0),.v (.slice none 0 0),.v (.slice none 0 0)]],true⟩),(3,⟨3,[.agg [ak d,.list 3 ((aH d a b).map ab),.ref 23 12 0 j]],true⟩),(23,⟨12,((po.map fP).take j).map cD,true⟩)] [(14,ak j),(13,ak po.length),(12,.list 12 (po.map dj)),(3,.ax 3 3 0 0),(2,.ax 2 3 0 0),(1,.ax 1 3 0 0)])) (fun j=>j<=po.length) (fun j=>po.length-j) 0 (bJ _) ?_;rintro j L1 hj;refine aA ?_;refine au rfl ?_ ?_<;>intro mA iR
 ·have fA:j<po.length:=aa;have hO:ar ae 221 [dj (po.getD j default)] (cD (fP (po.getD j default))):=aqB (po.getD j default) R aa (h.ok _ (afD fA));have kC:(po.map fP).take j++[fP (po.getD j default)]=(po.map fP).take (j+1):=x7 fP po fA;have jH:(((po.map fP).take j).map cD).take j=((po.map fP).take j).map cD:=cW bm;refine cO (hO) ?_;refine aT ?_;refine dH rfl (.iJ (d:=23) (news:=[cD (fP (po.getD j default))]) rfl rfl rfl rfl bm (.inl rfl) an vT vT adm (by first|exact sA|(rw[gp.isAgg];exact sA)) cs ajf (.inl ⟨22,0,_,rfl,by decide,rfl,rfl,by simp,rfl,by simp[aN,gp.pure]⟩) bm bm an) ?_;refine aV ?_;refine bX ((av.kill _ 5).trans (av.kill _ 22)) ?_;refine c9 ?_;exact pR
 obtain rfl:j=po.length:=aa;have hE:(po.map fP).take po.length=(po.map fP):=cW az;simp only[hE];refine bp ?_;exact iV [23] rfl rfl rfl cs (fq cs rfl) ac4 (.agg (.cons (.pure rfl) (.cons (.pure (bS al _)) (.cons (eM gp rfl rfl az) .nil))))
namespace aiX
theorem aD{p q:Prop}(k:q)(e:p=q:=by simp only[bc,aZ,aW,aS,jH,kC,egq,bF,jW,dO,ff,eF,List.map_nil,gE,eX,cw,cd,cy,reduceIte,if_true,if_false,cS,LV.kill,a9,wi,cT gp];exact rfl):p:=e.mpr k
end aiX
open aiX in
theorem axU(d:Nat)(a b:Rat)(po:List dG)(R:Nat)(h:rM po d R)(gy:1<=R)(hR:R<=1000)(dt:a<b)(ha:rl a<=64)(hb:rl b<=64):ar ae 225 [.agg [ak d,.list 3 ((aH d a b).map ab),.list 12 ((po.map fP).map cD)]] (.agg [ak d,.list 3 ((aH d a b).map ab),.list 12 (po.map dj)]):=by
 have hl:=h.hl;have hd:=h.hd;have h6:=h.h6;have eY:=nm d a b;have gh:LV.pure (.agg [ak d,.list 3 ((aH d a b).map ab),.list 12 (po.map dj)])=true:=pc;have hsq:LV.pure (.agg [ak d,.list 3 ((aH d a b).map ab),.list 12 ((po.map fP).map cD)])=true:=aat;have hk:=adI hd h6 dt ha hb;have hCo:=atP (aH d a b) aa (fun x hx=>bW (y6 ha hb x hx) an);refine aE Tryz.func225 (ht:=(fun g=>LV.dF g _ pc)) ?_;have jH:True:=trivial;have kC:True:=trivial;have egq:True:=trivial;refine cO (hCo) ?_;refine gA ?_;refine kD ((av.cell 3 rfl (fun Z μ w cs h=>aeu 24 12 _ _ Z μ w cs h)).trans (av.tV _ 24 12 rfl)) ?_;refine da (fun(j:Nat) L=>(mS L [(1,⟨3,[.agg [ak d,.list 3 ((aH d a b).map ab),.list 12 ((po.map fP).map cD)]],true⟩),(2,⟨3,[.agg [.v (.int .i64 0),.v (.slice none 0 0),.v (.slice none 0 0)]],true⟩),(3,⟨3,[.agg [ak d,.list 3 ((aH d a b).map ab),.ref 24 12 0 j]],true⟩),(24,⟨12,(po.take j).map dj,true⟩)] [(15,ak j),(14,ak po.length),(13,.list 12 ((po.map fP).map cD)),(3,.ax 3 3 0 0),(2,.ax 2 3 0 0),(1,.ax 1 3 0 0)])) (fun j=>j<=po.length) (fun j=>po.length-j) 0 (bJ _) ?_;rintro j L1 hj;refine aA ?_;refine au rfl ?_ ?_<;>intro nn jJ
 ·have fA:j<po.length:=aa;have hq:=h.ok _ (afD fA);obtain⟨⟨q5,q6,q7⟩,q8,q9⟩:=hq;have n5:=du (po.getD j default).w (po.getD j default).p.x;have n6:=du (po.getD j default).w (po.getD j default).p.y;have n7:=du (po.getD j default).w (po.getD j default).p.z;have hFP:ar ae 125 [cD (fP (po.getD j default))] (dj (po.getD j default)):=by
   have:=amf ((po.getD j default).w*(po.getD j default).p.x) ((po.getD j default).w*(po.getD j default).p.y) ((po.getD j default).w*(po.getD j default).p.z) (po.getD j default).w 1000000 an aa aa aa aa q9;rw[auS q9]at this;exact this
  have egq:(po.map fP).getD j default=fP (po.getD j default):=by rw[bf,iT,bO fA,bf,bO fA];rfl
  have kC:po.take j++[(po.getD j default)]=po.take (j+1):=by rw[tt,bO fA,bf,bO fA];rfl
  have jH:((po.take j).map dj).take j=(po.take j).map dj:=cW bm;refine nB ?_;refine cF rfl (.cons (.pure (gp.pure _)) .nil) hFP ?_;refine aT ?_;refine dH rfl (.iJ (d:=24) (news:=[dj (po.getD j default)]) rfl rfl rfl rfl bm (.inl rfl) an xw xw Z74 (by first|exact vG|(rw[iA.isAgg];exact vG)) cs B74 (.inl ⟨23,0,_,rfl,by decide,rfl,rfl,by simp,rfl,by simp[aN,iA.pure]⟩) bm bm an) ?_;refine aV ?_;refine bX ((av.kill _ 5).trans (av.kill _ 23)) ?_;refine c9 ?_;exact pR
 obtain rfl:j=po.length:=aa;have hE:po.take po.length=po:=cW (bA _);simp only[hE];refine bp ?_;exact iV [24] rfl rfl rfl cs (fq cs rfl) te (.agg (.cons (.pure rfl) (.cons (.pure (bS al _)) (.cons (eM iA rfl rfl rfl) .nil))))
namespace apd
theorem aD{p q:Prop}(k:q)(e:p=q:=by simp only[bc,aZ,aW,aS,pG,tB,hda,List.drop_succ_cons,List.drop_zero,ij,iG,bF,jW,dO,ff,eF,List.map_nil,gE,eX,cw,cd,cy,reduceIte,if_true,if_false,cS,LV.kill,a9,wi,cT gp];exact rfl):p:=e.mpr k
end apd
open apd in
theorem aws(d:Nat)(a b:Rat)(po:List dG)(R:Nat)(h:rM po d R)(gy:1<=R)(hR:R<=1000)(dt:a<b)(ha:rl a<=64)(hb:rl b<=64):ar ae 132 [.agg [ak d,.list 3 ((aH d a b).map ab),.list 12 (po.map dj)]] (.list 3 [.agg [ak d,.list 3 ((aH d a b).map ab),.list 12 (po.map dj)]]):=by
 have hl:=h.hl;have hd:=h.hd;have h6:=h.h6;have eY:=nm d a b;have gh:LV.pure (.agg [ak d,.list 3 ((aH d a b).map ab),.list 12 (po.map dj)])=true:=pc;have hsq:LV.pure (.agg [ak d,.list 3 ((aH d a b).map ab),.list 12 ((po.map fP).map cD)])=true:=aat;have hk:=adI hd h6 dt ha hb;have sH:aN [.agg [ak d,.list 3 ((aH d a b).map ab),.list 12 (po.map dj)]]=true:=by simp[aN,LV.pure,bS al,bS iA]
 have hSo:=ap5 d a b po R h gy hR dt ha hb;have hOf:=are d a b po R h gy hR dt ha hb;have hBk:=axU d a b po R h gy hR dt ha hb;have hda:cq (aH d a b) (aH d a b).length=[a,b]:=awO dt;have hDa:=anD (aH d a b) aa aa (fun x hx=>bW (y6 ha hb x hx) an);have hCu:=ayw d a b (po.map fP) (2*R) h6 dt aa aa (by rw[bF];exact hl) aa aa (fun q hq=>by
  obtain⟨x,hx,rfl⟩:=fB.1 hq;exact axe (h.ok x hx))
 refine aE Tryz.func132 (ht:=(fun g=>LV.dF g _ pc)) ?_;refine cO (hSo) ?_;refine bw ?_;refine ny ?_;refine cO (hOf) ?_;refine cO (hDa) ?_;refine aP ?_;refine ai rfl (.agH (a:=_) al rfl en bZ rfl om) ?_;refine aV ?_;refine jR ?_;refine aA ?_;refine pY (b:=_) rfl (rfl) ?_;refine kP (hCu) ?_;refine cp bK (hBk) ?_;refine aD ?_;refine eD rfl rfl (az9 (z:=.agg [.v (.int .i64 0),.v (.slice none 0 0),.v (.slice none 0 0)]) (v:=.agg [ak d,.list 3 ((aH d a b).map ab),.list 12 (po.map dj)]) abR Z97 rfl rfl te rfl rfl rfl gh an an) ?_;refine dH rfl (.vE (d:=34) (sz:=3) (news:=[.agg [ak d,.list 3 ((aH d a b).map ab),.list 12 (po.map dj)]]) (z:=.agg [.v (.int .i64 0),.v (.slice none 0 0),.v (.slice none 0 0)]) rfl rfl abR abR Z97 te rfl B97 (.inl ⟨33,0,_,rfl,rfl,rfl,by simp,rfl,sH⟩) az az az an) ?_;refine bx ?_;refine jR ?_;refine aA ?_;refine ny ?_;refine bp ?_;exact nq [34] rfl rfl (z6 rfl rfl sH az)
def rC(p q:V3):Bool:=decide (p.x=q.x)&&(decide (p.y=q.y)&&decide (p.z=q.z))
open oz in
theorem awB(p q:V3)(hp:bE 100000000000 p)(hq:bE 100000000000 q):ar ae 168 [aB p,aB q] (bL (rC p q)):=by
 obtain⟨a1,a2,a3⟩:=hp;obtain⟨y1,y2,y3⟩:=hq;refine aE Tryz.func168 ?_;refine dx ?_;refine eW ?_;refine bC (nG p.x q.x aa) ?_;refine bw ?_;refine au rfl ?_ ?_<;>intro nn jJ
 ·refine cg ?_;rw[show rC p q=false from by unfold rC;simp[jJ]];exact dg
 have g00:p.x=q.x:=by simpa using jJ
 refine bu ?_;refine eW ?_;refine bC (nG p.y q.y aa) ?_;refine bw ?_;refine au rfl ?_ ?_<;>intro nn jJ
 ·refine cg ?_;rw[show rC p q=false from by unfold rC;simp[jJ]];exact dg
 have g10:p.y=q.y:=by simpa using jJ
 refine bu ?_;refine eW ?_;refine bC (nG p.z q.z aa) ?_;refine bw ?_;refine au rfl ?_ ?_<;>intro nn jJ
 ·refine cg ?_;rw[show rC p q=false from by unfold rC;simp[jJ]];exact dg
 have g20:p.z=q.z:=by simpa using jJ
 refine bu ?_;refine oP ?_;refine cg ?_;rw[show rC p q=true from by unfold rC;simp[g00,g10,g20]];exact dg
open oz in
theorem ayZ(p:V3)(hp:bE 100000000000 p):ar ae 81 [aB p] (bL (rC p ⟨0,0,0⟩)):=by
 refine aE Tryz.func81 ?_;refine bx ?_;refine vd at6 ?_;refine cp aK (awB p ⟨0,0,0⟩ hp ⟨by decide +kernel,by decide +kernel,by decide +kernel⟩) ?_;refine ay ?_;exact dg
def lu(n:V3)(D:Rat):LV:=.agg [aB n,ab D]
theorem asM(n:V3)(D:Rat):(lu n D).aj=12:=by simp[lu,LV.aj,bI,a7.aj,al.aj]
theorem aaY(n:V3)(D:Rat):(lu n D).pure=true:=by simp[lu,LV.pure,aN,a7.pure,al.pure]
theorem aeJ(n:V3)(D:Rat)(b:Nat):(lu n D).kill b=lu n D:=LV.kM b _ (aaY n D)
theorem afE(n:V3)(D:Rat):(lu n D).at 0 9 true=some (aB n):=by
 simp[lu,LV.at,lE,bI,a7.aj,al.aj,fq (a7.aj n) (a7.isAgg n)]
theorem aqc(n:V3)(D:Rat):(lu n D).at 9 3 true=some (ab D):=by
 simp[lu,LV.at,lE,bI,a7.aj,al.aj,fq (al.aj D) (al.isAgg D)]
namespace apO
theorem aD{p q:Prop}(k:q)(e:p=q:=by simp only[bc,aZ,aW,aS,aeJ,cw,cd,cy,reduceIte,if_true,if_false,cS,LV.kill,a9];exact rfl):p:=e.mpr k
end apO
open apO in
theorem avO(n:V3)(D:Rat)(p:V3)(R:Nat)(hR:R<=1000000000)(hn:bE R n)(hp:bE R p)(hD:rl D<=R):ar ae 49 [(lu n D),aB p] (iL (ez (nO n p) D)):=by
 have pH:=aca hn hp;refine aE Tryz.func49 ?_;refine cb ?_;refine ai rfl (.eP rfl rfl rfl rfl rfl (afE n D) kt) ?_;refine bC (abi n p R hR hn hp) ?_;refine aT ?_;refine ai rfl (.eP rfl rfl rfl rfl rfl (aqc n D) bZ) ?_;refine cp aK (kL (nO n p) D aa) ?_;refine ay ?_;exact dg
def lj(po:List dG)(n:V3)(D:Rat):List Rat:=kU (·+·) (kU (·+·) (kU (·+·) (kd (-D) (ef po)) (kd n.x (cR po 0))) (kd n.y (cR po 1))) (kd n.z (cR po 2))
theorem ayk(po:List dG)(n:V3)(D:Rat):(lj po n D).length=po.length:=by simp[lj,wD,qy,uV]
namespace ann
theorem aD{p q:Prop}(k:q)(e:p=q:=by simp only[bc,aZ,aW,aS,aeJ,cT iA,cw,cd,cy,reduceIte,if_true,if_false,cS,LV.kill,a9];exact rfl):p:=e.mpr k
end ann
open ann in
theorem azL(d:Nat)(kn:List Rat)(po:List dG)(R:Nat)(gy:1<=R)(hR:R<=1000000)(h:rM po d R)(n:V3)(D:Rat)(hn:bE R n)(hD:rl D<=R):ar ae 133 [.agg [ak d,.list 3 (kn.map ab),.list 12 (po.map dj)],(lu n D)] (.list 3 ((lj po n D).map ab)):=by
 have gh:(LV.agg [ak d,.list 3 (kn.map ab),.list 12 (po.map dj)]).pure=true:=pc;have hpp:(lu n D).pure=true:=aaY n D;obtain⟨n1,n2,n3⟩:=hn;have hlp:=h.hl;have h6:=h.h6;have hN:=fun k=>agd (k:=k) h.ok;have hW:=afU h.ok;have hD2:rl (-D)<=R:=by rw[aox];exact hD
 have w0:=acI hD2 hW;have w1:=acI n1 (hN 0);have w2:=acI n2 (hN 1);have w3:=acI n3 (hN 2);have x1:=aqk (g:=(·+·)) ks aa aa w0 w1;have x2:=aqk (g:=(·+·)) ks aa aa x1 w2;have hNu:=avb d kn po R hR h;have hNg:=arx D aa;have hS0:=acs (-D) (ef po) (by rw[uV];omega) (fun x hx=>by have:=hW x hx;omega);have tY:=acs n.x (cR po 0) (by rw[sb];omega) (fun x hx=>by have:=hN 0 x hx;omega);have hS2:=acs n.y (cR po 1) (by rw[sb];omega) (fun x hx=>by have:=hN 1 x hx;omega);have hS3:=acs n.z (cR po 2) (by rw[sb];omega) (fun x hx=>by have:=hN 2 x hx;omega);have pa:=af5 (kd (-D) (ef po)) (kd n.x (cR po 0)) d aa (by rw[qy,uV];omega) (by rw[qy,sb];omega) (fun x hx=>by have:=w0 x hx;omega) (fun x hx=>by have:=w1 x hx;omega);have qb:=af5 (kU (·+·) (kd (-D) (ef po)) (kd n.x (cR po 0))) (kd n.y (cR po 1)) d aa (by rw[wD,qy,uV];omega) (by rw[qy,sb];omega) (fun x hx=>by have:=x1 x hx;omega) (fun x hx=>by have:=w2 x hx;omega);have tg:=af5 (kU (·+·) (kU (·+·) (kd (-D) (ef po)) (kd n.x (cR po 0))) (kd n.y (cR po 1))) (kd n.z (cR po 2)) d aa (by rw[wD,wD,qy,uV];omega) (by rw[qy,sb];omega) (fun x hx=>by have:=x2 x hx;omega) (fun x hx=>by have:=w3 x hx;omega)
 refine aE Tryz.func133 (ht:=(fun g=>LV.dF g _ (bN al 3 _))) ?_;refine cO (hNu) ?_;refine aP ?_;refine ai rfl (.eP rfl rfl rfl rfl rfl (aqc n D) bZ) ?_;refine cp bK (hNg) ?_;refine bC (hS0) ?_;refine aP ?_;refine ai rfl (.eP rfl rfl rfl rfl rfl (afE n D) kt) ?_;refine ay ?_;refine eW ?_;refine bC (tY) ?_;refine cp aK (pa) ?_;refine ay ?_;refine bX (av.kill _ 8) ?_;refine ay ?_;refine eW ?_;refine bC (hS2) ?_;refine cp aK (qb) ?_;refine ay ?_;refine bX (av.kill _ 8) ?_;refine ay ?_;refine eW ?_;refine bC (hS3) ?_;refine cp aK (tg) ?_;refine ay ?_;refine bX (av.kill _ 8) ?_;refine ay ?_;refine oP ?_;refine bp ?_;rw[lj];exact xq
theorem pyZ:ck ae 194 (dY []):=⟨Tryz.t194,_,by kernel_rfl,rfl,rfl,fun _ _ _=>aeN 3⟩
instance:EC ae 194 dY 1 false []:=⟨gW,pyZ,aqq⟩
theorem ab3(r:(Rat×Rat)×Int):(iB r).aj=(LV.agg [LV.agg [ab 0,ab 0],.v (.int .i64 0)]).aj:=by rw[oJ.aj];simp[LV.aj,bI,al.aj]
theorem anE(r:(Rat×Rat)×Int):(iB r).at 0 3 true=some (ab r.1.1):=by
 unfold iB cP;simp[LV.at,lE,bI,LV.aj,al.aj,fq (al.aj r.1.1) (al.isAgg r.1.1)]
theorem aoB(r:(Rat×Rat)×Int):(iB r).at 3 3 true=some (ab r.1.2):=by
 unfold iB cP;simp[LV.at,lE,bI,LV.aj,al.aj,fq (al.aj r.1.2) (al.isAgg r.1.2)]
theorem aus(r:(Rat×Rat)×Int):(iB r).at 6 1 false=some (iL r.2):=by
 unfold iB cP;simp[LV.at,lE,bI,LV.aj,al.aj]
namespace akK
theorem aD{p q:Prop}(k:q)(e:p=q:=by simp only[bc,aZ,aW,aS,bF,xQ,cT gW,cw,cd,cy,reduceIte,if_true,if_false,cS,LV.kill,a9];exact rfl):p:=e.mpr k
end akK
open akK in
theorem aAK(l:List Rat)(hl:l.length<=100)(hr:∀x∈l,rl x<=1000000000):ar ae 134 [ak 0,(LV.bg (.list 1 ([l].map dY)))] (bL (!(l.any fun x=>bY x != 0))):=by
 have hZ:=aA0 l aa (fun x hx=>by have:=hr x hx;omega);have ir:(LV.list 1 ([l].map dY)).pure=true:=bN gW 1 _;refine aE Tryz.func134 ?_;refine cb ?_;refine ai ib (.move _) ?_;refine ai ib (.jQ (c:=.list 1 ([l].map dY)) rfl ir rfl rfl) ?_;refine ai ib ry ?_;refine ai ib (.bin rfl rfl rfl) ?_;refine ai rfl (.uf rfl ((rfl))) ?_;refine aT ?_;refine ai ib (.jQ (c:=.list 1 ([l].map dY)) rfl ir rfl rfl) ?_;refine ai ib (.move _) ?_;refine ai ib (.y4 (l:=[l]) rfl rfl an az) ?_;refine ai ib mb ?_;refine cF ib (.cons dv .nil) (hZ) ?_;refine ai rfl (.uf rfl ((rfl))) ?_;refine ay ?_;exact dg
open oz in
theorem aoZ(t a b:Rat)(ht:rl t<=100000)(ha:rl a<=100000)(hb:rl b<=100000):ar ae 139 [ab t,.bg (cP (a,b))] (ab (a+t*(b-a))):=by
 have h1:=kW b a;have h2:=du t (b-a);refine aE Tryz.func139 ?_;refine bu ?_;refine ai rfl (.aBi rfl amF an) ?_;refine aR ?_;refine ai rfl (.jQ (c:=cP (a,b)) rfl (cB.pure _) (cB.aj _) (cB.isAgg _)) ?_;refine cp bK (awM (a,b) (by show rl b+rl a<=_;omega)) ?_;refine cp aK (fo t (b-a) aa) ?_;refine cp aK (gY a (t*(b-a)) aa) ?_;refine ay ?_;exact ju
namespace aqF
theorem aD{p q:Prop}(k:q)(e:p=q:=by simp only[bc,aZ,aW,aS,pG,tB,ahk,cT oJ,xQ,aeJ,cT gW,cT iA,dO,ff,bF,cw,cd,cy,reduceIte,if_true,if_false,cS,LV.kill,a9];exact rfl):p:=e.mpr k
end aqF
open aqF in
theorem auz(d:Nat)(a b:Rat)(po:List dG)(R:Nat)(gy:1<=R)(hR:R<=1000)(h:rM po d R)(dt:a<b)(ha:rl a<=64)(hb:rl b<=64)(n:V3)(D:Rat)(hn:bE R n)(hD:rl D<=R)(hz:rC n ⟨0,0,0⟩=false)(km:((lj po n D).any fun x=>bY x != 0)=true)(hlr:∀x∈lj po n D,rl x<=1000000000)(hK:isK (lj po n D)=true):ar ae 48 [.agg [ak d,.list 3 ((aH d a b).map ab),.list 12 (po.map dj)],(lu n D)] (.aQ [.list 7 ([((bU (a+bU 0 1*(b-a)) (a+bV 0 1*(b-a)),bV (a+bU 0 1*(b-a)) (a+bV 0 1*(b-a))),(1:Int))].map iB),.v (.slice none 0 0),iL 0]):=by
 have gh:(LV.agg [ak d,.list 3 ((aH d a b).map ab),.list 12 (po.map dj)]).pure=true:=pc;have hpp:(lu n D).pure=true:=aaY n D;have ir:(LV.list 1 ([(lj po n D)].map dY)).pure=true:=bN gW 1 _;have hlp:=h.hl;have h6:=h.h6;obtain⟨n1,n2,n3⟩:=hn;have hZr:=ayZ n ⟨aa,aa,aa⟩;have hPc:=aws d a b po R h gy hR dt ha hb;have hLv:=azL d (aH d a b) po R gy aa h n D ⟨n1,n2,n3⟩ hD;have hC1:=aAK (lj po n D) (by rw[ayk];omega) hlr;rw[km]at hC1;have hDo:=at2 d a b po aa aa dt h6;have aBg:=aAl (lj po n D) hK;have m0:rl (bU 0 1)<=100000:=bj;have m1:rl (bV 0 1)<=100000:=bj;have hA0:=aoZ (bU 0 1) a b m0 aa aa;have pa:=aoZ (bV 0 1) a b m1 aa aa;have e1_:=kW b a;have e2_:=du (bU 0 1) (b-a);have e3_:=du (bV 0 1) (b-a);have e4_:=ks a (bU 0 1*(b-a));have e5_:=ks a (bV 0 1*(b-a));have hSO:=agA (a+bU 0 1*(b-a)) (a+bV 0 1*(b-a)) aa;have se:ar ae 138 [iL 1] (ab 1):=rS 1 an an;have fL:aN [(LV.bg (.list 1 ([(lj po n D)].map dY)))]=true:=by simp only[aN,LV.pure,ahb];exact bS gW _
 have an9:∀x∈[(LV.bg (.list 1 ([(lj po n D)].map dY)))],x.aj=1/\x.isAgg=false:=by intro x hx;simp only[qk]at hx;subst hx;exact⟨rfl,rfl⟩
 have qj:aN [(LV.bg (cP (a,b)))]=true:=by simp only[aN,LV.pure,ahb];exact cB.pure _
 have ah3:∀x∈[(LV.bg (cP (a,b)))],x.aj=1/\x.isAgg=false:=by intro x hx;simp only[qk]at hx;subst hx;exact⟨rfl,rfl⟩
 refine aE Tryz.func48 (ht:=(fun g=>(congrArg (fun x=>LV.aQ [x,.v (.slice none 0 0),iL 0]) (LV.dF g _ (bN oJ 7 _))))) ?_;refine dk ?_;refine ai rfl (.eP rfl rfl rfl rfl rfl (afE n D) kt) ?_;refine cp bK (hZr) ?_;refine aR ?_;refine au rfl ?_ ?_<;>intro abL h26
 ·rw[hz]at abL;cases abL
 refine dx ?_;refine ai rfl (.eP rfl rfl rfl rfl rfl (fq rfl rfl) te) ?_;refine cF rfl (.cons (.pure gh) .nil) hPc ?_;refine aP ?_;refine eD rfl rfl (.gC (n:=1) (m:=1) ml ml om om om) ?_;refine dk ?_;refine jR ?_;refine aA ?_;refine pY (b:=_) rfl (rfl) ?_;refine aP ?_;refine ai rfl (.jm rfl abR te rfl an rfl rfl) ?_;refine ai rfl (.jQ rfl gh rfl rfl) ?_;refine bu ?_;refine ai rfl (.eP rfl rfl rfl rfl rfl (fq rfl rfl) te) ?_;refine ai rfl (.eP rfl rfl rfl rfl rfl (fq (asM n D) rfl) T58) ?_;refine cF rfl (.cons (.pure gh) (.cons (.pure hpp) .nil)) hLv ?_;refine aV ?_;refine bX (av.kill _ 12) ?_;refine ay ?_;refine jR ?_;refine aA ?_;refine ny ?_;refine aA ?_;refine bX ((av.amd 10 [31] rfl rfl (eM (l:=[(lj po n D)]) gW rfl rfl rfl)).trans ((av.kill _ 31).trans (av.amz (t:=10) (b:=10) rfl rfl rfl rfl ir rfl))) ?_;refine jA [] rfl rfl (.mk (caps:=[(LV.bg (.list 1 ([(lj po n D)].map dY)))]) (.cons (.pure ir) .nil) an9) rfl ?_;refine bp ?_;refine jR ?_;refine aA ?_;refine pY (b:=_) rfl (rfl) ?_;refine aP ?_;refine ai rfl (.jm rfl abR te rfl an rfl rfl) ?_;refine ai rfl (.jQ rfl gh rfl rfl) ?_;refine aP ?_
 refine ai rfl (.eP rfl rfl rfl rfl rfl (fq rfl rfl) te) ?_;refine cF rfl (.cons (.pure gh) .nil) hDo ?_;refine bx ?_;refine jA [] rfl rfl (.bQ (f:=134) (cap:=[(LV.bg (.list 1 ([(lj po n D)].map dY)))]) (args:=[ak 0]) rfl (.cons dv .nil) ⟨fL,an9⟩ hC1.1 an (fun _ h=>by cases h)) (hC1.2 _) ?_;refine aR ?_;refine ny ?_;refine ay ?_;refine ai rfl (.jQ (c:=.list 1 ([(lj po n D)].map dY)) rfl ir rfl rfl) ?_;refine aT ?_;refine ai rfl (.y4 (l:=[(lj po n D)]) rfl rfl an az) ?_;refine cO (aBg) ?_;refine gA ?_;refine jR ?_;refine aA ?_;refine pY (b:=_) rfl (rfl) ?_;refine aA ?_;refine ai rfl (.y4 (l:=[((bU 0 1,bV 0 1),(1:Int))]) rfl rfl an az) ?_;refine bx ?_;refine ai rfl (.eP (x:=iB ((bU 0 1,bV 0 1),(1:Int))) rfl rfl rfl rfl (ab3 _) (aoB ((bU 0 1,bV 0 1),(1:Int))) bZ) ?_;refine cp bK (mM (bV 0 1) aa) ?_;refine bu ?_;refine ai rfl (.eP (x:=iB ((bU 0 1,bV 0 1),(1:Int))) rfl rfl rfl rfl (ab3 _) (anE ((bU 0 1,bV 0 1),(1:Int))) bZ) ?_;refine cp bK (se) ?_;refine cp aK (nG (bU 0 1) 1 (by have:rl (1:Rat)=1:=rfl;omega)) ?_;refine bu ?_;refine fQ aaB ?_;refine fQ aaB ?_;refine ai rfl (.kO rfl (bj)) ?_;refine afJ ?_;refine fQ aaB ?_;refine fQ aaB ?_;refine fQ aaB ?_
 refine fQ aaB ?_;refine ai ah7 (.kO rfl (bj)) ?_;refine bu ?_;refine jA [16] rfl rfl (.mk (caps:=[(LV.bg (cP (a,b)))]) (.cons (.ax rfl rfl rfl (cB.aj _) (fq (cB.aj _) (cB.isAgg _)) (cB.pure _) rfl) .nil) ah3) rfl ?_;refine bu ?_;refine ai rfl (.eP (x:=iB ((bU 0 1,bV 0 1),(1:Int))) rfl rfl rfl rfl (ab3 _) (anE ((bU 0 1,bV 0 1),(1:Int))) bZ) ?_;refine jA [] rfl rfl (.bQ (f:=139) (cap:=[(LV.bg (cP (a,b)))]) (args:=[ab (bU 0 1)]) rfl (.cons dv .nil) ⟨qj,ah3⟩ (hA0).1 an (fun _ h=>by cases h)) ((hA0).2 _) ?_;refine bw ?_;refine ai rfl (.eP (x:=iB ((bU 0 1,bV 0 1),(1:Int))) rfl rfl rfl rfl (ab3 _) (aoB ((bU 0 1,bV 0 1),(1:Int))) bZ) ?_;refine jA [] rfl rfl (.bQ (f:=139) (cap:=[(LV.bg (cP (a,b)))]) (args:=[ab (bV 0 1)]) rfl (.cons dv .nil) ⟨qj,ah3⟩ (pa).1 an (fun _ h=>by cases h)) ((pa).2 _) ?_;refine cp aK (hSO) ?_;refine aT ?_;refine ai rfl (.eP (x:=iB ((bU 0 1,bV 0 1),(1:Int))) rfl rfl rfl rfl (ab3 _) (aus ((bU 0 1,bV 0 1),(1:Int))) T3) ?_;refine ai rfl (.build (zs:=[.agg [ab 0,ab 0],.v (.int .i64 0)]) akU aex (by simp only[afg];exact⟨⟨_,rfl,ajr _,ic⟩,⟨_,rfl,rfl,ic⟩,fun _ h=>by cases h⟩)) ?_
 refine eD rfl rfl (.l1 (a0:=((bU (a+bU 0 1*(b-a)) (a+bV 0 1*(b-a)),bV (a+bU 0 1*(b-a)) (a+bV 0 1*(b-a))),(1:Int))) rfl) ?_;refine dH rfl (.vE (d:=142) (news:=[iB ((bU (a+bU 0 1*(b-a)) (a+bV 0 1*(b-a)),bV (a+bU 0 1*(b-a)) (a+bV 0 1*(b-a))),(1:Int))]) rfl rfl aeo aeo rtZ adE (oJ.aj _) ae1 (.inl ⟨141,0,_,rfl,rfl,rfl,by simp,rfl,by simp[aN,oJ.pure]⟩) az az az an) ?_;refine bx ?_;refine jR ?_;refine aA ?_;refine ny ?_;refine cg ?_;refine jR ?_;refine aA ?_;refine ny ?_;refine gA ?_;exact vZ [142] rfl rfl (eM (l:=[((bU (a+bU 0 1*(b-a)) (a+bV 0 1*(b-a)),bV (a+bU 0 1*(b-a)) (a+bV 0 1*(b-a))),(1:Int))]) oJ rfl rfl rfl) rfl (.pure rfl) rfl (.pure rfl)
theorem ci0:((0:Nat):Int)=0:=rfl
theorem ci1:((1:Nat):Int)=1:=rfl
theorem ci2:((2:Nat):Int)=2:=rfl
theorem ci3:((3:Nat):Int)=3:=rfl
theorem avw(l:List Rat)(i:Nat)(x:Rat):(fl ab l).set i (ab x)=fl ab (l.set i x):=List.map_set.symm
namespace aq9
theorem aD{p q:Prop}(k:q)(e:p=q:=by simp only[bc,aZ,aW,aS,avw,ci0,ci1,ci2,ci3,Int.reduceSub,Int.reduceAdd,Int.reduceToNat,List.replicate_succ,List.replicate_zero,bF,dO,ff,ij,iG,cw,cd,cy,reduceIte,if_true,if_false,cS,LV.kill,a9];exact rfl):p:=e.mpr k
end aq9
open aq9 in
theorem awz:ar ae 222 [.list 3 ((aH 2 0 1).map ab),ak 2,ab (1/2)] (.aQ [ak 0,.list 3 ([(1/4),(1/2),(1/4)].map ab),iL 0]):=by
 have hIv:=ajl 2 0 1 (1/2) an an an bj bj bj;have zR:ar ae 138 [iL 1] (ab 1):=rS 1 an an;have wA:ar ae 297 [ab 0,ab 1,ab (1/2)] (ab (1/2)):=by
  have:=aoc 0 1 (1/2) bj bj;rwa[show ((1/2)-0:Rat)/(1-0)=(1/2) from by decide +kernel]at this
 have u4:ar ae 19 [ab (1/2),ab 1] (ab (1/2)):=by
  have:=fo (1/2) 1 bj;rwa[show ((1/2):Rat)*1=(1/2) from by decide +kernel]at this
 have z8:ar ae 19 [ab (1/2),ab (1/2)] (ab (1/4)):=by
  have:=fo (1/2) (1/2) bj;rwa[show ((1/2):Rat)*(1/2)=(1/4) from by decide +kernel]at this
 have pa:ar ae 59 [ab 0,ab (1/2)] (ab (1/2)):=by
  have:=gY 0 (1/2) bj;rwa[show (0:Rat)+(1/2)=(1/2) from by decide +kernel]at this
 have qb:ar ae 59 [ab 0,ab (1/4)] (ab (1/4)):=by
  have:=gY 0 (1/4) bj;rwa[show (0:Rat)+(1/4)=(1/4) from by decide +kernel]at this
 have tg:ar ae 59 [ab (1/4),ab (1/4)] (ab (1/2)):=by
  have:=gY (1/4) (1/4) bj;rwa[show ((1/4):Rat)+(1/4)=(1/2) from by decide +kernel]at this
 have tY:ar ae 60 [ab 1,ab (1/2)] (ab (1/2)):=by
  have:=ot 1 (1/2) bj;rwa[show (1:Rat)-(1/2)=(1/2) from by decide +kernel]at this
 refine aE Tryz.func222 (ht:=(agj rfl (bN al 3 _) rfl)) ?_;refine kP (hIv) ?_;refine dx ?_;refine ny ?_;refine bu ?_;refine ai fx (.move _) ?_;refine ai fx (.move _) ?_;refine ai fx (.bin rfl rfl (o5 om om)) ?_;refine ai fx (.bin rfl rfl rfl) ?_;refine ai rfl (.kO rfl ((rfl))) ?_;refine aT ?_;refine ai fx (.move _) ?_;refine ai fx (.move _) ?_;refine ai fx (.bin rfl rfl (qD om om)) ?_;refine ai fx (.move _) ?_;refine ai fx ry ?_;refine ai fx (.bin rfl rfl rfl) ?_;refine ai rfl (.kO rfl ((rfl))) ?_;refine aR ?_;refine rX (b:=_) rfl an ?_;refine cO (zR) ?_;refine cg ?_;refine jR ?_;refine bu ?_;refine pY (b:=_) rfl an ?_;refine bu ?_;refine eD rfl rfl (.gC (n:=2) (m:=2) rfl rfl an an an) ?_;refine bp ?_;refine eW ?_;refine agr ?_
 first|refine ai rfl (.jm (n:=1) (r:=ab 0) rfl en bZ rfl an rfl (al.aj _)) ?_|refine ai rfl (.jm (n:=2) (r:=ab 0) rfl en bZ rfl an rfl (al.aj _)) ?_
 refine aV ?_
 first|refine ai rfl (.jm (n:=3) (r:=ab 1) rfl en bZ rfl an rfl (al.aj _)) ?_|refine ai rfl (.jm (n:=4) (r:=ab 1) rfl en bZ rfl an rfl (al.aj _)) ?_
 refine aR ?_
 try refine aD ?_
 refine cp iM (wA) ?_;refine nB ?_
 try refine aD ?_
 first|refine cp aK u4 ?_|refine cp aK z8 ?_
 try refine aD ?_
 first|refine cp aK pa ?_|refine cp aK qb ?_|refine cp aK tg ?_
 refine aT ?_
 try refine aD ?_
 refine cO (zR) ?_;refine bC (tY) ?_;refine aT ?_
 try refine aD ?_
 first|refine cp aK u4 ?_|refine cp aK z8 ?_
 try refine aD ?_
 first|refine cp aK pa ?_|refine cp aK qb ?_|refine cp aK tg ?_
 refine aT ?_
 try refine aD ?_
 refine ay ?_;refine bX ((av.kill _ 15).trans (av.kill _ 17)) ?_;refine ay ?_;refine oP ?_;refine aV ?_;refine bX (av.ahZ (t:=13) rfl rfl (bS al _) rfl an) ?_;refine cg ?_;refine jR ?_;refine bu ?_;refine pY (b:=_) rfl an ?_;refine bu ?_;refine eD rfl rfl (.gC (n:=3) (m:=3) rfl rfl an an an) ?_;refine bp ?_;refine eW ?_;refine agr ?_
 first|refine ai rfl (.jm (n:=1) (r:=ab 0) rfl en bZ rfl an rfl (al.aj _)) ?_|refine ai rfl (.jm (n:=2) (r:=ab 0) rfl en bZ rfl an rfl (al.aj _)) ?_
 refine aV ?_
 first|refine ai rfl (.jm (n:=3) (r:=ab 1) rfl en bZ rfl an rfl (al.aj _)) ?_|refine ai rfl (.jm (n:=4) (r:=ab 1) rfl en bZ rfl an rfl (al.aj _)) ?_
 refine aR ?_
 try refine aD ?_
 refine cp iM (wA) ?_;refine nB ?_
 try refine aD ?_
 first|refine cp aK u4 ?_|refine cp aK z8 ?_
 try refine aD ?_
 first|refine cp aK pa ?_|refine cp aK qb ?_|refine cp aK tg ?_
 refine aT ?_
 try refine aD ?_
 refine cO (zR) ?_;refine bC (tY) ?_;refine aT ?_
 try refine aD ?_
 first|refine cp aK u4 ?_|refine cp aK z8 ?_
 try refine aD ?_
 first|refine cp aK pa ?_|refine cp aK qb ?_|refine cp aK tg ?_
 refine aT ?_
 try refine aD ?_
 refine ay ?_;refine bX ((av.kill _ 15).trans (av.kill _ 17)) ?_;refine ay ?_;refine eW ?_;refine agr ?_
 first|refine ai rfl (.jm (n:=1) (r:=ab 0) rfl en bZ rfl an rfl (al.aj _)) ?_|refine ai rfl (.jm (n:=2) (r:=ab 0) rfl en bZ rfl an rfl (al.aj _)) ?_
 refine aV ?_
 first|refine ai rfl (.jm (n:=3) (r:=ab 1) rfl en bZ rfl an rfl (al.aj _)) ?_|refine ai rfl (.jm (n:=4) (r:=ab 1) rfl en bZ rfl an rfl (al.aj _)) ?_
 refine aR ?_
 try refine aD ?_
 refine cp iM (wA) ?_;refine nB ?_
 try refine aD ?_
 first|refine cp aK u4 ?_|refine cp aK z8 ?_
 try refine aD ?_
 first|refine cp aK pa ?_|refine cp aK qb ?_|refine cp aK tg ?_
 refine aT ?_
 try refine aD ?_
 refine cO (zR) ?_;refine bC (tY) ?_;refine aT ?_
 try refine aD ?_
 first|refine cp aK u4 ?_|refine cp aK z8 ?_
 try refine aD ?_
 first|refine cp aK pa ?_|refine cp aK qb ?_|refine cp aK tg ?_
 refine aT ?_
 try refine aD ?_
 refine ay ?_;refine bX ((av.kill _ 15).trans (av.kill _ 17)) ?_;refine ay ?_;refine oP ?_;refine aV ?_;refine bX (av.ahZ (t:=13) rfl rfl (bS al _) rfl an) ?_;refine cg ?_;refine jR ?_;refine bu ?_;refine rX (b:=_) rfl an ?_;refine jX ?_;exact vZ [] rfl rfl (.pure rfl) rfl (.pure (bN (l:=[(1/4),(1/2),(1/4)]) al 3)) rfl (.pure rfl)
def pq(q0 q1 q2:Q4):Nat->Q4
 |0=>⟨0,0,0,0⟩
 |j+1=>⟨(pq q0 q1 q2 j).x+([1/4,1/2,1/4]:List Rat).getD j 0*([q0,q1,q2].getD j default).x,(pq q0 q1 q2 j).y+([1/4,1/2,1/4]:List Rat).getD j 0*([q0,q1,q2].getD j default).y,(pq q0 q1 q2 j).z+([1/4,1/2,1/4]:List Rat).getD j 0*([q0,q1,q2].getD j default).z,(pq q0 q1 q2 j).w+([1/4,1/2,1/4]:List Rat).getD j 0*([q0,q1,q2].getD j default).w⟩
theorem ajM:∀j,rl (([1/4,1/2,1/4]:List Rat).getD j 0)<=1
 |0=>by decide +kernel
 |1=>by decide +kernel
 |2=>by decide +kernel
 |_+3=>by show rl 0<=1;decide
theorem apb{q0 q1 q2:Q4}{R:Nat}(h0:nQ R q0)(h1:nQ R q1)(h2:nQ R q2){j:Nat}(h:j<3):nQ R ([q0,q1,q2].getD j default):=by
 obtain rfl|rfl|rfl:j=0\/j=1\/j=2:=aa
 ·exact h0
 ·exact h1
 exact h2
theorem amn{q0 q1 q2:Q4}{R:Nat}(h0:nQ R q0)(h1:nQ R q1)(h2:nQ R q2):∀{j:Nat},j<=3->nQ (1+j*(R+10)) (pq q0 q1 q2 j)
 |0,_=>by
   have e:rl 0=1:=rfl;exact⟨by show rl 0<=_;omega,by show rl 0<=_;omega,by show rl 0<=_;omega,by show rl 0<=_;omega⟩
 |j+1,h=>by
   obtain⟨a1,a2,a3,a4⟩:=amn h0 h1 h2 (j:=j) aa;obtain⟨b1,b2,b3,b4⟩:=apb h0 h1 h2 (j:=j) aa;have hw:=ajM j;have key:∀a b:Rat,rl a<=1+j*(R+10)->rl b<=R->rl (a+([1/4,1/2,1/4]:List Rat).getD j 0*b)<=1+(j+1)*(R+10):=fun a b ha hb=>by
    have h1:=du (([1/4,1/2,1/4]:List Rat).getD j 0) b;have h2:=ks a (([1/4,1/2,1/4]:List Rat).getD j 0*b);rw[ep,vI];omega
   exact⟨key _ _ a1 b1,key _ _ a2 b2,key _ _ a3 b3,key _ _ a4 b4⟩
namespace akO
theorem aD{p q:Prop}(k:q)(e:p=q:=by simp only[bc,aZ,aW,aS,cD,dc,LV.aj,bI,al.aj,wi,cT gp,ij,iG,cw,cd,cy,reduceIte,if_true,if_false,cS,LV.kill,a9];exact rfl):p:=e.mpr k
end akO
open akO in
theorem auo(im ie iw:Q4)(R:Nat)(hR:R<=1000000)(h0:nQ R im)(h1:nQ R ie)(h2:nQ R iw):ar ae 124 [.agg [ak 2,.list 3 ((aH 2 0 1).map ab),.list 12 ([im,ie,iw].map cD)],ab (1/2)] (.aQ [cD (pq im ie iw 3),iL 0]):=by
 have hpS:LV.pure (.agg [ak 2,.list 3 ((aH 2 0 1).map ab),.list 12 ([im,ie,iw].map cD)])=true:=by simp[LV.pure,aN,bS al,gp.pure]
 have mL:=bN al 3 (aH 2 0 1);have pW:([1/4,1/2,1/4]:List Rat).length=3:=rfl;have ka:[im,ie,iw].length=3:=rfl;have hVl:=awz;refine aE Tryz.func124 (ht:=(lf (gp.pure _) rfl)) ?_;refine dx ?_;refine fk (fun L=>∃  (L1:St),(True)/\L=(mS L1 [(2,⟨3,[.agg [ak 2,.list 3 ((aH 2 0 1).map ab),.list 12 ([im,ie,iw].map cD)]],true⟩),(3,⟨3,[ab (1/2)],true⟩),(4,⟨12,[.agg [ab 0,ab 0,ab 0,ab 0]],true⟩),(6,⟨12,[.agg [ab 0,ab 0,ab 0,ab 0]],true⟩)] [(9,iL 0),(8,.list 3 (([1/4,1/2,1/4]:List Rat).map ab)),(7,iL 0),(6,.ax 6 12 0 0),(5,iL 0),(4,.ax 4 12 0 0),(3,.ax 3 3 0 0),(2,.ax 2 3 0 0)])) ?_ ?_
 ·refine aA ?_
  try refine aD ?_
  refine cF rfl (.cons (.pure mL) (.cons (.pure rfl) (.cons (.pure (al.pure _)) .nil))) hVl ?_;refine bx ?_;exact vB
 rintro _ ⟨LR2,-,rfl⟩;refine aP ?_;refine ai fx (.move _) ?_;refine ai fx (.move _) ?_;refine ai fx ry ?_;refine ai fx (.bin rfl rfl (qD om om)) ?_;refine ai fx faA ?_;refine ai fx mb ?_;refine ai fx ry ?_;refine ai fx (.bin rfl rfl rfl) ?_;refine ai rfl (.kO rfl ((rfl))) ?_;refine aR ?_;refine ny ?_;refine cg ?_;refine da (fun(j:Nat) L=>(mS L [(2,⟨3,[.agg [ak 2,.list 3 ((aH 2 0 1).map ab),.list 12 ([im,ie,iw].map cD)]],true⟩),(3,⟨3,[ab (1/2)],true⟩),(4,⟨12,[.agg [ab 0,ab 0,ab 0,ab 0]],true⟩),(6,⟨12,[cD (pq im ie iw j)],true⟩)] [(38,ak j),(37,ak 3),(36,.list 3 (([1/4,1/2,1/4]:List Rat).map ab)),(9,iL 0),(8,.list 3 (([1/4,1/2,1/4]:List Rat).map ab)),(7,iL 0),(6,.ax 6 12 0 0),(5,iL 0),(4,.ax 4 12 0 0),(3,.ax 3 3 0 0),(2,.ax 2 3 0 0)])) (fun j=>j<=3) (fun j=>3-j) 0 an ?_;rintro j L1 hj;refine aA ?_;refine au rfl ?_ ?_<;>intro ady h39
 ·have fA:j<3:=aa;obtain⟨a1,a2,a3,a4⟩:=amn h0 h1 h2 hj;obtain⟨b1,b2,b3,b4⟩:=apb h0 h1 h2 fA;have hw:=ajM j;have hjr:j*(R+10)<=2*(R+10):=dT _ aa;have hA9:cj .add .i64 0 (j:Int)=some (.int .i64 (j:Int)):=by
   have:=(qD aa aa:cj .add .i64 0 (j:Int)=some (.int .i64 (0+(j:Int))));rwa[Int.zero_add]at this
  have mx:=du (([1/4,1/2,1/4]:List Rat).getD j 0) ([im,ie,iw].getD j default).x;have px:=fo (([1/4,1/2,1/4]:List Rat).getD j 0) ([im,ie,iw].getD j default).x aa;have sx:=gY (pq im ie iw j).x ((([1/4,1/2,1/4]:List Rat).getD j 0)*([im,ie,iw].getD j default).x) aa;have my:=du (([1/4,1/2,1/4]:List Rat).getD j 0) ([im,ie,iw].getD j default).y;have py:=fo (([1/4,1/2,1/4]:List Rat).getD j 0) ([im,ie,iw].getD j default).y aa;have sy:=gY (pq im ie iw j).y ((([1/4,1/2,1/4]:List Rat).getD j 0)*([im,ie,iw].getD j default).y) aa;have mz:=du (([1/4,1/2,1/4]:List Rat).getD j 0) ([im,ie,iw].getD j default).z;have pz:=fo (([1/4,1/2,1/4]:List Rat).getD j 0) ([im,ie,iw].getD j default).z aa;have sz:=gY (pq im ie iw j).z ((([1/4,1/2,1/4]:List Rat).getD j 0)*([im,ie,iw].getD j default).z) aa;have mw:=du (([1/4,1/2,1/4]:List Rat).getD j 0) ([im,ie,iw].getD j default).w;have pw:=fo (([1/4,1/2,1/4]:List Rat).getD j 0) ([im,ie,iw].getD j default).w aa;have sw:=gY (pq im ie iw j).w ((([1/4,1/2,1/4]:List Rat).getD j 0)*([im,ie,iw].getD j default).w) aa;refine iQ ?_;refine adp ?_
  try refine aD ?_
  refine aR ?_
  try refine aD ?_
  refine cF rfl (.cons (.pure (al.pure _)) (.cons (.pure (al.pure _)) (.nil))) px ?_
  try refine aD ?_
  refine cF rfl (.cons (.pure (al.pure _)) (.cons (.pure (al.pure _)) (.nil))) sx ?_;refine aT ?_
  try refine aD ?_
  refine bx ?_;refine adp ?_
  try refine aD ?_
  refine aR ?_
  try refine aD ?_
  refine cF rfl (.cons (.pure (al.pure _)) (.cons (.pure (al.pure _)) (.nil))) py ?_
  try refine aD ?_
  refine cF rfl (.cons (.pure (al.pure _)) (.cons (.pure (al.pure _)) (.nil))) sy ?_;refine aT ?_
  try refine aD ?_
  refine bx ?_;refine adp ?_
  try refine aD ?_
  refine aR ?_
  try refine aD ?_
  refine cF rfl (.cons (.pure (al.pure _)) (.cons (.pure (al.pure _)) (.nil))) pz ?_
  try refine aD ?_
  refine cF rfl (.cons (.pure (al.pure _)) (.cons (.pure (al.pure _)) (.nil))) sz ?_;refine aT ?_
  try refine aD ?_
  refine bx ?_;refine adp ?_
  try refine aD ?_
  refine aR ?_
  try refine aD ?_
  refine cF rfl (.cons (.pure (al.pure _)) (.cons (.pure (al.pure _)) (.nil))) pw ?_
  try refine aD ?_
  refine cF rfl (.cons (.pure (al.pure _)) (.cons (.pure (al.pure _)) (.nil))) sw ?_;refine aT ?_
  try refine aD ?_
  refine bx ?_;refine oP ?_;refine aA ?_;refine bX (av.kill _ 11) ?_;refine c9 ?_;exact pR
 obtain rfl:j=3:=aa;refine dk ?_;exact ado [] rfl rfl rfl cs (fq cs rfl) sA (.pure (gp.pure (pq im ie iw 3))) rfl (.pure rfl)
theorem asf{α β:Type}[Inhabited α](f:α->β)(l:List α)(d:α){i:Nat}(h:i<l.length):(l.map f).take i++[f (l.getD i d)]=(l.map f).take (i+1):=by
 rw[tt,iT,bf,bO h];rfl
def qc(l:List Int)(k:Nat):V3:=⟨(oq l k).1,(oq l (oq l k).2).1,0⟩
def yU(l:List Int)(k:Nat):Nat:=(oq l (oq l k).2).2
theorem agU(l:List Int)(k:Nat):bE 1 (qc l k):=⟨apc l k,apc l _,by show rl 0<=1;decide⟩
theorem ahV{l:List Int}{k:Nat}(hl:l.length<=500)(hk:k<=500):yU l k<=500:=ae5 hl (ae5 hl hk)
namespace akb
theorem aD{p q:Prop}(k:q)(e:p=q:=by simp only[bc,aZ,aW,aS,l1,ij,iG,cw,cd,cy,reduceIte,if_true,if_false,cS,LV.kill,a9];exact rfl):p:=e.mpr k
end akb
open akb in
theorem agM(l:List Int)(k:Nat)(hl:l.length<=500)(hk:k<=500):jt ae 10 ⟨2,[jD l k],true⟩ [.ax 0 2 0 0] (aB (qc l k)) ⟨2,[jD l (yU l k)],true⟩:=by
 have k1:=ae5 (l:=l) hl hk;refine tr Tryz.func10 ?_;refine bu ?_;refine og 0 rfl rfl rfl (dX l _) (.cons .ptr .nil) .ptr (akD l k aa aa) rfl (dX l _) (al.pure _) ?_;refine aT ?_;refine og 0 rfl rfl rfl (dX l _) (.cons .ptr .nil) .ptr (akD l (oq l k).2 aa aa) rfl (dX l _) (al.pure _) ?_;refine vd (aeI rfl rfl) ?_;refine ay ?_;exact afc rfl rfl cs (fq cs rfl) kt (.pure pu) rfl rfl (dX l _)
namespace akt
theorem aD{p q:Prop}(k:q)(e:p=q:=by simp only[bc,aZ,aW,aS,jH,kC,bF,jW,dO,ff,eF,List.map_nil,gE,eX,cT al,cw,cd,cy,reduceIte,if_true,if_false,cS,LV.kill,a9];exact rfl):p:=e.mpr k
end akt
open akt in
theorem apX(l:List Int)(hl:l.length<=1000)(hb:∀x∈l,-1000<=x/\x<=1000):ke ae 129 [.list 1 (l.map jx)] (.ref 1 3 0 l.length) [⟨3,(l.map fun x:Int=>(x:Rat)).map ab,true⟩]:=by
 refine xe Tryz.func129 ?_;have jH:True:=trivial;have kC:True:=trivial;refine nk ?_;refine kD (av.own (t:=3) 16 3 rfl rfl) ?_;refine da (fun(k:Nat) L=>(mS L [(16,⟨3,((l.map fun x:Int=>(x:Rat)).take k).map ab,true⟩)] [(8,ak k),(7,ak l.length),(6,.list 1 (l.map jx)),(3,.ref 16 3 0 k),(0,.list 1 (l.map jx))])) (fun k=>k<=l.length) (fun k=>l.length-k) 0 (bJ _) ?_;rintro k L1 hk;refine aA ?_;refine au rfl ?_ ?_<;>intro sB h9
 ·have eQ:k<l.length:=aa;have gR:=hb (l.getD k 0) (by rw[bf,bO eQ];exact rA eQ);have kC:=asf (fun x:Int=>(x:Rat)) l 0 eQ;have jH:(((l.map fun x:Int=>(x:Rat)).take k).map ab).take k=((l.map fun x:Int=>(x:Rat)).take k).map ab:=cW vc;have hlr:(l.map fun x:Int=>(x:Rat)).length=l.length:=bF ..;refine cO (rS (l.getD k 0) aa aa) ?_;refine aT ?_;refine dH rfl (.iJ (d:=16) (news:=[ab ((l.getD k 0):Rat)]) rfl rfl rfl rfl bm (.inl rfl) an en en jB bZ rfl mG (.inl ⟨15,0,_,rfl,by decide,rfl,rfl,by simp,rfl,by simp[aN,al.pure]⟩) bm bm an) ?_;refine ay ?_;refine bX (av.kill _ 15) ?_;refine c9 ?_;exact fj (k+1) aa
 obtain rfl:k=l.length:=aa;have hE:(l.map fun x:Int=>(x:Rat)).take l.length=(l.map fun x:Int=>(x:Rat)):=cW (by rw[bF];exact bA _);simp only[hE];refine bp ?_;exact aaw rfl rfl (bS al _)
theorem alm(l:List Int)(hl:l.length<=1000)(hb:∀x∈l,-1000<=x/\x<=1000):ar ae 129 [.list 1 (l.map jx)] (.list 3 ((l.map fun x:Int=>(x:Rat)).map ab)) :=
 ag8 (apX l hl hb) (bS al _) az
namespace apR
theorem aD{p q:Prop}(k:q)(e:p=q:=by simp only[bc,aZ,aW,aS,awS,axZ,bF,jW,dO,ff,eF,List.map_nil,gE,eX,cT al,cw,cd,cy,reduceIte,if_true,if_false,cS,LV.kill,a9];exact rfl):p:=e.mpr k
end apR
open apR in
theorem aso:ar ae 126 [iL 1] (.list 3 ((aH 2 0 1).map ab)):=by
 have hO:=apX [0,0,0] an an;have hI:=alm [1,1] an an;have awS:a9 1000097 (zP 3 ((([0,0,0]:List Int).map fun x:Int=>(x:Rat)).map ab)++(([1,1]:List Int).map fun x:Int=>(x:Rat)).map ab)=((([0,0,0]:List Int).map fun x:Int=>(x:Rat))++(([1,1]:List Int).map fun x:Int=>(x:Rat))).map ab:=by rw[show zP 3 ((([0,0,0]:List Int).map fun x:Int=>(x:Rat)).map ab)=(([0,0,0]:List Int).map fun x:Int=>(x:Rat)).map ab from rfl,<-aaH,cT al]
 have axZ:a9 17 (zP 5 (((([0,0,0]:List Int).map fun x:Int=>(x:Rat))++(([1,1]:List Int).map fun x:Int=>(x:Rat))).map ab)++[ab 1])=((([0,0,0]:List Int).map fun x:Int=>(x:Rat))++(([1,1]:List Int).map fun x:Int=>(x:Rat))++[1]).map ab:=by rw[show zP 5 (((([0,0,0]:List Int).map fun x:Int=>(x:Rat))++(([1,1]:List Int).map fun x:Int=>(x:Rat))).map ab)=((([0,0,0]:List Int).map fun x:Int=>(x:Rat))++(([1,1]:List Int).map fun x:Int=>(x:Rat))).map ab from rfl,show [ab 1]=[(1:Rat)].map ab from rfl,<-aaH,cT al]
 have hE:([0,0,0]:List Int).map (fun x:Int=>(x:Rat))++([1,1]:List Int).map (fun x:Int=>(x:Rat))++[1]=aH 2 0 1:=bj;have se:ar ae 138 [iL 1] (ab 1):=rS 1 an an;refine aE Tryz.func126 (ht:=(fun g=>LV.dF g _ (bN al 3 _))) ?_;refine bu ?_;refine xG [5] rfl rfl (.cons (eM (l:=[0,0,0]) m8 rfl rfl rfl) .nil) hO (bS al _) rfl ?_;refine cb ?_;refine jR ?_;refine bu ?_;refine pY (b:=_) rfl (rfl) ?_;refine bx ?_;refine zG [15] rfl rfl (.cons (eM (l:=[1,1]) m8 rfl rfl rfl) .nil) hI ?_;refine dH rfl (.iJ (d:=17) (news:=(([1,1]:List Int).map fun x:Int=>(x:Rat)).map ab) rfl rfl rfl rfl an (.inr rfl) an en en jB bZ rfl mG (.inr (.inl rfl)) an an an) ?_;refine cb ?_;refine jR ?_;refine bu ?_;refine ny ?_;refine cO (se) ?_;refine aT ?_;refine dH rfl (.iJ (d:=22) (news:=[ab 1]) rfl rfl rfl rfl an (.inr rfl) an en en jB bZ rfl mG (.inl ⟨21,0,_,rfl,by decide,rfl,rfl,by decide,rfl,by simp[aN,al.pure]⟩) an an an) ?_;refine ay ?_;rw[<-hE];exact nq [22] rfl rfl (eM al rfl rfl rfl)
def lH(p:Int×Int×Int):LV:=.agg [.v (.int .i64 p.1),.v (.int .i64 p.2.1),.v (.int .i64 p.2.2)]
def fN:List (Int×Int×Int):=[(1,0,1),(1,1,1),(0,1,2),(-1,1,1),(-1,0,1),(-1,-1,1),(0,-1,2),(1,-1,1),(1,0,1)]
def jO:List dG:=[⟨⟨1,0,0⟩,1⟩,⟨⟨1,1,0⟩,1⟩,⟨⟨0,1,0⟩,2⟩]
theorem ag4:(LV.agg (fN.map lH)).pure=true:=rfl
instance:UN ae 182 (.array 9 181):=⟨agQ⟩
theorem amP:aX ae 182 27 true:=⟨by kernel_rfl,_,agQ,rfl⟩
theorem az5:ck ae 182 (.agg (aJ 9 (lH (0,0,0)))):=by exact zk (i:=Tryz.t182) gg rfl rfl rfl rfl
instance:TI ae 182 27 true:=⟨amP⟩
instance:ZI ae 182 (.agg (aJ 9 (lH (0,0,0)))):=⟨az5⟩
open oz in
theorem axz:ar ae 127 [] (.agg (fN.map lH)):=by
 refine aE Tryz.func127 (ht:=(fun g=>LV.dF g _ ag4)) ?_;refine aP ?_;refine ai rfl (r:=lH (1,0,1)) (aq.iK (zs:=[iL 0,iL 0,iL 0]) an uP) ?_;refine ai rfl (r:=lH (1,1,1)) (aq.iK (zs:=[iL 0,iL 0,iL 0]) an uP) ?_;refine ai rfl (r:=lH (0,1,2)) (aq.iK (zs:=[iL 0,iL 0,iL 0]) an uP) ?_;refine ai rfl (r:=lH (-1,1,1)) (aq.iK (zs:=[iL 0,iL 0,iL 0]) an uP) ?_;refine ai rfl (r:=lH (-1,0,1)) (aq.iK (zs:=[iL 0,iL 0,iL 0]) an uP) ?_;refine ai rfl (r:=lH (-1,-1,1)) (aq.iK (zs:=[iL 0,iL 0,iL 0]) an uP) ?_;refine ai rfl (r:=lH (0,-1,2)) (aq.iK (zs:=[iL 0,iL 0,iL 0]) an uP) ?_;refine ai rfl (r:=lH (1,-1,1)) (aq.iK (zs:=[iL 0,iL 0,iL 0]) an uP) ?_;refine ai rfl (r:=lH (1,0,1)) (aq.iK (zs:=[iL 0,iL 0,iL 0]) an uP) ?_;refine ai rfl (r:=.agg (fN.map lH)) (aq.iK (zs:=aJ 9 (lH (0,0,0))) an (by intro q hq;simp only[fJ,jN,or_false]at hq;rcases hq with rfl|rfl|rfl|rfl|rfl|rfl|rfl|rfl|rfl<;>exact⟨_,rfl,rfl,ic⟩)) ?_;refine ay ?_;exact iV [] rfl rfl rfl rfl (fq rfl rfl) amP (.pure ag4)
open oz in
theorem axW(p:V3)(n:Int)(hp:bE 1 p)(hn:-1000<=n/\n<=1000):ar ae 128 [aB p,iL n] (dj ⟨p,(n:Rat)⟩):=by
 have se:ar ae 138 [iL n] (ab (n:Rat)):=rS n aa aa;have hA:ar ae 55 [aB p,aB ⟨0,0,0⟩] (aB p):=by
  have:=apj p ⟨0,0,0⟩ 2 an (hp.le an) ⟨by decide,by decide,by decide⟩;rwa[show v3a p ⟨0,0,0⟩=p from by show (⟨p.x+0,p.y+0,p.z+0⟩:V3)=p;rw[sL,sL,sL]]at this
 refine aE Tryz.func128 (ht:=(fun g=>LV.dF g _ (iA.pure _))) ?_;refine cb ?_;refine cF rfl (.cons (.pure (a7.pure p)) (.cons (.pure (a7.pure ⟨0,0,0⟩)) .nil)) hA ?_;refine cO (se) ?_;refine vd (awj (p:=p) (r:=(n:Rat)) rfl rfl) ?_;refine ay ?_;exact iV [] rfl rfl rfl cs (fq cs rfl) vG (.pure pu)
namespace aog
theorem aD{p q:Prop}(k:q)(e:p=q:=by simp only[bc,aZ,aW,aS,pG,tB,jH,kC,bF,jW,dO,ff,eF,List.map_nil,gE,eX,cT iA,cw,cd,cy,reduceIte,if_true,if_false,cS,LV.kill,a9];exact rfl):p:=e.mpr k
end aog
open aog in
theorem azq:ar ae 45 [] (.agg [ak 2,.list 3 ((aH 2 0 1).map ab),.list 12 (jO.map dj)]):=by
 have hRo:=axz;have hCl:=aso;have hq3:jO.length=3:=rfl;have mL:=bN al 3 (aH 2 0 1);refine aE Tryz.func45 (ht:=(fun g=>LV.dF g _ pc)) ?_;have jH:True:=trivial;have kC:True:=trivial;refine aP ?_;refine cF rfl (.cons (.pure rfl) .nil) hCl ?_;refine aP ?_;refine cF rfl .nil hRo ?_;refine aA ?_;refine ah6 0 (av.bg (t:=2) (b:=2) rfl rfl rfl rfl ag4) ?_;simp only[sr,xa];refine abS rfl (akQ (vals:=fN.map lH) (sz:=3) (h:=3) rfl rfl agQ afr an an an (fun y h=>by cases h;exact⟨_,rfl⟩) (fun h=>by cases h)) ?_;simp only[aap,gX];refine aV ?_;refine kD ((av.cell 1 rfl (fun Z μ w cs h=>aeu 28 12 _ _ Z μ w cs h)).trans (av.tV _ 28 12 rfl)) ?_;refine da (fun(j:Nat) L=>(mS L [(0,⟨3,[.agg [.v (.int .i64 0),.v (.slice none 0 0),.v (.slice none 0 0)]],true⟩),(1,⟨3,[.agg [ak 2,.list 3 ((aH 2 0 1).map ab),.ref 28 12 0 j]],true⟩),(28,⟨12,(jO.take j).map dj,true⟩)] [(10,ak j),(9,iL 3),(8,.list 3 ((fN.take 3).map lH)),(1,.ax 1 3 0 0),(0,.ax 0 3 0 0)])) (fun j=>j<=3) (fun j=>3-j) 0 an ?_;rintro j L1 hj;refine aA ?_;refine au rfl ?_ ?_<;>intro aaA pQ
 ·have fA:j<3:=aa;have hrb:(-1000<=(fN.getD j (0,0,0)).1/\(fN.getD j (0,0,0)).1<=1000)/\(-1000<=(fN.getD j (0,0,0)).2.1/\(fN.getD j (0,0,0)).2.1<=1000)/\(-1000<=(fN.getD j (0,0,0)).2.2/\(fN.getD j (0,0,0)).2.2<=1000):=by obtain rfl|rfl|rfl:j=0\/j=1\/j=2:=aa<;>decide
  have ll:bE 1 (⟨⟨((fN.getD j (0,0,0)).1:Rat),((fN.getD j (0,0,0)).2.1:Rat),0⟩,((fN.getD j (0,0,0)).2.2:Rat)⟩:dG).p:=by obtain rfl|rfl|rfl:j=0\/j=1\/j=2:=aa<;>exact⟨by decide +kernel,by decide +kernel,by decide +kernel⟩
  have hIn:=alm [(fN.getD j (0,0,0)).1,(fN.getD j (0,0,0)).2.1,0] az (fun x hx=>by simp only[fJ,jN,or_false]at hx;rcases hx with rfl|rfl|rfl<;>omega);have hPo:=axW (⟨⟨((fN.getD j (0,0,0)).1:Rat),((fN.getD j (0,0,0)).2.1:Rat),0⟩,((fN.getD j (0,0,0)).2.2:Rat)⟩:dG).p (fN.getD j (0,0,0)).2.2 ll hrb.2.2;have kC:jO.take j++[(⟨⟨((fN.getD j (0,0,0)).1:Rat),((fN.getD j (0,0,0)).2.1:Rat),0⟩,((fN.getD j (0,0,0)).2.2:Rat)⟩:dG)]=jO.take (j+1):=by obtain rfl|rfl|rfl:j=0\/j=1\/j=2:=aa<;>rfl
  have jH:((jO.take j).map dj).take j=(jO.take j).map dj:=cW bm;refine aA ?_
  try refine aD ?_
  refine ai rfl (.jm (r:=lH (fN.getD j (0,0,0))) rfl Tryz.underlying184 afr rfl aa (by obtain rfl|rfl|rfl:j=0\/j=1\/j=2:=aa<;>rfl) rfl) ?_;refine ai rfl (.jQ rfl rfl rfl rfl) ?_;refine bp ?_;refine zG [20] rfl rfl (.cons (eM (l:=_) m8 rfl rfl rfl) .nil) hIn ?_;refine ai rfl (.v5 (l:=[ab ((fN.getD j (0,0,0)).1:Rat),ab ((fN.getD j (0,0,0)).2.1:Rat),ab 0]) rfl Tryz.underlying31 az (by simp[al.aj])) ?_;refine ai rfl (.jQ rfl (by simp[LV.pure,aN,al.pure]) wL rfl) ?_;refine aR ?_;refine cF rfl (.cons (.pure (a7.pure (⟨⟨((fN.getD j (0,0,0)).1:Rat),((fN.getD j (0,0,0)).2.1:Rat),0⟩,((fN.getD j (0,0,0)).2.2:Rat)⟩:dG).p)) (.cons (.pure rfl) .nil)) hPo ?_;refine aT ?_;refine dH rfl (.iJ (d:=28) (news:=[dj (⟨⟨((fN.getD j (0,0,0)).1:Rat),((fN.getD j (0,0,0)).2.1:Rat),0⟩,((fN.getD j (0,0,0)).2.2:Rat)⟩:dG)]) rfl rfl rfl rfl bm (.inl rfl) an xw xw Z74 (by first|exact vG|(rw[iA.isAgg];exact vG)) cs B74 (.inl ⟨27,0,_,rfl,by decide,rfl,rfl,by simp,rfl,by simp[aN,iA.pure]⟩) bm bm an) ?_;refine aV ?_;refine bX (((av.kill _ 27).trans (av.kill _ 4)).trans (av.kill _ 20)) ?_;refine c9 ?_;exact pR
 obtain rfl:j=3:=aa;have hE:jO.take 3=jO:=rfl;simp only[hE];refine bp ?_;exact iV [28] rfl rfl rfl cs (fq cs rfl) te (.agg (.cons (.pure rfl) (.cons (.pure mL) (.cons (eM (l:=jO) iA rfl rfl rfl) .nil))))
end Go.Proofs.YtbgmjcnjbhhljaaGreat
end
