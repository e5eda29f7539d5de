/- Texts LgS, LgT, LgU, LgV, H1, V1, H2, TW, K3, G1, K5, K8, K9, K13, K2, K10, K7, K11, K14, K16, K18, Y0, TR0, TR1, TR2, TR3, TR4, LgW, LgX, LgC, TR5, TBD of this proof, joined. -/
import Derived.Test.YtbgmjcnjbhhljaaGreatQX4
set_option linter.unusedVariables false
set_option linter.unusedSimpArgs false
open Array renaming ext_getElem?->ajN,getD_eq_getD_getElem?->cU,getElem?_eq_some_iff->fY,getElem?_setIfInBounds_ne->gk,getElem?_setIfInBounds_self_of_lt->kq,mem_toList_iff->abG
open Bool renaming and_eq_true->cY,not_eq_true->yO,not_eq_true'->wa,or_eq_true->qt
open Classical renaming propDecidable->uJ
open Go.Proofs.Tryz renaming prog->ae,underlying205->abJ,underlying22->abM,underlying37->xW,underlying42->wR,underlying53->en
open Iff renaming rfl->ahm
open Int renaming toNat_natCast->akR
open List renaming all_eq_true->mg,append_assoc->wC,append_nil->eX,cons_append->rq,contains_iff_mem->oO,drop_succ_cons->aap,drop_zero->gX,filter_append->anW,filter_cons->am7,filter_nil->aqR,foldl->zL,getD_cons_succ->iG,getD_cons_zero->ij,getD_eq_getElem?_getD->bf,getElem?_eq_getElem->bO,getElem?_eq_some_iff->lg,getElem?_map->iT,getElem_mem->rA,length_cons->dO,length_map->bF,length_nil->ff,length_take->eE,map->fl,map_append->aaH,map_congr_left->yt,map_cons->jh,map_nil->nK,map_take->pU,mem_append->p7,mem_cons->fJ,mem_filterMap->ui,mem_map->fB,mem_or_eq_of_mem_set->abX,mem_range->xL,mem_toArray->apk,nil_append->eF,not_mem_nil->jN,range->eH,range_succ->aaa,replicate->aJ,replicate_zero->aii,set->aax,set_cons_succ->cd,set_cons_zero->cw,take_add_one->tt,take_append_drop->mP,take_length->je,take_nil->gE,take_of_length_le->cW,take_succ_cons->sr,take_zero->xa
open List.cons renaming injEq->dq
open Nat renaming add_assoc->od,beq_eq->sR,le_refl->bA,le_trans->bW,lt_or_ge->fH,mod_lt->gl,mul_le_mul->rF,reduceAdd->aW,reduceBEq->aS,reduceEqDiff->cy,reduceMul->aZ,sub_self->sS,zero_add->fW,zero_le->bJ
open Option renaming bind_some->wQ,isNone_iff_eq_none->rT,map_some->kj
open Option.some renaming injEq->dN
open Prod renaming ext->ad9,fst->ak8,snd->aoR
open Prod.mk renaming injEq->uQ
open Rat renaming add_zero->sL,mul_comm->aov,mul_eq_zero->rI,mul_nonneg->aiy,mul_pos->anU
section
set_option linter.unusedVariables false
set_option linter.unusedSimpArgs false
namespace Go.Lg
def kZ:Op->Bool
 | .move _=>true
 | .pick ..=>true
 | .binOp ..=>true
 | .load ..=>true
 | .fieldAddr ..=>true
 | .indexAddr ..=>true
 | .call ⟨.builtin .len,_,_⟩=>true
 |_=>false
section
variable {P:Program} {H:bn} {ρ mK:Operand->LV}
theorem aq.abB{op:Op}{r:LV}(h:aq P H ρ op r)(hp:kZ op=true)(hr:∀x∈op.operands,mK x=ρ x):aq P H mK op r:=by
 cases h with
 |move x=>rw[<-hr x aY];exact .move x
 |pick hc =>
  rename_i c x y t;have e1:=hr x aY;have e2:=hr y aY;have:=aq.pick (P:=P) (H:=H) (ρ:=mK) (x:=x) (y:=y) ((hr _ aY).trans hc);rw[e1,e2]at this;exact this
 |bin hx hy h=>exact .bin ((hr _ aY).trans hx) ((hr _ aY).trans hy) h
 |sh hx hy h=>exact .sh ((hr _ aY).trans hx) ((hr _ aY).trans hy) h
 |beq hx hy hT=>exact .beq ((hr _ aY).trans hx) ((hr _ aY).trans hy) hT
 |bne hx hy hT=>exact .bne ((hr _ aY).trans hx) ((hr _ aY).trans hy) hT
 |tM hx hy h=>exact .tM ((hr _ aY).trans hx) ((hr _ aY).trans hy) h
 |uU hx hy=>exact .uU ((hr _ aY).trans hx) ((hr _ aY).trans hy)
 |uO hx hy hT=>exact .uO ((hr _ aY).trans hx) ((hr _ aY).trans hy) hT
 |uy hx hy hT=>exact .uy ((hr _ aY).trans hx) ((hr _ aY).trans hy) hT
 |tF hx hy hT hE hs hd=>exact .tF ((hr _ aY).trans hx) ((hr _ aY).trans hy) hT hE hs hd
 |sQ hq hT nU=>exact .sQ ((hr _ aY).trans hq) hT nU
 |wj hq hT hk=>exact .wj ((hr _ aY).trans hq) hT hk
 |xB hq hT hc=>exact .xB ((hr _ aY).trans hq) hT hc
 |eP hq hb hs hi hx nU hT=>exact .eP ((hr _ aY).trans hq) hb hs hi hx nU hT
 |wP hx hT hE hi h0 hm=>exact .wP ((hr _ aY).trans hx) hT hE ((hr _ aY).trans hi) h0 hm
 |tf hx hT hE hf hi h0 nU=>exact .tf ((hr _ aY).trans hx) hT hE hf ((hr _ aY).trans hi) h0 nU
 |jm hx hT hE hi h0 nU hc=>exact .jm ((hr _ aY).trans hx) hT hE ((hr _ aY).trans hi) h0 nU hc
 |v5 hx hT h0 hs=>exact .v5 ((hr _ aY).trans hx) hT h0 hs
 |vv hx hT hE hi h0 hn=>exact .vv ((hr _ aY).trans hx) hT hE ((hr _ aY).trans hi) h0 hn
 |um hx has hT=>exact .um ((hr _ gG).trans hx) has hT
 |vF hx has hT=>exact .vF ((hr _ gG).trans hx) has hT
 |vh hx has hT=>exact .vh ((hr _ gG).trans hx) has hT
 |vQ hx has hT=>exact .vQ ((hr _ gG).trans hx) has hT
 |_=>first|(cases hp;done)|(simp[kZ]at hp;done)
end
section
variable {P:Program} {ops:Array Oper}
end
def abE:Op->Bool
 | .move _=>true
 | .binOp ..=>true
 | .fieldAddr ..=>true
 | .indexAddr ..=>true
 | .call ⟨.builtin .len,_,_⟩=>true
 |_=>false
def s8:Op->Bool
 | .store ..=>true
 | .call ⟨.value (.func _),_,_⟩=>true
 |op=>kZ op
theorem awp{op:Op}(h:abE op=true):kZ op=true:=by
 unfold abE at h;split at h<;>first|rfl|cases h
theorem aq.axD{P:Program}{H H':bn}{ρ:Operand->LV}{op:Op}{r:LV}(h:aq P H ρ op r)(hp:abE op=true):aq P H' ρ op r:=by
 cases h with
 |move x=>exact .move x
 |bin hx hy h=>exact .bin hx hy h
 |sh hx hy h=>exact .sh hx hy h
 |beq hx hy hT=>exact .beq hx hy hT
 |bne hx hy hT=>exact .bne hx hy hT
 |tM hx hy h=>exact .tM hx hy h
 |uU hx hy=>exact .uU hx hy
 |uO hx hy hT=>exact .uO hx hy hT
 |uy hx hy hT=>exact .uy hx hy hT
 |tF hx hy hT hE hs hd=>exact .tF hx hy hT hE hs hd
 |sQ hq hT nU=>exact .sQ hq hT nU
 |wj hq hT hk=>exact .wj hq hT hk
 |wP hx hT hE hi h0 hm=>exact .wP hx hT hE hi h0 hm
 |tf hx hT hE hf hi h0 nU=>exact .tf hx hT hE hf hi h0 nU
 |jm hx hT hE hi h0 nU hc=>exact .jm hx hT hE hi h0 nU hc
 |v5 hx hT h0 hs=>exact .v5 hx hT h0 hs
 |vv hx hT hE hi h0 hn=>exact .vv hx hT hE hi h0 hn
 |um hx has hT=>exact .um hx has hT
 |vF hx has hT=>exact .vF hx has hT
 |vh hx has hT=>exact .vh hx has hT
 |vQ hx has hT=>exact .vQ hx has hT
 |_=>first|(cases hp;done)|(simp[abE]at hp;done)
theorem put_comm(L:St){d e:Nat}(h:d≠e)(v r:LV):(L.put (some d) v).put (some e) r=(L.put (some e) r).put (some d) v:=by
 have:∀t,((L.put (some d) v).put (some e) r).slot t=((L.put (some e) r).put (some d) v).slot t:=fun t=>by
  rw[fu,fu,fu,fu];by_cases h1:t=e
  ·rw[if_pos h1,if_neg aa,if_pos h1]
  rw[if_neg h1,if_neg h1]
 exact congrArg (fun f=>St.mk f L.heap) (funext this)
theorem ou(L:St){d:Nat}{e:Option Nat}(h:e≠some d)(v r:LV):(L.put (some d) v).put e r=(L.put e r).put (some d) v:=by
 cases e with
 |none=>rfl
 |some e=>exact put_comm L (fun q=>h (by rw[q])) v r
section
variable {P:Program} {ops:Array Oper}
theorem anK{L:St}{d:Nat}{v:LV}{o:Oper}(h:d∉o.looksAt ops):∀x∈o.op.operands,(L.put (some d) v).ev x=L.ev x:=fun x hx=>by
 cases x with
 |tmp t =>
  have ht:t∈o.looksAt ops:=by
   unfold Oper.looksAt;simp only[p7,ui];exact .inl ⟨.tmp t,by simpa using hx,rfl⟩
  show (L.put (some d) v).slot t=L.slot t;rw[fu,if_neg (fun q=>h (by rw[<-q];exact ht))]
 |const v=>rfl
 |func f=>rfl
 |global f=>rfl
theorem oT{L:St}{d:Nat}{v:LV}{o:Oper}{res:Bool}(h:d∉o.looksAt ops)(hg:cI ops (L.put (some d) v) o res):cI ops L o res:=by
 unfold cI at hg ⊢
 cases hh:o.guard with
 |none=>rw[hh]at hg;exact hg
 |some pr =>
  obtain⟨j,want⟩:=pr;rw[hh]at hg;obtain⟨t,q1',q'⟩:=hg;have aG:t≠d:=fun q=>h (by rw[<-q];unfold Oper.looksAt;rw[hh];simp[q1']);have e1:(L.put (some d) v).slot t=L.slot t:=by rw[fu,if_neg aG]
  refine⟨t,q1',?_⟩;show (∃b,L.slot t=_/\_)\/(L.slot t=_/\_);rw[<-e1];exact q'
theorem qB{f:Operand}{xs:Array Operand}{mh:Array TypeId}{x:Operand}(h:x∈xs.toList):x∈(Op.call ⟨.value f,xs,mh⟩).operands:=by
 have:=abG.1 h;simp[Op.operands,Call.operands,this]
theorem ayb{L L2:St}{d:Nat}{v:LV}{o:Oper}(hk:s8 o.op=true)(hl:d∉o.looksAt ops)(hd:o.dst≠some d)(h:Step P false ops o (L.put (some d) v) L2):
  ∃L1,Step P false ops o L L1/\L2=L1.put (some d) v/\∀t,o.dst≠some t->L1.slot t=L.slot t:=by
 have eC:=anK (L:=L) (v:=v) hl;have jc:∀(M:St) (r:LV) t,M.slot t=L.slot t->o.dst≠some t->(M.put o.dst r).slot t=L.slot t:=fun M r t hM aG=>by
  cases hh:o.dst with
  |none=>exact hM
  |some e=>rw[fu,if_neg (fun q=>aG (by rw[hh,q]))];exact hM
 cases h with
 |skip hg hL=>exact⟨L.put o.dst (.aQ []),.skip (oT hl hg) rfl,by rw[hL,ou L hd],fun t ht=>jc L _ t rfl ht⟩
 | @val r fr H1 hg hle cJ jM hL =>
  obtain⟨dst,op,ty,pos,after,gd⟩:=o;have aaz:∀x∈op.operands,L.ev x=(L.put (some d) v).ev x:=fun x hx=>(eC x hx).symm;have zd:jd P H1 L.ev (dst.getD 0) op r fr:=by
   cases jM with
   |pure hp =>
    by_cases ix:kZ op=true
    ·exact .pure (hp.abB ix aaz)
    cases hp with
    |v9 hf mC hb hn he hx hr h1 h2 =>
     refine .pure (.v9 hf mC hb hn he ?_ hr h1 h2);rw[<-hx];exact yt fun x rB=>aaz x (qB rB)
    |_=>first|(exfalso;exact ix rfl)|(exfalso;revert hk ix;simp[s8,kZ])
   |alloc ha=>cases ha<;>(exfalso;revert hk;simp[s8,kZ])
   |call hc =>
    cases hc with
    |func ha pf hlen g8 =>
     refine .call (.func ?_ pf hlen g8);rw[show (_:Array Operand).toList.map L.ev=_ from yt fun x rB=>aaz x (qB rB)];exact ha
    |xZ hx ha hb pf hlen g8=>exact .call (.xZ ((aaz _ (qB az)).trans hx) ha hb pf hlen g8)
    |bQ=>exfalso;revert hk;simp[s8,kZ]
    |mk=>exfalso;revert hk;simp[s8,kZ]
  refine⟨⟨(L.put dst r).slot,H1⟩,.val (oT hl hg) hle cJ zd rfl,?_,fun t ht=>jc L r t rfl ht⟩;rw[hL];have:=ou L hd v r;exact congrArg (fun M=>St.mk (St.slot M) H1) this
 |st hg oH =>
  obtain⟨dst,op,ty,pos,after,gd⟩:=o
  cases oH with
  |store hp hb hs hm hi hy ki hT aG =>
   rename_i T p x b sz i o' blk y y';have e1:=eC p aY;have e2:=eC x aY;rw[e1]at hp;rw[e2]at ki hT aG;refine⟨_,.st (oT hl hg) (.store hp hb hs hm hi hy ki hT aG),?_,fun t ht=>?_⟩
   ·exact ou (L.a5 b _) hd v .any
   exact jc (L.a5 b _) .any t rfl ht
  |_=>exfalso;revert hk;simp[s8,kZ]
 |stM ec hg gM =>
  obtain⟨dst,op,ty,pos,after,gd⟩:=o
  cases gM with
  |call hb hm hp ha hn pf lQ fy =>
   rename_i f xs mh args r b blk blk';have em:xs.toList.map (L.put (some d) v).ev=xs.toList.map L.ev:=yt fun x rB=>eC x (qB rB);rw[em]at ha hn;refine⟨_,.stM ec (oT hl hg) (.call hb hm hp ha hn pf lQ fy),?_,fun t ht=>?_⟩
   ·exact ou (L.a5 b _) hd v _
   exact jc (L.a5 b _) _ t rfl ht
  |aef=>exfalso;revert hk;simp[s8,kZ]
  |aey=>exfalso;revert hk;simp[s8,kZ]
  |ovl hf mC hb hn he ht hE hx hy ve h1 h2 cG =>
   rw[eC _ (qB az)]at hx;rw[eC _ (qB az)]at hy;refine⟨_,.stM ec (oT hl hg) (.ovl hf mC hb hn he ht hE hx hy ve h1 h2 cG),?_,fun t ht=>?_⟩
   ·exact ou L hd v _
   exact jc L _ t rfl ht
def ai8(ops:Array Oper)(i:Nat)(D:Array Bool):Bool :=
 D.size==ops.size&&!D.getD i true&&(ik (ops.getD i default)).all (fun j=>D.getD j false)&&(ops.getD i default).guard.isNone&&abE (ops.getD i default).op &&
 (eH ops.size).all fun j=>j==i||D.getD j true||(s8 (ops.getD j default).op&&((ops.getD j default).dst != (ops.getD i default).dst) &&
  (match (ops.getD i default).dst with|some d=>!((ops.getD j default).looksAt ops).contains d||(ik (ops.getD j default)).contains i|none=>false) &&
  (match (ops.getD j default).dst with|some e=>!((ops.getD i default).looksAt ops).contains e|none=>true))
theorem zp{m:Nat}{K:St->Prop}{L:St}{D:Array Bool}{d:Nat}{v:LV}(i:Nat){o:Oper}(ho:ops[i]?=some o)(zS:o.dst=some d)(jg:ai8 ops i D=true)(hv:aq P L.heap L.ev o.op v)
  (h:iq P ops m (D.setIfInBounds i true) (L.put (some d) v) K):iq P ops (m+1) D L K:=by
 have iU:∀i o,ops[i]?=some o->ops.getD i default=o:=fun i o h=>by rw[cU,h];rfl
 have hin:i<ops.size:=(fY.1 ho).1
 let C:Array Bool->Prop:=fun D=>D.size=ops.size/\D.getD i false=false/\(∀j∈ik o,D.getD j false=true)/\∀j oj,ops[j]?=some oj->j≠i->D.getD j false=false ->
  s8 oj.op=true/\oj.dst≠some d/\(d∈oj.looksAt ops->i∈ik oj)/\∀e,oj.dst=some e->e∉o.looksAt ops
 unfold ai8 at jg;rw[iU i o ho,zS]at jg;simp only[cY,mg,xL,qt,beq_iff_eq,wa,rT,bne_iff_ne,ne_eq]at jg;obtain⟨⟨⟨⟨⟨a6,wH⟩,vU⟩,hgd⟩,ael⟩,dz⟩:=jg;have hC:C D:=by
  refine⟨a6,by rw[tk aa false true];exact wH,vU,fun j oj hj aG uF=>?_⟩;have hjl:j<ops.size:=(fY.1 hj).1;have:=dz j hjl;rw[iU j oj hj]at this;rcases this with(q|q)|q
  ·exact absurd q aG
  ·rw[tk aa true false,uF]at q;cases q
  obtain⟨⟨⟨q1,q2⟩,q3⟩,q4⟩:=q;refine⟨q1,q2,fun hm=>?_,fun e he hm=>?_⟩
  ·rcases q3 with q|q
   ·rw[oO.2 hm]at q;cases q
   exact oO.1 q
  rw[he]at q4;simp only[wa]at q4;rw[oO.2 hm]at q4;cases q4
 have ab8:∀L:St,aq P L.heap L.ev o.op v->Step P false ops o L (L.put (some d) v):=fun L hv=>by
  refine .val (fr:=[]) (H1:=L.heap) (r:=v) (by unfold cI;rw[hgd]) (bn.le_refl _) (fun _ _ hh=>by cases hh) (.pure hv) ?_;rw[zS];rfl
 clear a6 wH vU dz;have main:∀(n:Nat) (D:Array Bool) (L:St),C D->aq P L.heap L.ev o.op v->iq P ops n (D.setIfInBounds i true) (L.put (some d) v) K->iq P ops (n+1) D L K:=by
  intro n
  induction n with
  |zero =>
   intro D L ⟨c1,c2,c3,c4⟩ hv hh;have lF:i∈Region.ready .any ops D:=(nM c1).2 ⟨o,ho,by rw[tk aa true false];exact c2,c3⟩;refine⟨fun hr=>(by rw[hr]at lF;cases lF),fun j hj=>?_⟩;by_cases jy:j=i
   ·subst jy;exact⟨o,_,ho,ab8 L hv,hh⟩
   exfalso;obtain⟨oj,h1,h2,h3⟩:=(nM c1).1 hj;have:j∈Region.ready .any ops (D.setIfInBounds i true):=(nM (by simpa using c1)).2 ⟨oj,h1,by
    rw[cU,gk (Ne.symm jy),<-cU];exact h2,fun k hk=>by
    by_cases lL:i=k
    ·subst lL;rw[cU,kq aa];rfl
    rw[cU,gk lL,<-cU];exact h3 k hk⟩
   rw[hh.1]at this;cases this
  |succ n ih =>
   intro D L ⟨c1,c2,c3,c4⟩ hv hh;have lF:i∈Region.ready .any ops D:=(nM c1).2 ⟨o,ho,by rw[tk aa true false];exact c2,c3⟩;refine⟨fun hr=>(by rw[hr]at lF;cases lF),fun j hj=>?_⟩;by_cases jy:j=i
   ·subst jy;exact⟨o,_,ho,ab8 L hv,hh⟩
   obtain⟨oj,h1,h2,h3⟩:=(nM c1).1 hj;have hjl:j<ops.size:=(fY.1 h1).1;have uF:D.getD j false=false:=by rw[tk aa false true];exact h2
   have aix:j∈Region.ready .any ops (D.setIfInBounds i true):=(nM (by simpa using c1)).2 ⟨oj,h1,by
    rw[cU,gk (Ne.symm jy),<-cU];exact h2,fun k hk=>by
    by_cases lL:i=k
    ·subst lL;rw[cU,kq aa];rfl
    rw[cU,gk lL,<-cU];exact h3 k hk⟩
   obtain⟨oj',L2,g1,g2,g3⟩:=hh.2 j aix;rw[h1]at g1;cases g1;obtain⟨k1,k2,k3,k4⟩:=c4 j oj h1 jy uF;have kE:d∉oj.looksAt ops:=fun hm=>by
    have:=h3 i (k3 hm);rw[c2]at this;cases this
   obtain⟨L1,s1,s2,s3⟩:=ayb k1 kE k2 g2;refine⟨oj,L1,h1,s1,ih (D.setIfInBounds j true) L1 ⟨by simpa using c1,?_,fun k hk=>?_,fun k ok hk aG eT=>?_⟩ ?_ ?_⟩
   ·rw[cU,gk jy,<-cU];exact c2
   ·by_cases qh:j=k
    ·subst qh;rw[cU,kq aa];rfl
    rw[cU,gk qh,<-cU];exact c3 k hk
   ·by_cases qh:j=k
    ·subst qh;rw[cU,kq aa]at eT
     cases eT
    rw[cU,gk qh,<-cU]at eT;exact c4 k ok hk aG eT
   ·refine(hv.abB (awp ael) fun x hx=>?_).axD ael
    cases x with
    |tmp t =>
     have ht:t∈o.looksAt ops:=by
      unfold Oper.looksAt;simp only[p7,ui];exact .inl ⟨.tmp t,by simpa using hx,rfl⟩
     exact s3 t (fun q=>k4 t q ht)
    |const v=>rfl
    |func f=>rfl
    |global f=>rfl
   rw[<-s2];have:(D.setIfInBounds j true).setIfInBounds i true=(D.setIfInBounds i true).setIfInBounds j true:=by
    refine ajN fun k=>?_;by_cases q1:i=k
    ·subst q1;rw[kq bm,gk jy,kq aa]
    by_cases q2:j=k
    ·subst q2;rw[gk q1,kq aa,kq bm]
    rw[gk q1,gk q2,gk q2,gk q1]
   rw[this];exact g3
 exact main m D L hC hv h
end
theorem av.bo{L:St}{t:Nat}{x y:LV}(bs:List Nat)(h0:bs.contains 0=false)(h:L.slot t=x)(hi:bR (L.bo bs).heap x y):av L ((L.bo bs).put (some t) y):=by
 rintro n W X Z0 a w ⟨cZ,a6,μ,Z,hc,hr⟩;obtain⟨Z',hc',hz⟩:=hc.tq (r8 bs h0);refine⟨cZ,a6,μ,Z',by rw[gD];exact hc',fun s=>?_⟩;have hm:=aC.mono hz (fun _ _ h=>h) (Frame.refl Z μ w) (hr s);rw[fu];split
 ·rename_i dL;subst dL;rw[h]at hm;exact aC.nZ (LV.dV hi.lay.2.2) (bR.aaK (aF:=μ) hc' hi hm)
 exact hm
theorem av.hand{L:St}{t:Nat}{α:Type}{e:α->LV}{ag:Bool}{b sz len:Nat}{l:List α}{m:Bool}(he:fe e sz ag)(h:L.slot t=.ref b sz 0 len)(hb:L.heap b=some ⟨sz,l.map e,m⟩)(hl:len=l.length)(h0:b≠0:=by decide):
  av L ((L.put (some t) (.list sz (l.map e))).kill b):=by
 have yr:([b]:List Nat).contains 0=false:=bm;have e1:=(av.bo [b] yr h (eM (bs:=[b]) he hb az hl)).trans (av.kill _ b h0);have e2:((L.bo [b]).put (some t) (.list sz (l.map e))).kill b=(L.put (some t) (.list sz (l.map e))).kill b:=by
  unfold St.kill;congr 1;funext c;rw[gD,gD];by_cases il:c=b
  ·simp[il]
  simp only[St.bo,if_neg il]
  cases L.heap c with
  |none=>rfl
  |some blk=>simp[il]
 rw[<-e2];exact e1
theorem av.bg{L:St}{t b sz:Nat}{y:LV}{m:Bool}(h:L.slot t=.ax b sz 0 0)(hb:L.heap b=some ⟨sz,[y],m⟩)(hs:y.aj=sz)(ha:y.isAgg=true)(hp:y.pure=true)(h0:b≠0:=by decide):av L ((L.put (some t) (.bg y)).kill b):=by
 have yr:([b]:List Nat).contains 0=false:=bm;have e1:=(av.bo [b] yr h (.ax (blk:=⟨sz,[y],m&&!([b]:List Nat).contains b⟩) (x:=y) (n:=sz) (ag:=true) (by simp only[St.bo,hb,kj]) rfl rfl hs (fq hs ha) hp az)).trans (av.kill _ b h0);have e2:((L.bo [b]).put (some t) (.bg y)).kill b=(L.put (some t) (.bg y)).kill b:=by
  unfold St.kill;congr 1;funext c;rw[gD,gD];by_cases il:c=b
  ·simp[il]
  simp only[St.bo,if_neg il]
  cases L.heap c with
  |none=>rfl
  |some blk=>simp[il]
 rw[<-e2];exact e1
theorem alu{P:Program}{L L0:St}{Q:gI->St->Prop}{ops:Array Oper}{id:Nat}(hw:av L L0)(h:iq P ops ops.size (Array.replicate ops.size false) L0 (Q .normal)):bM P (.region id ops true) Q L:=⟨L0,hw,.inr (.inl ⟨rfl,h⟩)⟩
def abW:Op->Bool
 | .store ..=>true
 | .build ..=>true
 | .box ..=>true
 | .alloc ..=>true
 | .buildSlice ..=>true
 | .makeSlice ..=>true
 | .call ⟨.value (.func _),_,_⟩=>true
 | .call ⟨.builtin .append,_,_⟩=>true
 |op=>kZ op
section
variable {P:Program} {H:bn} {ρ mK:Operand->LV}
theorem afx{ps:Array (Nat×Operand)}(hr:∀p∈ps.toList,mK p.2=ρ p.2):(ps.toList.map fun p=>(p.1,ρ p.2))=ps.toList.map fun p=>(p.1,mK p.2) :=
 yt fun p hp=>by rw[hr p hp]
theorem cH.abB{d:Nat}{op:Op}{r:LV}{blk:aL}(h:cH P ρ d op r blk)(hr:∀x∈op.operands,mK x=ρ x):cH P mK d op r blk:=by
 cases h with
 |make hT hz hE cu hb hl hc iz hm fh=>exact .make hT hz hE cu hb ((hr _ aY).trans hl) ((hr _ aY).trans hc) iz hm fh
 | @lit T E n ps z sz hT hz hE cu hn h0 cG hp =>
  have hq:∀p∈ps.toList,mK p.2=ρ p.2:=fun p hp=>hr _ (by simp only[Op.operands,apk];exact fB.2 ⟨p,hp,rfl⟩);rw[afx hq];exact .lit hT hz hE cu hn h0 cG fun p fy=>by rw[hq p fy];exact hp p fy
 |adT hT hE=>exact .adT hT hE
 | @box T x aG =>
  have e:=hr x aY;rw[<-e];rw[<-e]at aG;exact .box aG
 |alloc hz=>exact .alloc hz
theorem aq.asB{T:TypeId}{ps:Array (Nat×Operand)}{r:LV}(h:aq P H ρ (.build T ps) r)(hr:∀x∈(Op.build T ps).operands,mK x=ρ x):aq P H mK (.build T ps) r:=by
 have hq:∀p∈ps.toList,mK p.2=ρ p.2:=fun p hp=>hr _ (by simp only[Op.operands,apk];exact fB.2 ⟨p,hp,rfl⟩)
 cases h with
 |xm hT hE hf hz hp =>
  rw[afx hq];exact .xm hT hE hf hz fun p fy=>by rw[hq p fy];exact hp p fy
 |build hT hz hp =>
  rw[afx hq];exact .build hT hz fun p fy=>by rw[hq p fy];exact hp p fy
end
theorem azn(L:St){d:Nat}{v:LV}(hv:∀b,v.kill b=v)(b:Nat):(L.put (some d) v).kill b=(L.kill b).put (some d) v:=by
 have h1:∀t,((L.put (some d) v).kill b).slot t=((L.kill b).put (some d) v).slot t:=fun t=>by
  rw[fu];show (((L.put (some d) v).slot t).kill b)=_;rw[fu];split
  ·exact hv b
  rfl
 exact congrArg (fun f=>St.mk f (L.kill b).heap) (funext h1)
section
variable {P:Program} {ops:Array Oper}
def ah5(L:St):List Operand->Prop
 | []=>True
 |x::xs=>(∀b,(L.ev x).kill b=L.ev x)/\ah5 L xs
theorem aj9{L:St}:∀{l:List Operand},ah5 L l->∀x∈l,∀b,(L.ev x).kill b=L.ev x
 |_::_,h,_,.head _=>h.1
 |_::_,h,_,.tail _ hx=>aj9 h.2 _ hx
end
theorem av.ahZ{L:St}{t b sz len:Nat}{vals:List LV}{m:Bool}(h:L.slot t=.ref b sz 0 len)(hb:L.heap b=some ⟨sz,vals,m⟩)(hp:aN vals=true)(hl:len=vals.length)(h0:b≠0):
  av L ((L.put (some t) (.list sz vals)).kill b):=by
 have yr:([b]:List Nat).contains 0=false:=bm;have hi:bR (L.bo [b]).heap (.ref b sz 0 len) (.list sz ((vals.drop 0).take len)):=z6 (bs:=[b]) hb az hp aa;rw[gX,cW aa]at hi;have e1:=(av.bo [b] yr h hi).trans (av.kill _ b h0);have e2:((L.bo [b]).put (some t) (.list sz vals)).kill b=(L.put (some t) (.list sz vals)).kill b:=by
  unfold St.kill;congr 1;funext c;rw[gD,gD];by_cases il:c=b
  ·simp[il]
  simp only[St.bo,if_neg il]
  cases L.heap c with
  |none=>rfl
  |some blk=>simp[il]
 rw[<-e2];exact e1
section
variable {P:Program} {ops:Array Oper}
section
variable {D:Array Bool} {L:St} {K:St->Prop} {fuel:Nat}
end
section
variable {W w:World} {X:XS} {Z0:Nat->Prop} {a:Act} {n:Nat}
end
end
end Go.Lg
end
section
set_option linter.unusedVariables false
set_option linter.unusedSimpArgs false
set_option maxHeartbeats 8000000
set_option maxRecDepth 100000
attribute [local irreducible] Go.Lg.opsL Go.Lg.bM Go.Lg.lq Go.Lg.nJ
namespace Go.Proofs.YtbgmjcnjbhhljaaGreat
open Go.Lg
end Go.Proofs.YtbgmjcnjbhhljaaGreat
namespace Go.Lg
theorem ay2{s:Nat->LV}{sz:Nat}{vals:List LV}{mt:Bool}{x:LV}:(((⟨s,nV [⟨sz,vals,mt⟩]⟩:St).put (some 0) x).kill 1).heap=nV []:=by
 funext b
 match b with
 |0=>rfl
 |1=>rfl
 |b+2=>rfl
theorem ag8{P:Program}{f:FuncId}{args:List LV}{sz n:Nat}{vals:List LV}{mt:Bool}(h:ke P f args (.ref 1 sz 0 n) [⟨sz,vals,mt⟩])(hp:aN vals=true)(hn:vals.length=n):ar P f args (.list sz vals):=by
 refine⟨⟨h.1,fun W Z0 vs hz hr=>Calls.mono (h.2 W Z0 vs hz hr) (fun e w' ⟨v,μ,Z,he,hc,hv⟩=>?_)⟩,fun g=>LV.dF g _ (by simp[LV.pure,hp])⟩;obtain⟨-,-,aF,Z',k1,k2⟩:=av.ahZ (L:=⟨fun t=>[LV.ref 1 sz 0 n].getD t .any,nV [⟨sz,vals,mt⟩]⟩) (t:=0) (b:=1) rfl rfl hp hn.symm an 1 W _ Z0 ⟨#[v],[]⟩ w' ⟨rfl,rfl,μ,Z,hc,fun t=>match t with|0=>hv|_+1=>trivial⟩;exact⟨v,aF,Z',he,ay2▸k1,LV.kM 1 _ (show (LV.list sz vals).pure=true by simp[LV.pure,hp])▸k2 0⟩
end Go.Lg
namespace Go.Proofs.YtbgmjcnjbhhljaaGreat
open Go.Lg
theorem aru(p:List Rat)(hl:p.length<=1048576)(pe:∀x∈p,rl x<=274877906944):ar ae 330 [.list 3 (p.map ab)] (.list 3 (p.map ab)) :=
 ag8 (arq p hl pe) (bS al _) az
def u3(p:List Rat)(i:Nat):Rat:=(if 0<i then((i:Int):Rat)/((p.length:Int):Rat)*p.getD (i-1) 0 else 0)+(if i<p.length then(((p.length:Int)-(i:Int):Int):Rat)/((p.length:Int):Rat)*p.getD i 0 else 0)
def pv(p:List Rat):List Rat:=(eH (p.length+1)).map (u3 p)
def uY:Nat->List Rat->List Rat
 |0,p=>p
 |k+1,p=>uY k (pv p)
def gv(p:List Rat)(n:Nat):List Rat:=uY (n+1-p.length) p
theorem mf(p:List Rat):(pv p).length=p.length+1:=by simp[pv]
theorem ahn{p:List Rat}{i:Nat}(h:i<p.length+1):(pv p).getD i 0=u3 p i:=by
 rw[bf,bO (by rw[mf];exact h)];simp[pv]
theorem ao2:∀(k:Nat) (p:List Rat),(uY k p).length=p.length+k
 |0,p=>rfl
 |k+1,p=>by rw[uY,ao2 k,mf];omega
theorem ako{p:List Rat}{n:Nat}(h:p.length<=n+1):(gv p n).length=n+1:=by rw[gv,ao2];omega
theorem aAH{p:List Rat}{i:Nat}(h0:0<i)(h1:i<p.length):u3 p i=((i:Int):Rat)/((p.length:Int):Rat)*p.getD (i-1) 0+(((p.length:Int)-(i:Int):Int):Rat)/((p.length:Int):Rat)*p.getD i 0:=by
 rw[u3,if_pos h0,if_pos h1]
theorem aBm{p:List Rat}{i:Nat}(h0:0<i)(h1:¬i<p.length):u3 p i=((i:Int):Rat)/((p.length:Int):Rat)*p.getD (i-1) 0:=by
 rw[u3,if_pos h0,if_neg h1,sL]
theorem awt{p:List Rat}{i:Nat}(h0:¬0<i)(h1:i<p.length):u3 p i=(((p.length:Int)-(i:Int):Int):Rat)/((p.length:Int):Rat)*p.getD i 0:=by
 rw[u3,if_neg h0,if_pos h1,Rat.zero_add]
def o7(p:List Rat)(n:Nat):Prop:=(∀x∈p,rl x<=1073741824)/\∀k,p.length+k<=n+1->∀x∈uY k p,rl x<=1073741824
theorem aeK{p:List Rat}{n:Nat}(h:o7 p n)(k:Nat):rl (p.getD k 0)<=1073741824:=kg an h.1 k
theorem aps{p:List Rat}{n:Nat}(hl:p.length<=n)(h:o7 p n):o7 (pv p) n:=⟨h.2 1 aa,fun k hk=>h.2 (k+1) (by rw[mf]at hk;omega)⟩
theorem aqd{p:List Rat}{n:Nat}(h:n+1<=p.length):gv p n=p:=by rw[gv,show n+1-p.length=0 by omega];rfl
theorem azw{p:List Rat}{n:Nat}(h:p.length<=n):uY (n+1-(pv p).length) (pv p)=uY (n+1-p.length) p:=by
 rw[show n+1-p.length=(n+1-(pv p).length)+1 by rw[mf];omega];rfl
def kU(g:Rat->Rat->Rat)(a b:List Rat):List Rat:=(eH a.length).map fun i=>g (a.getD i 0) (b.getD i 0)
theorem wD(g:Rat->Rat->Rat)(a b:List Rat):(kU g a b).length=a.length:=by simp[kU]
theorem axx{g:Rat->Rat->Rat}{a b:List Rat}{i:Nat}(h:i<a.length):(kU g a b).getD i 0=g (a.getD i 0) (b.getD i 0):=by
 rw[bf,bO (by rw[wD];exact h)];simp[kU]
namespace amC
theorem aD{p q:Prop}(k:q)(e:p=q:=by simp only[bc,aZ,aW,aS,dc,List.length_set,List.set_set,egs,egz,eim,Rat.zero_add,cT al,jz,LV.kill,a9];exact rfl):p:=e.mpr k
end amC
open amC in
theorem ajV(p:List Rat)(n:Nat)(rR:0<p.length)(hn:n<=1000)(hl:p.length<=1001)(hs:o7 p n):ar ae 329 [.list 3 (p.map ab),ak n] (.list 3 ((gv p n).map ab)):=by
 refine aE Tryz.func329 ?_;have egs:True:=trivial;have egz:True:=trivial;have eim:True:=trivial;refine cO (aru p aa (fun x hx=>by have:=aeK hs;have h9:=List.getElem_of_mem hx;obtain⟨k,hk,rfl⟩:=h9;have h8:=this k;rw[bf,bO hk]at h8;exact bW h8 an)) ?_;refine aV ?_;refine da (fun(o:List Rat) L=>(mS L [] [(5,.list 3 (o.map ab)),(1,ak n)])) (fun o=>0<o.length/\o.length<=1001/\o7 o n/\uY (n+1-o.length) o=gv p n) (fun o=>n+1-o.length) p ⟨rR,hl,hs,rfl⟩ ?_;rintro o L1 ⟨ho0,cf,w5,hit⟩;refine aP ?_;refine cz 18 rfl ?_ ?_<;>intro abe xU
 ·refine aP ?_;refine au rfl ?_ ?_<;>intro mN mB
  ·have hon:o.length<=n:=aa;refine dk ?_;refine ai rfl nj ?_;refine eD rfl rfl (.gC (n:=(o.length+1)) (m:=(o.length+1)) ml ml om om om) ?_;refine bp ?_;refine iy (fun(i:Nat) (w:List Rat) L=>(mS L [(28,⟨3,w.map ab,true⟩)] [(31,ak i),(30,ak (o.length+1)),(29,.ref 28 3 0 (o.length+1)),(7,.ref 28 3 0 (o.length+1)),(6,ak o.length),(5,.list 3 (o.map ab)),(1,ak n)])) (fun i w=>i<=o.length+1/\w.length=o.length+1/\w.take i=(pv o).take i/\∀x,i<=x->w.getD x 0=0) (fun i w=>o.length+1-i) 0 (aJ (o.length+1) 0) ⟨bJ _,by simp,rfl,fun x _=>by simp[bf,List.getElem?_replicate];split<;>rfl⟩ ?_;rintro i w L2 ⟨hi,fO,iS,hz⟩;refine aA ?_;refine au rfl ?_ ?_<;>intro yZ zH
   ·have dS:i<o.length+1:=aa;have zI:=zY (n:=(i:Int)) (d:=(o.length:Int)) aa aa;have lr:=zY (n:=(o.length:Int)-(i:Int)) (d:=(o.length:Int)) aa aa;have tI:=aeK w5 (i-1);have xh:=aeK w5 i;have pF:=du (((i:Int):Rat)/((o.length:Int):Rat)) (o.getD (i-1) 0);have fh:=du ((((o.length:Int)-(i:Int):Int):Rat)/((o.length:Int):Rat)) (o.getD i 0);have egs:=fun v=>azD (o:=w) (i:=i) (v:=v) aa;have egz:=hz i (bA _);have eim:((i:Int)-1).toNat=i-1:=aa;have hr0:rl 0=1:=rfl;refine jX ?_;refine au rfl ?_ ?_<;>intro tT uZ
    ·have iY:0<i:=aa;refine bC (afI (i:Int) (o.length:Int) aa aa aa aa aa) ?_;refine jX ?_
     try simp only[t1,dc,eim]
     refine cp aK (fo _ _ aa) ?_;refine bp ?_;refine au rfl ?_ ?_<;>intro atc h55
     ·have sE:i<o.length:=aa;refine ay ?_;refine ai rfl nv ?_;refine bC (afI ((o.length:Int)-(i:Int)) (o.length:Int) aa aa aa aa aa) ?_;refine iQ ?_
      try simp only[t1,dc]
      refine cp aK (fo _ _ aa) ?_
      try simp only[t1,dc,fW,egs,egz]
      refine cp aK (gY _ _ aa) ?_;refine aV ?_;refine bX ((av.kill _ 9).trans (av.kill _ 11)) ?_;refine ay ?_;exact fC (i+1) (w.set i (((i:Int):Rat)/((o.length:Int):Rat)*o.getD (i-1) 0+(((o.length:Int)-(i:Int):Int):Rat)/((o.length:Int):Rat)*o.getD i 0)) ⟨aa,by simp[fO],wW (by rw[mf];omega) (by rw[mf];omega) iS (by rw[ahn aa,aAH iY sE]),fun x hx=>by rw[aaV _ _ _ _ aa,if_neg aa];exact hz x aa⟩
     have sE:¬i<o.length:=aa;refine bw ?_;refine bX ((av.kill _ 9).trans (av.kill _ 11)) ?_;refine ay ?_;exact fC (i+1) (w.set i (((i:Int):Rat)/((o.length:Int):Rat)*o.getD (i-1) 0)) ⟨aa,by simp[fO],wW (by rw[mf];omega) (by rw[mf];omega) iS (by rw[ahn aa,aBm iY sE]),fun x hx=>by rw[aaV _ _ _ _ aa,if_neg aa];exact hz x aa⟩
    have iY:¬0<i:=aa;refine cb ?_;refine au rfl ?_ ?_<;>intro atc h55
    ·have sE:i<o.length:=aa;refine ay ?_;refine ai rfl nv ?_;refine bC (afI ((o.length:Int)-(i:Int)) (o.length:Int) aa aa aa aa aa) ?_;refine iQ ?_
     try simp only[t1,dc]
     refine cp aK (fo _ _ aa) ?_
     try simp only[t1,dc,fW,egs,egz]
     refine cp aK (gY _ _ aa) ?_;refine aV ?_;refine bX ((av.kill _ 9).trans (av.kill _ 11)) ?_;refine ay ?_;exact fC (i+1) (w.set i ((((o.length:Int)-(i:Int):Int):Rat)/((o.length:Int):Rat)*o.getD i 0)) ⟨aa,by simp[fO],wW (by rw[mf];omega) (by rw[mf];omega) iS (by rw[ahn aa,awt iY sE]),fun x hx=>by rw[aaV _ _ _ _ aa,if_neg aa];exact hz x aa⟩
    have sE:¬i<o.length:=aa;refine bw ?_;refine bX ((av.kill _ 9).trans (av.kill _ 11)) ?_;refine ay ?_;exact fC (i+1) w (False.elim aa)
   obtain rfl:i=o.length+1:=aa;have hE:w=pv o:=by
    rw[cW aa,cW (by rw[mf];omega)]at iS;exact iS
   subst hE;refine aV ?_;refine bX ((av.bo (t:=7) [28] rfl rfl (eM al rfl rfl (by rw[mf]))).trans (av.kill _ 28)) ?_;refine aV ?_;exact fj (pv o) ⟨by rw[mf];omega,by rw[mf];omega,aps aa w5,by rw[azw aa];exact hit⟩ (hm:=by rw[mf];omega)
  refine bp ?_;have hE:gv p n=o:=by rw[<-hit,show n+1-o.length=0 by omega];rfl
  rw[hE];exact dA
 refine iQ ?_;have hE:gv p n=o:=by rw[<-hit,show n+1-o.length=0 by omega];rfl
 rw[hE];exact dA
def p8:List Rat->List Rat
 |x::y::r=>(y-x)::p8 (y::r)
 |_=>[]
theorem aeC:∀p:List Rat,(p8 p).length=p.length-1
 | []=>rfl
 | [_]=>rfl
 |x::y::r=>by simp[p8,aeC (y::r)]
theorem ahY:∀(p:List Rat) (i:Nat),i+1<p.length->(p8 p).getD i 0=p.getD (i+1) 0-p.getD i 0
 | [],i,h=>by simp at h
 | [_],i,h=>by simp at h
 |x::y::r,0,_=>by simp[p8]
 |x::y::r,i+1,h=>by
   have:=ahY (y::r) i ga;simpa[p8]using this
def gz:Nat->List Rat->List Rat
 |0,p=>p
 |k+1,p=>p8 (gz k p)
theorem ajK(p:List Rat):∀k,(gz k p).length=p.length-k
 |0=>rfl
 |k+1=>by rw[gz,aeC,ajK p k];omega
def eR(p:List Rat):List Rat:=(eH p.length).map fun k=>(iX (p.length-1)).getD k 0*(gz k p).getD 0 0
theorem ad4(p:List Rat):(eR p).length=p.length:=by simp[eR]
theorem atW{p:List Rat}{k:Nat}(h:k<p.length):(eR p).getD k 0=(iX (p.length-1)).getD k 0*(gz k p).getD 0 0:=by
 rw[bf,bO (by rw[ad4];exact h)];simp[eR]
theorem aj7{n:Nat}(hn:n<=1000):∀(k:Nat) (p:List Rat),0<p.length->p.length+k<=n+1->o7 p n->o7 (uY k p) n
 |0,_,_,_,h=>h
 |k+1,p,h0,hk,h=>aj7 hn k (pv p) (by rw[mf];omega) (by rw[mf];omega) (aps aa h)
theorem anm{p:List Rat}{n:Nat}(hn:n<=1000)(h0:0<p.length)(hl:p.length<=n+1)(h:o7 p n)(k:Nat):rl ((gv p n).getD k 0)<=1073741824 :=
 aeK (aj7 hn _ p h0 aa h) k
theorem emx{a b n:Nat}(h:0<a)(h1:a<=n+1)(h2:b<=n+1)(h3:a=n+1\/b=n+1):(if ((b:Nat):Int) > ((a:Nat):Int)then((b:Nat):Int)else((a:Nat):Int))-1=(n:Int):=by
 split<;>omega
theorem emn(a:Nat):(if ((a:Nat):Int)<((a:Nat):Int)then((a:Nat):Int)else((a:Nat):Int))=(a:Int):=by split<;>rfl
theorem axd{a b n:Nat}(h:0<a)(h1:a<=n+1)(h2:b<=n+1)(h3:a=n+1\/b=n+1)(hn:n<=1000):cj .sub .i64 (if ((b:Nat):Int) > ((a:Nat):Int)then((b:Nat):Int)else((a:Nat):Int)) 1=some (.int .i64 ((n:Nat):Int)):=by
 have e:=emx h h1 h2 h3;rw[o5 aa aa,e]
namespace alk
theorem aD{p q:Prop}(k:q)(e:p=q:=by simp only[bc,aZ,aW,aS,dc,alC,elp,elq,emn,cT al,jz,acO,LV.kill,a9];exact rfl):p:=e.mpr k
end alk
open alk in
theorem arX(p q:List Rat)(f:Nat)(g:Rat->Rat->Rat)(n:Nat)(rR:0<p.length)(mQ:0<q.length)(hn:n<=1000)(sH:p.length<=n+1)(zA:q.length<=n+1)(hpq:p.length=n+1\/q.length=n+1)(yI:o7 p n)(hqs:o7 q n)(hf:∀i,ar ae f [ab ((gv p n).getD i 0),ab ((gv q n).getD i 0)] (ab (g ((gv p n).getD i 0) ((gv q n).getD i 0)))):ar ae 298 [.list 3 (p.map ab),.list 3 (q.map ab),.bQ f []] (.list 3 ((kU g (gv p n) (gv q n)).map ab)):=by
 have alC:=emx rR sH zA hpq;have elp:=ako sH;have elq:=ako zA;have jw:(kU g (gv p n) (gv q n)).length=n+1:=by rw[wD,elp]
 refine aE Tryz.func298 ?_;have alC:True:=trivial;have elp:True:=trivial;have elq:True:=trivial;have emn:True:=trivial;refine bp ?_;refine ai rfl (.bin rfl rfl (axd rR sH zA hpq hn)) ?_;refine bC (ajV p n rR hn aa yI) ?_;refine bC (ajV q n mQ hn aa hqs) ?_;refine cb ?_
 try simp only[elp,elq]
 refine aT ?_;refine eD rfl rfl (.gC (n:=(n+1)) (m:=(n+1)) ml ml om om om) ?_;refine bp ?_;refine iy (fun(i:Nat) (w:List Rat) L=>(mS L [(27,⟨3,w.map ab,true⟩)] [(30,ak i),(29,ak (n+1)),(28,.ref 27 3 0 (n+1)),(8,.ref 27 3 0 (n+1)),(2,.bQ f []),(1,.list 3 ((gv q n).map ab)),(0,.list 3 ((gv p n).map ab))])) (fun i w=>i<=n+1/\w.length=n+1/\w.take i=(kU g (gv p n) (gv q n)).take i) (fun i w=>n+1-i) 0 (aJ (n+1) 0) ⟨bJ _,by simp,rfl⟩ ?_;rintro i w L1 ⟨hi,fO,iS⟩;refine aA ?_;refine au rfl ?_ ?_<;>intro an3 h31
 ·have dS:i<n+1:=aa;have hfi:=hf i;refine aip ?_
  try simp only[t1,dc]
  refine jA [] rfl rfl (.bQ (f:=f) (cap:=[]) (args:=[ab ((gv p n).getD i 0),ab ((gv q n).getD i 0)]) rfl (.cons dv (.cons dv .nil)) ⟨rfl,fun _ h=>by cases h⟩ hfi.1 an (fun _ h=>by cases h)) (hfi.2 _) ?_;refine cb ?_;exact fC (i+1) (w.set i (g ((gv p n).getD i 0) ((gv q n).getD i 0))) ⟨aa,by simp[fO],wW aa aa iS (by rw[axx aa])⟩
 obtain rfl:i=n+1:=aa;have hE:w=(kU g (gv p n) (gv q n)):=by
  rw[cW aa,cW aa]at iS;exact iS
 subst hE;refine bp ?_;exact nq [27] rfl rfl (eM al rfl rfl jw.symm)
open H0 in
theorem ayO(p q:List Rat)(n:Nat)(rR:0<p.length)(mQ:0<q.length)(hn:n<=1000)(sH:p.length<=n+1)(zA:q.length<=n+1)(hpq:p.length=n+1\/q.length=n+1)(yI:o7 p n)(hqs:o7 q n):ar ae 228 [.list 3 (p.map ab),.list 3 (q.map ab)] (.list 3 ((kU (·+·) (gv p n) (gv q n)).map ab)):=by
 refine aE Tryz.func228 ?_;refine bx ?_;refine cp iM (arX p q 59 (·+·) n rR mQ hn sH zA hpq yI hqs (fun i=>gY _ _ (by have:=anm hn rR sH yI i;have:=anm hn mQ zA hqs i;omega))) ?_;refine ay ?_;exact dA
open H0 in
theorem avT(q:Rat)(h:rl q<=1099511627776):ar ae 230 [ab q] (bL (bY q != 0)):=by
 refine aE Tryz.func230 ?_;refine bx ?_;refine cp bK (mM _ aa) ?_;refine aV ?_;exact dA
open H0 in
theorem aA0(p:List Rat)(hl:p.length<=1048576)(pe:∀x∈p,rl x<=1099511627776):ar ae 135 [.list 3 (p.map ab)] (bL (!(p.any fun x=>bY x != 0))):=by
 refine aE Tryz.func135 ?_;refine bC (at8 p 230 (fun x=>bY x != 0) hl (fun x hx=>avT x (pe x hx))) ?_;refine aV ?_;exact dA
end Go.Proofs.YtbgmjcnjbhhljaaGreat
namespace Go.Lg
theorem av.cell{L:St}(b:Nat){sz:Nat}{x y:LV}{mt:Bool}(hb:L.heap b=some ⟨sz,[x],mt⟩)(h:∀Z μ w cs,ao Z μ w x cs->ao Z μ w y cs):av L (L.a5 b (some ⟨sz,[y],mt⟩)):=by
 rintro n W X Z0 a w ⟨cZ,a6,μ,Z,hc,hr⟩;refine⟨cZ,a6,μ,Z,?_,hr⟩;have hs:∀c,(L.a5 b (some ⟨sz,[y],mt⟩)).heap c=if c=b then some ⟨sz,[y],mt⟩else L.heap c:=fun c=>rfl
 refine⟨hc.bB,hc.iD,hc.fZ,hc.g9,hc.inj,hc.own,hc.x0,hc.kQ,hc.x1,fun c id blk g1 g2=>?_,fun c id blk g1 g2=>?_,fun c id g1=>?_⟩
 ·rw[hs]at g2;split at g2
  ·rename_i e;subst e;cases g2;exact hc.gL c id ⟨sz,[x],mt⟩ g1 hb
  exact hc.gL c id blk g1 g2
 ·rw[hs]at g2;split at g2
  ·rename_i e;subst e;cases g2;exact hc.bo c id ⟨sz,[x],mt⟩ g1 hb
  exact hc.bo c id blk g1 g2
 obtain⟨blk,k1,k2⟩:=hc.heap c id g1;rw[hs];by_cases e:c=b
 ·subst e;rw[if_pos rfl];rw[hb]at k1
  cases k1
  refine⟨_,rfl,?_⟩;obtain⟨cs,T,part,rest,e1,e2,e3⟩:=k2;refine⟨cs,T,part,rest,e1,e2,?_⟩;simp only[aw]at e3 ⊢;obtain⟨c1,c2,q1,q2,q3,q4⟩:=e3;exact⟨c1,c2,q1,q2,h _ _ _ _ q3,q4⟩
 rw[if_neg e];exact⟨blk,k1,k2⟩
theorem av.tV(L:St)(d sz:Nat)(hd:L.heap d=none):av L (L.a5 d (some ⟨sz,[],true⟩)):=by
 rintro n W X Z0 a w ⟨cZ,a6,μ,Z,hc,hr⟩;refine⟨cZ,a6,μ,Z,?_,hr⟩;refine hc.ag5 fun c id qj=>?_;have:c≠d:=by rintro rfl;rw[rP hc hd]at qj;cases qj
 simp[St.a5,this]
theorem aeu(d sz:Nat)(x y:LV)(Z:Nat->Prop)(μ:Nat->Option Nat)(w:World)(cs:List Value)(h:ao Z μ w (.agg [x,y,.v (.slice none 0 0)]) cs):ao Z μ w (.agg [x,y,.ref d sz 0 0]) cs:=by
 simp only[ao,a8]at h ⊢;obtain⟨c1,c2,e1,e2,e3,c3,c4,e4,e5,e6,c5,c6,e7,e8,e9,e10⟩:=h;exact⟨c1,c2,e1,e2,e3,c3,c4,e4,e5,e6,c5,c6,e7,e8,.inl ⟨e9.1,trivial⟩,e10⟩
end Go.Lg
namespace Go.Proofs.YtbgmjcnjbhhljaaGreat
open Go.Lg
def _root_.Go.Lg.V3.at(p:V3):Nat->Rat
 |0=>p.x
 |1=>p.y
 |_=>p.z
def cR(po:List dG)(k:Nat):List Rat:=po.map fun q=>q.w*q.p.at k
def ef(po:List dG):List Rat:=po.map fun q=>q.w
theorem sb(po:List dG)(k:Nat):(cR po k).length=po.length:=by simp[cR]
theorem uV(po:List dG):(ef po).length=po.length:=by simp[ef]
theorem as4{R:Nat}{p:V3}(h:bE R p):∀k,rl (p.at k)<=R
 |0=>h.1
 |1=>h.2.1
 |_+2=>h.2.2
theorem agd{R:Nat}{po:List dG}(h:∀q∈po,okP R q)(k:Nat):∀x∈cR po k,rl x<=2*R:=fun x hx=>by
 obtain⟨q,hq,rfl⟩:=fB.1 hx;obtain⟨h1,h2,_⟩:=h q hq;have h3:=as4 h1 k;have h4:=du q.w (q.p.at k);show rl (q.w*q.p.at k)<=_;omega
theorem afU{R:Nat}{po:List dG}(h:∀q∈po,okP R q):∀x∈ef po,rl x<=R:=fun x hx=>by
 obtain⟨q,hq,rfl⟩:=fB.1 hx;exact(h q hq).2.1
def yK(po:List dG)(k:Nat):List Rat:=kU (·-·) (oa (iE (cR po k)) (ef po)) (oa (cR po k) (iE (ef po)))
theorem arp{p:List Rat}{n:Nat}(hp:p.length=n+1)(h:∀x∈p,rl x<=1073741824):o7 p n:=⟨h,fun k hk=>by
 obtain rfl:k=0:=aa;exact h⟩
theorem ajv{p q:List Rat}{R:Nat}(h:p.length-1+(q.length-1)<=40)(ix:p.length<=41)(hJ:q.length<=41)(gy:1<=R)(hR:R<=100)(yA:∀x∈p,rl x<=R)(xM:∀x∈q,rl x<=R):∀x∈oa p q,rl x<=344700:=fun x hx=>by
 obtain⟨k,hk,rfl⟩:=fB.1 hx;have hS:=agb ix hJ gy yA xM p.length;have eI:p.length*(q.length*(2*R+5))<=41*(41*205):=rF ix (rF hJ aa);have pk:=kg aa hS k;have hg2:=kg (S:=2) an (abN (n:=p.length-1+(q.length-1)) h) k;have h3:=ab9 ((allM p q p.length).getD k 0) ((iX (p.length-1+(q.length-1))).getD k 0);omega
theorem alV{R:Nat}{p q:List Rat}{g:Rat->Rat->Rat}(hg:∀a b,rl (g a b)<=rl a+rl b+1)(hR:1<=R)(hp:∀x∈p,rl x<=R)(hq:∀x∈q,rl x<=R):∀x∈kU g p q,rl x<=2*R+1:=fun x hx=>by
 obtain⟨i,_,rfl⟩:=fB.1 hx;have h1:=kg hR hp i;have h2:=kg hR hq i;have h3:=hg (p.getD i 0) (q.getD i 0);omega
structure lP (po:List dG) (d:Nat):Prop where
 hl:po.length=d+1
 hd:1<=d
 h6:d<=6
 ok:∀q∈po,okP 1 q
section
variable {po:List dG} {d:Nat} (h:lP po d)
theorem lP.n(h:lP po d)(k:Nat):(cR po k).length=d+1/\∀x∈cR po k,rl x<=2:=⟨by rw[sb,h.hl],agd h.ok k⟩
theorem lP.w(h:lP po d):(ef po).length=d+1/\∀x∈ef po,rl x<=2:=⟨by rw[uV,h.hl],fun x hx=>bW (afU h.ok x hx) an⟩
theorem lP.dn(h:lP po d)(k:Nat):(iE (cR po k)).length=d/\∀x∈iE (cR po k),rl x<=8:=by
 obtain⟨h1,h2⟩:=h.n k;have:=h.hd;have:=h.h6;exact⟨by rw[aaX,h1,if_neg aa];omega,adh an aa h2⟩
theorem lP.dw(h:lP po d):(iE (ef po)).length=d/\∀x∈iE (ef po),rl x<=8:=by
 obtain⟨h1,h2⟩:=h.w;have:=h.hd;have:=h.h6;exact⟨by rw[aaX,h1,if_neg aa];omega,adh an aa h2⟩
theorem lP.m1(h:lP po d)(k:Nat):(oa (iE (cR po k)) (ef po)).length=2*d-1+1/\∀x∈oa (iE (cR po k)) (ef po),rl x<=344700:=by
 obtain⟨h1,h2⟩:=h.dn k;obtain⟨h3,h4⟩:=h.w;have:=h.hd;have:=h.h6;exact⟨by rw[adz,h1,h3];omega,ajv (R:=8) aa aa aa an an h2 (fun x hx=>bW (h4 x hx) an)⟩
theorem lP.m2(h:lP po d)(k:Nat):(oa (cR po k) (iE (ef po))).length=2*d-1+1/\∀x∈oa (cR po k) (iE (ef po)),rl x<=344700:=by
 obtain⟨h1,h2⟩:=h.n k;obtain⟨h3,h4⟩:=h.dw;have:=h.hd;have:=h.h6;exact⟨by rw[adz,h1,h3];omega,ajv (R:=8) aa aa aa an an (fun x hx=>bW (h2 x hx) an) h4⟩
theorem lP.t(h:lP po d)(k:Nat):(yK po k).length=2*d-1+1/\∀x∈yK po k,rl x<=689401:=by
 obtain⟨h1,h2⟩:=h.m1 k;obtain⟨_,h4⟩:=h.m2 k;exact⟨by rw[yK,wD,h1],fun x hx=>alV kW an h2 h4 x hx⟩
end
theorem adj{Z:Nat->Prop}{μ:Nat->Option Nat}{w:World}{cs:List Value}(d sz:Nat)(h:ao Z μ w (.v (.slice none 0 0)) cs):ao Z μ w (.ref d sz 0 0) cs:=by
 simp only[ao]at h ⊢;exact .inl ⟨h.1,trivial⟩
theorem ax4(a b c d:Nat)(sz:Nat)(Z:Nat->Prop)(μ:Nat->Option Nat)(w:World)(cs:List Value)(h:ao Z μ w (.agg [.v (.slice none 0 0),.v (.slice none 0 0),.v (.slice none 0 0),.v (.slice none 0 0)]) cs):
  ao Z μ w (.agg [.ref a sz 0 0,.ref b sz 0 0,.ref c sz 0 0,.ref d sz 0 0]) cs:=by
 simp only[ao.eq_4,a8]at h ⊢;obtain⟨c1,c2,e1,e2,e3,c3,c4,e4,e5,e6,c5,c6,e7,e8,e9,c7,c8,e10,e11,e12,e13⟩:=h;exact⟨c1,c2,e1,e2,adj _ _ e3,c3,c4,e4,e5,adj _ _ e6,c5,c6,e7,e8,adj _ _ e9,c7,c8,e10,e11,adj _ _ e12,e13⟩
theorem x7{α β:Type}[Inhabited α](f:α->β)(l:List α){j:Nat}(h:j<l.length):(l.map f).take j++[f (l.getD j default)]=(l.map f).take (j+1):=by
 rw[tt,iT,bO h,bf,bO h];rfl
theorem afD{po:List dG}{j:Nat}(h:j<po.length):po.getD j default∈po:=by
 rw[bf,bO h];exact rA h
end Go.Proofs.YtbgmjcnjbhhljaaGreat
namespace Go.Lg
end Go.Lg
namespace Go.Proofs.YtbgmjcnjbhhljaaGreat
open Go.Lg
def kd(r:Rat)(p:List Rat):List Rat:=p.map (r*·)
theorem qy(r:Rat)(p:List Rat):(kd r p).length=p.length:=by simp[kd]
theorem asT{r:Rat}{p:List Rat}{i:Nat}(h:i<p.length):(kd r p).getD i 0=r*p.getD i 0:=by
 rw[bf,bO (by rw[qy];exact h),bf,bO h];simp[kd]
theorem acI{r:Rat}{p:List Rat}{R S:Nat}(hr:rl r<=R)(h:∀x∈p,rl x<=S):∀x∈kd r p,rl x<=R+S:=fun x hx=>by
 obtain⟨y,hy,rfl⟩:=fB.1 hx;have h1:=du r y;have h2:=h y hy;show rl (r*y)<=_;omega
namespace akN
theorem aD{p q:Prop}(k:q)(e:p=q:=by simp only[bc,aZ,aW,aS,dc,List.length_set,cT al,jz,acO,LV.kill,a9];exact rfl):p:=e.mpr k
end akN
open akN in
theorem acs(r:Rat)(p:List Rat)(hl:p.length<=1048576)(h:∀x∈p,rl r+rl x<=34359738368):ar ae 227 [ab r,.list 3 (p.map ab)] (.list 3 ((kd r p).map ab)):=by
 refine aE Tryz.func227 ?_;refine cb ?_;refine eD rfl rfl (.gC (n:=p.length) (m:=p.length) ml ml om om om) ?_;refine bp ?_;refine iy (fun(i:Nat) (w:List Rat) L=>(mS L [(2,⟨3,[ab r],true⟩),(10,⟨3,w.map ab,true⟩)] [(13,ak i),(12,ak p.length),(11,.list 3 (p.map ab)),(5,.ref 10 3 0 p.length),(2,.ax 2 3 0 0)])) (fun i w=>i<=p.length/\w.length=p.length/\w.take i=(kd r p).take i) (fun i w=>p.length-i) 0 (aJ p.length 0) ⟨bJ _,by simp,rfl⟩ ?_;rintro i w L1 ⟨hi,fO,iS⟩;refine aA ?_;refine au rfl ?_ ?_<;>intro rV nb
 ·have dS:i<p.length:=aa;have lF:=h _ (df dS);refine bC (fo r (p.getD i 0) aa) ?_
  try simp only[t1,dc]
  refine aV ?_;refine bX (av.kill _ 7) ?_;refine ay ?_;exact fC (i+1) (w.set i (r*p.getD i 0)) ⟨aa,by simp[fO],wW (by rw[qy];omega) (by rw[qy];omega) iS (by rw[asT aa])⟩
 obtain rfl:i=p.length:=aa;have hE:w=(kd r p):=by
  rw[cW aa,cW (by rw[qy];omega)]at iS;exact iS
 subst hE;refine bp ?_;exact nq [10] rfl rfl (eM al rfl rfl (qy r p).symm)
theorem ay9{P:Program}{L:St}{a u:Nat}{T U:TypeId}{b c sz sy:Nat}{x y x' y':LV}{m m':Bool}{n n':Nat}{ag ag':Bool}(bs:List Nat)(h0:bs.contains 0=false)(h:L.slot a=.ax b sz 0 0)(hb:L.heap b=some ⟨sz,[x],m⟩)
  (hx:x.aj=sz) (ru:x.at 0 n ag=some x) (hT:aX P T n ag) (hi:bR (L.bo bs).heap x y) (h':L.slot u=.ax c sy 0 0) (hc:L.heap c=some ⟨sy,[x'],m'⟩)
  (hx':x'.aj=sy) (at1:x'.at 0 n' ag'=some x') (hT':aX P U n' ag') (pd:bR (L.bo bs).heap x' y'):mH P [.cell a T,.cell u U] L (.aQ [y,y']) [] :=
 ⟨[x,x'],[y,y'],(L.bo bs).heap,[],.cons ⟨b,sz,0,0,_,x,n,ag,h,hb,rfl,rfl,hx,ru,hT⟩ (.cons ⟨c,sy,0,0,_,x',n',ag',h',hc,rfl,rfl,hx',at1,hT'⟩ .nil),r8 bs h0,.cons (.cC hi) (.cons (.cC pd) .nil),List.nodup_nil,rfl,fun k b h=>by simp at h,rfl⟩
section
variable {P:Program} {H:bn} {ρ:Operand->LV} {T E:TypeId}
end
theorem aqk{R S:Nat}{p q:List Rat}{g:Rat->Rat->Rat}(hg:∀a b,rl (g a b)<=rl a+rl b+1)(hR:1<=R)(hS:1<=S)(hp:∀x∈p,rl x<=R)(hq:∀x∈q,rl x<=S):∀x∈kU g p q,rl x<=R+S+1:=fun x hx=>by
 obtain⟨i,_,rfl⟩:=fB.1 hx;have h1:=kg hR hp i;have h2:=kg hS hq i;have h3:=hg (p.getD i 0) (q.getD i 0);omega
theorem af5(p q:List Rat)(n:Nat)(hn:n<=40)(hp:p.length=n+1)(hq:q.length=n+1)(yA:∀x∈p,rl x<=1073741824)(xM:∀x∈q,rl x<=1073741824):ar ae 228 [.list 3 (p.map ab),.list 3 (q.map ab)] (.list 3 ((kU (·+·) p q).map ab)):=by
 have:=ayO p q n aa aa aa aa aa (.inl hp) (arp hp yA) (arp hq xM);rwa[aqd aa,aqd aa]at this
def xc{α:Type}(pr:α->Bool)(l:List α):Int:=if l.any pr then(l.findIdx pr:Nat)else -1
theorem ap8{α:Type}[Inhabited α]{pr:α->Bool}{l:List α}{i:Nat}(hi:i<l.length)(h0:∀j,j<i->pr (l.getD j default)=false)(h:pr (l.getD i default)=true):xc pr l=(i:Int):=by
 have hg:∀j (hj:j<l.length),l.getD j default=l[j]:=fun j hj=>by rw[bf,bO hj];rfl
 have e:l.findIdx pr=i:=by
  rw[List.findIdx_eq hi];refine⟨by rw[<-hg i hi];exact h,fun j hj=>?_⟩;rw[<-hg j aa];exact h0 j hj
 have ha:l.any pr=true:=List.any_eq_true.2 ⟨l[i],rA hi,by rw[<-hg i hi];exact h⟩;unfold xc;rw[if_pos ha,e]
theorem aAd{α:Type}[Inhabited α]{pr:α->Bool}{l:List α}(h0:∀j,j<l.length->pr (l.getD j default)=false):xc pr l=-1:=by
 have ha:l.any pr=false:=by
  rw[List.any_eq_false];intro x hx;obtain⟨i,hi,rfl⟩:=List.mem_iff_getElem.1 hx;have:=h0 i hi;rw[bf,bO hi]at this;simpa using this
 unfold xc;rw[if_neg (by rw[ha];decide)]
theorem apM{a b:Nat}(h:ah a=ah b):a=b:=by rw[<-bq a,h,bq]
section
variable {a b:Rat}
theorem aw9(h2:decide (ah a.num.natAbs=ah b.num.natAbs)=false):false=decide (a=b):=by
 symm;rw[decide_eq_false_iff_not];rintro rfl;simp at h2
theorem azT(h:(decide (a<0)==decide (b<0))=true)(h2:decide (ah a.num.natAbs=ah b.num.natAbs)=true):decide (ah (gB a)=ah (gB b))=decide (a=b):=by
 rw[decide_eq_decide,aoy];exact⟨fun h3=>⟨eq_of_beq h,apM (of_decide_eq_true h2),apM h3⟩,fun h3=>by rw[h3.2.2]⟩
end
def iv(k:List Rat)(t:Rat):Nat->Nat
 |0=>0
 |i+1=>iv k t i+(if k.getD i 0=t then 1 else 0)
theorem apy(k:List Rat)(t:Rat):∀i,iv k t i<=i
 |0=>bA _
 |i+1=>by have:=apy k t i;rw[iv];split<;>omega
def cq(k:List Rat):Nat->List Rat
 |0=>[]
 |i+1=>if i=0\/k.getD i 0≠k.getD (i-1) 0 then cq k i++[k.getD i 0]else cq k i
theorem apA(k:List Rat):∀i,(cq k i).length<=i
 |0=>bA _
 |i+1=>by
  have:=apA k i;rw[cq];split
  ·simp;omega
  omega
theorem afq(k:List Rat):∀i,i<=k.length->∀x∈cq k i,x∈k
 |0,_,x,h=>by cases h
 |i+1,hi,x,h=>by
  rw[cq]at h;split at h
  ·rcases p7.1 h with h|h
   ·exact afq k i aa x h
   rw[List.mem_singleton.1 h];exact df aa
  exact afq k i aa x h
structure kOK (k:List Rat) (d:Nat):Prop where
 d1:1<=d
 d6:d<=6
 len:2*d+2<=k.length
 max:k.length<=d+41
 srt:∀i,i+1<k.length->k.getD i 0<=k.getD (i+1) 0
 ne:k.getD 0 0≠k.getD (k.length-1) 0
 ayP:∀t∈k,(t=k.getD 0 0\/t=k.getD (k.length-1) 0)->iv k t k.length=d+1
 ink:∀t∈k,t≠k.getD 0 0->t≠k.getD (k.length-1) 0->iv k t k.length<=d
 sz:∀x∈k,rl x<=64
theorem ad8{k:List Rat}:∀i,i<=k.length->(∀j,1<=j->j<i->k.getD j 0≠k.getD (j-1) 0)->cq k i=k.take i
 |0,_,_=>rfl
 |i+1,hi,h=>by
  rw[cq,ad8 i aa (fun j h1 h2=>h j h1 aa),if_pos (by
   by_cases e:i=0
   ·exact .inl e
   exact .inr (h i aa aa)),tt,bf,bO aa];rfl
theorem aqX{k:List Rat}{i:Nat}(h0:0<i)(h:k.getD i 0≠k.getD (i-1) 0):cq k (i+1)=cq k i++[k.getD i 0]:=by rw[cq,if_pos (.inr h)]
theorem adJ{k:List Rat}{i:Nat}(h0:0<i)(h:k.getD i 0=k.getD (i-1) 0):cq k (i+1)=cq k i:=by rw[cq,if_neg (fun e=>e.elim (fun e=>by omega) (fun e=>e h))]
theorem arF{w:List Rat}{m n:Nat}(hm:m<=n)(hw:w.length=n):(w.map ab).take m++aJ (n-m) (ab 0)++(w.map ab).drop (m+(n-m))=(w.take m++aJ (n-m) 0).map ab:=by
 rw[List.drop_of_length_le bm];simp[pU]
theorem afV{l:List Rat}{k:Nat}(h:k<l.length):l.take k++[l.getD k 0]=l.take (k+1):=by
 rw[tt,bO h,bf,bO h];rfl
theorem azS{α:Type}{e:α->LV}{ag:Bool}{bs:List Nat}{L:St}{b sz len:Nat}{l m:List α}{t:Bool}(he:fe e sz ag)(hb:L.heap b=some ⟨sz,(l++m).map e,t⟩)(o9:bs.contains b=true)(hl:len=l.length):bR (L.bo bs).heap (.ref b sz 0 len) (.list sz (l.map e)):=by
 have:=z6 (off:=0) (len:=len) hb o9 (bS he _) bm;subst hl;rwa[gX,<-pU,List.take_left]at this
open H0 in
theorem nG(a b:Rat)(h:rl a+rl b<=1099511627776):ar ae 17 [ab a,ab b] (bL (decide (a=b))):=by
 have a1:=oh a;have a3:=qJ a;have c1:=oh b;have c3:=qJ b;refine aE Tryz.func17 ?_;refine gA ?_;refine cz 10 rfl ?_ ?_<;>intro qL vb
 ·refine ay ?_;refine cp aK (acV _ _ aa aa) ?_;refine aR ?_;refine cz 17 rfl ?_ ?_<;>intro ae7 h17
  ·refine ay ?_;refine cp aK (acV _ _ aa aa) ?_;refine aV ?_;rw[<-azT qL ae7];exact dA
  refine cb ?_;rw[<-aw9 ae7];exact dA
 refine jX ?_;rw[<-az4 qL];exact dA
namespace aq7
theorem aD{p q:Prop}(k:q)(e:p=q:=by simp only[bc,aZ,aW,aS,dc,g7,zg,cw,cd,cy,reduceIte,if_true,if_false,cS,LV.kill,a9];exact rfl):p:=e.mpr k
end aq7
open aq7 in
theorem av0(f:Nat)(k:List Rat)(h0:0<k.length)(hl:k.length<=1048576)(hs:∀i,i+1<k.length->k.getD i 0<=k.getD (i+1) 0)(hf:∀x∈k,∀y∈k,ar ae f [ab x,ab y] (iL (ez x y))):ar ae 295 [.list 3 (k.map ab),.bQ f []] (bL true):=by
 refine aE Tryz.func295 ?_;have g7:True:=trivial;have zg:True:=trivial;refine cb ?_;refine kz ?_;refine ay ?_;refine da (fun(i:Nat) L=>(mS L [] [(5,ak i),(1,.bQ f []),(0,.list 3 (k.map ab))])) (fun i=>i<k.length) (fun i=>i) (k.length-1) aa ?_;rintro i L1 hi;refine aP ?_;refine au rfl ?_ ?_<;>intro qL vb
 ·have dS:0<i:=aa;have g7:((i:Int)-1).toNat=i-1:=aa;have zg:((i:Int)).toNat=i:=aa;have hc:=hf _ (df (p:=k) (i:=i) hi) _ (df (p:=k) (i:=i-1) aa);have jS:=hs (i-1) aa;rw[Nat.sub_add_cancel aa]at jS;have hcg:0<=ez (k.getD i 0) (k.getD (i-1) 0):=ym.2 jS;refine dk ?_;refine kz ?_;refine aR ?_;refine jA [] rfl rfl (.bQ (f:=f) (cap:=[]) (args:=[ab (k.getD i 0),ab (k.getD (i-1) 0)]) rfl (.cons dv (.cons dv .nil)) ⟨rfl,fun _ h=>by cases h⟩ hc.1 an (fun _ h=>by cases h)) (hc.2 _) ?_;refine bw ?_;refine au rfl ?_ ?_<;>intro vk h24
  ·omega
  refine aV ?_;refine kz ?_;refine bw ?_;exact fj (i-1) aa
 refine cg ?_;exact dg
namespace aph
theorem aD{p q:Prop}(k:q)(e:p=q:=by simp only[bc,aZ,aW,aS,dc,cw,cd,cy,reduceIte,if_true,if_false,cS,LV.kill,a9];exact rfl):p:=e.mpr k
end aph
open aph in
theorem axu(k:List Rat)(hl:k.length<=1048576)(hr:∀x∈k,rl x<=549755813888)(t:Rat)(ht:rl t<=549755813888):ar ae 268 [.list 3 (k.map ab),ab t] (ak (iv k t k.length)):=by
 refine aE Tryz.func268 ?_;refine iQ ?_;refine da (fun(i:Nat) L=>(mS L [(3,⟨3,[ab t],true⟩)] [(10,ak i),(9,ak k.length),(8,.list 3 (k.map ab)),(5,ak (iv k t i)),(3,.ax 3 3 0 0)])) (fun i=>i<=k.length) (fun i=>k.length-i) 0 (bJ _) ?_;rintro i L1 hi;refine aA ?_;refine au rfl ?_ ?_<;>intro aaA pQ
 ·have dS:i<k.length:=aa;have hx:=hr _ (df (i:=i) aa);have xd:=apy k t i;refine bC (nG (k.getD i 0) t aa) ?_;refine aR ?_;refine au rfl ?_ ?_<;>intro nn jJ
  ·have hT:iv k t (i+1)=iv k t i+1:=by rw[iv,if_pos jJ]
   refine aR ?_;refine ai rfl nj ?_;refine ay ?_;refine bX (av.kill _ 7) ?_;refine c9 ?_;exact mW
  have hT:iv k t (i+1)=iv k t i:=by rw[iv,if_neg jJ];rfl
  refine bw ?_;refine bX (av.kill _ 7) ?_;refine c9 ?_;exact mW
 obtain rfl:i=k.length:=aa;refine bp ?_;exact dg
namespace als
theorem aD{p q:Prop}(k:q)(e:p=q:=by simp only[bc,aZ,aW,aS,dc,g7,zg,eik,eia,uB,eyl,ewa,ewb,Nat.zero_add,Nat.add_zero,List.length_set,bF,cw,cd,cy,reduceIte,if_true,if_false,cS,LV.kill,a9];exact rfl):p:=e.mpr k
end als
open als in
theorem axK(f:Nat)(l:List Rat)(h0:0<l.length)(hl:l.length<=1048576)(hf:∀x∈l,∀y∈l,ar ae f [ab x,ab y] (bL (decide (x=y)))):jt ae 259 ⟨3,l.map ab,true⟩ [.ref 0 3 0 l.length,.bQ f []] (.ref 0 3 0 (cq l l.length).length) ⟨3,((cq l l.length)++aJ (l.length-(cq l l.length).length) 0).map ab,true⟩:=by
 refine tr Tryz.func259 ?_;have g7:True:=trivial;have zg:True:=trivial;have eik:True:=trivial;have eia:True:=trivial;have uB:True:=trivial;have eyl:True:=trivial;have ewa:True:=trivial;have ewb:True:=trivial;refine dk ?_;refine au rfl ?_ ?_<;>intro qL vb
 ·obtain aBu:l.length=1:=aa;have hE:(cq l l.length)=l:=by rw[ad8 _ (bA _) (fun j h1 h2=>by omega),je]
  refine bu ?_
  first|(rw[hE,sS,aii,eX];exact oG rfl .ref rfl rfl (bS al _))|(exact oG rfl .ref (by first|rfl|(simp;done)) rfl (bS al _))
 refine bx ?_;refine da (fun(i:Nat) L=>(mS L [(0,⟨3,l.map ab,true⟩)] [(5,ak i),(1,.bQ f []),(0,.ref 0 3 0 l.length)])) (fun i=>1<=i/\i<=l.length/\∀j,1<=j->j<i->l.getD j 0≠l.getD (j-1) 0) (fun i=>l.length-i) 1 ⟨bA _,aa,fun j h1 h2=>by omega⟩ ?_;rintro i L1 ⟨sE,hil,aG⟩;refine bx ?_;refine au rfl ?_ ?_<;>intro mA iR
 ·have dS:i<l.length:=aa;have g7:((i:Int)-1).toNat=i-1:=aa;have zg:((i:Int)).toNat=i:=aa;have hc:=hf _ (df (p:=l) (i:=i) dS) _ (df (p:=l) (i:=i-1) aa);refine dk ?_;refine kz ?_;refine aR ?_
  try simp only[t1,dc,g7,zg,fW]
  refine jA [] rfl rfl (.bQ (f:=f) (cap:=[]) (args:=[ab (l.getD i 0),ab (l.getD (i-1) 0)]) rfl (.cons dv (.cons dv .nil)) ⟨rfl,fun _ h=>by cases h⟩ hc.1 an (fun _ h=>by cases h)) (hc.2 _) ?_;refine aR ?_;refine au rfl ?_ ?_<;>intro aez h28
  ·have hdi:cq l (i+1)=cq l i:=adJ aa h28;have lC:cq l i=l.take i:=ad8 i hil aG;have hln:(l.take i).length=i:=by rw[eE];omega
   have dL:1<=1/\i+1<=l.length/\l.length=l.length/\(cq l (i+1)).length+1<=i+1/\l.take (cq l (i+1)).length=cq l (i+1)/\∀x,i+1-1<=x->l.getD x 0=l.getD x 0:=⟨bA _,aa,rfl,by rw[hdi,lC,hln];omega,by rw[hdi,lC,hln],fun _ _=>rfl⟩;have eia:(cq l (i+1)).length=i:=by rw[hdi,lC,hln]
   refine ay ?_;refine ai rfl (.vi (a:=i) (h:=l.length) rfl en bZ (fun y hy=>by cases hy;exact⟨_,rfl⟩) (fun h=>by cases h) (fun y hy=>by cases hy) (fun _=>rfl) om om om) ?_;refine cb ?_;refine iy (fun(j:Nat) (w:List Rat) L=>(mS L [(0,⟨3,w.map ab,true⟩)] [(7,ak j),(6,.ref 0 3 i (l.length-i)),(5,ak (cq l (i+j)).length),(1,.bQ f []),(0,.ref 0 3 0 l.length)])) (fun j w=>1<=j/\i+j<=l.length/\w.length=l.length/\(cq l (i+j)).length+1<=i+j/\w.take (cq l (i+j)).length=(cq l (i+j))/\∀x,i+j-1<=x->w.getD x 0=l.getD x 0) (fun j w=>l.length-(i+j)) 1 l dL ?_;rintro j w L2 ⟨hj1,yS,fO,ye,iS,hwx⟩;refine bx ?_;refine au rfl ?_ ?_<;>intro tT uZ
   ·have hi3:i+j<l.length:=aa;have ewa:w.getD (i+j) 0=l.getD (i+j) 0:=hwx _ aa;have ewb:w.getD (i+(j-1)) 0=l.getD (i+j-1) 0:=by rw[show i+(j-1)=i+j-1 by omega];exact hwx _ aa
    have eik:((j:Int)-1).toNat=j-1:=aa;have hc:=hf _ (df (p:=l) (i:=i+j) hi3) _ (df (p:=l) (i:=i+j-1) aa);have wN:(cq l (i+j)).length<l.length:=aa;refine dk ?_;refine kz ?_;refine aR ?_
    try simp only[t1,dc,eik,ewa,ewb]
    refine jA [] rfl rfl (.bQ (f:=f) (cap:=[]) (args:=[ab (l.getD (i+j) 0),ab (l.getD (i+j-1) 0)]) rfl (.cons dv (.cons dv .nil)) ⟨rfl,fun _ h=>by cases h⟩ hc.1 an (fun _ h=>by cases h)) (hc.2 _) ?_;refine bw ?_;refine au rfl ?_ ?_<;>intro aar h49
    ·have hy:=aqX (k:=l) (i:=i+j) aa h49;have eyl:(cq l (i+(j+1))).length=(cq l (i+j)).length+1:=by rw[<-od,hy];simp
     have tO:(cq l (i+j+1)).length=(cq l (i+j)).length+1:=by rw[hy];simp
     have hnA:1<=j+1/\i+(j+1)<=l.length/\(w.set (cq l (i+j)).length (l.getD (i+j) 0)).length=l.length/\(cq l (i+(j+1))).length+1<=i+(j+1)/\(w.set (cq l (i+j)).length (l.getD (i+j) 0)).take (cq l (i+(j+1))).length=cq l (i+(j+1))/\∀x,i+(j+1)-1<=x->(w.set (cq l (i+j)).length (l.getD (i+j) 0)).getD x 0=l.getD x 0:=⟨aa,aa,by simp[fO],by rw[<-od,tO];omega,by rw[<-od,tO,hy,tt,List.take_set_of_le (bA _),iS,List.getElem?_set_self aa];rfl,fun x hx=>by rw[aaV _ _ _ _ aa,if_neg aa];exact hwx x aa⟩;refine bx ?_
     try simp only[t1,dc,ewa,fW]
     refine aV ?_;refine ai rfl nj ?_;refine aA ?_;refine c9 ?_;exact fC (j+1) (w.set (cq l (i+j)).length (l.getD (i+j) 0)) hnA
    have hy:=adJ (k:=l) (i:=i+j) aa h49;have eyl:(cq l (i+(j+1))).length=(cq l (i+j)).length:=by rw[<-od,hy]
    have hnB:1<=j+1/\i+(j+1)<=l.length/\w.length=l.length/\(cq l (i+(j+1))).length+1<=i+(j+1)/\w.take (cq l (i+(j+1))).length=cq l (i+(j+1))/\∀x,i+(j+1)-1<=x->w.getD x 0=l.getD x 0:=⟨aa,aa,fO,by rw[<-od,hy];omega,by rw[<-od,hy];exact iS,fun x hx=>hwx x aa⟩;refine aV ?_;refine c9 ?_;exact fC (j+1) w hnB
   obtain rfl:j=l.length-i:=aa;have eia:i+(l.length-i)=l.length:=aa;have ec:=ye;rw[eia]at ye iS;have uB:=arF (w:=w) (m:=(cq l l.length).length) (n:=l.length) aa fO;rw[iS]at uB;refine bx ?_;refine ai rfl (.vi (a:=(cq l (i+(l.length-i))).length) (h:=l.length) rfl en bZ (fun y hy=>by cases hy;exact⟨_,rfl⟩) (fun h=>by cases h) (fun y hy=>by cases hy) (fun _=>rfl) om om om) ?_;refine dH rfl (.clr (n:=l.length-(cq l (i+(l.length-i))).length) (off:=0+(cq l (i+(l.length-i))).length) (z:=ab 0) (blk:=⟨3,w.map ab,true⟩) rfl rfl rfl rfl (by rw[bF];omega) en (iF▸jB) (al.aj 0)) ?_;refine aA ?_;refine ai rfl (.vV rfl en bZ rfl om om) ?_;refine bx ?_
   first|(rw[hE,sS,aii,eX];exact oG rfl .ref rfl rfl (bS al _))|(exact oG rfl .ref (by first|rfl|(simp;done)) rfl (bS al _))
  have hnx:∀j,1<=j->j<i+1->l.getD j 0≠l.getD (j-1) 0:=fun j h1 h2=>by
   rcases Nat.lt_succ_iff_lt_or_eq.1 h2 with e|rfl
   ·exact aG j h1 e
   exact h28
  refine aV ?_;refine c9 ?_;exact fj (i+1) ⟨aa,aa,hnx⟩
 obtain rfl:i=l.length:=aa;have hE:(cq l l.length)=l:=by rw[ad8 _ (bA _) aG,je]
 refine bp ?_
 first|(rw[hE,sS,aii,eX];exact oG rfl .ref rfl rfl (bS al _))|(exact oG rfl .ref (by first|rfl|(simp;done)) rfl (bS al _))
namespace ahK
theorem aD{p q:Prop}(k:q)(e:p=q:=by simp only[bc,aZ,aW,aS,dc,Rat.add_zero,kC,jH,Nat.zero_add,jW,dO,ff,eF,List.map_nil,gE,eX,cw,cd,cy,reduceIte,if_true,if_false,cS,LV.kill,a9];exact rfl):p:=e.mpr k
end ahK
open ahK in
theorem ate(p:List Rat)(hl:p.length<=1048576)(pe:∀x∈p,rl x<=274877906944):ke ae 260 [.list 3 (p.map ab)] (.ref 1 3 0 p.length) [⟨3,p.map ab,true⟩]:=by
 refine xe Tryz.func260 ?_;have kC:True:=trivial;have jH:True:=trivial;refine anl ?_;rintro k L1 hk;refine aA ?_;refine au rfl ?_ ?_<;>intro abv wT
 ·have eQ:k<p.length:=aa;have hrk:=pe _ (df eQ);have hA:=gY (p.getD k 0) 0 (by rw[show rl 0=1 from rfl];omega);rw[sL]at hA;have kC:=afV (l:=p) eQ;have jH:((p.take k).map ab).take k=(p.take k).map ab:=cW vc;refine gA ?_;refine ai rfl (.aaq xI jB) ?_;refine cp aK (hA) ?_;refine aT ?_;refine dH rfl anu ?_;refine ay ?_;refine bX ((av.kill _ 5).trans (av.kill _ 19)) ?_;refine c9 ?_;exact fj (k+1) aa
 obtain rfl:k=p.length:=aa;have hE:p.take p.length=p:=je;refine bp ?_;rw[hE];exact aaw rfl rfl (bS al _)
namespace oz
theorem aD{p q:Prop}(k:q)(e:p=q:=by simp only[bc,aZ,aW,aS,cw,cd,cy,reduceIte,if_true,if_false,cS,LV.kill,a9];exact rfl):p:=e.mpr k
end oz
open oz in
theorem anD(k:List Rat)(h0:0<k.length)(hl:k.length<=1048576)(hr:∀x∈k,rl x<=274877906944):ar ae 178 [.list 3 (k.map ab)] (.list 3 ((cq k k.length).map ab)):=by
 refine aE Tryz.func178 ?_;refine bu ?_;refine xG [] rfl rfl (.cons (.pure (bN al _ _)) .nil) (ate k hl hr) (bS al _) rfl ?_;refine tD 1000065 rfl rfl rfl (bS al _) (.cons .ref (.cons (.cC (.pure rfl)) .nil)) (.ref h0) (axK 17 k h0 hl (fun x hx y hy=>nG x y (by have:=hr x hx;have:=hr y hy;omega))) rfl (bS al _) ?_;refine ay ?_;exact nq [1000065] rfl rfl (azS al rfl rfl rfl)
open H0 in
theorem ae6(k:List Rat)(d:Nat)(h:d+1<=k.length)(hl:k.length<=1048576):ar ae 220 [.list 3 (k.map ab),ak d] (ak (k.length-d-1)):=by
 refine aE Tryz.func220 ?_;refine cb ?_;refine ai rfl nv ?_;refine ai rfl nv ?_;refine ay ?_;refine cm ?_ (.pure rfl);simp only[e1,e2,e3,e4,p1,p2,p3,q1,q2,q3,aS];congr 2;omega
namespace akZ
theorem aD{p q:Prop}(k:q)(e:p=q:=by simp only[bc,aZ,aW,aS,dc,vr,cw,cd,cy,reduceIte,if_true,if_false,cS,LV.kill,a9];exact rfl):p:=e.mpr k
end akZ
open akZ in
theorem awC(k:List Rat)(d:Nat)(h:kOK k d):ar ae 219 [.list 3 (k.map ab),ak d] (iL 0):=by
 have nu:=h.d1;have hd6:=h.d6;have hlen:=h.len;have aBY:=h.max;have hr:∀x∈k,rl x<=274877906944:=fun x hx=>bW (h.sz x hx) an;have vr:((k.length:Int)-1).toNat=k.length-1:=aa;have hr0:=h.sz _ (df (p:=k) (i:=0) aa);have tI:=h.sz _ (df (p:=k) (i:=k.length-1) aa);have hS:ar ae 295 [.list 3 (k.map ab),.bQ 67 []] (bL true):=av0 67 k aa aa h.srt (fun x hx y hy=>kL x y (by have:=h.sz x hx;have:=h.sz y hy;omega));refine aE Tryz.func219 ?_;refine cg ?_;refine ai rfl nv ?_;refine ai rfl nv ?_;refine bx ?_;refine cz 18 rfl ?_ ?_<;>intro abe xU
 ·omega
 refine aA ?_;refine au rfl ?_ ?_<;>intro mA iR
 ·omega
 refine aV ?_;refine ai rfl abl ?_;refine ai rfl pn ?_;refine ay ?_;refine au rfl ?_ ?_<;>intro acB h22
 ·omega
 refine aP ?_;refine au rfl ?_ ?_<;>intro tw ri
 ·omega
 refine bC (hS) ?_;refine bu ?_;refine ai ah7 (.bin rfl rfl (o5 aa aa)) ?_;refine aR ?_
 try simp only[t1,dc,vr]
 refine cp aK (nG (k.getD 0 0) (k.getD (k.length-1) 0) aa) ?_;refine bw ?_;refine rX (b:=_) rfl (decide_eq_false h.ne) ?_;refine cO (anD k aa aa hr) ?_;refine aV ?_;refine da (fun(i:Nat) L=>(mS L [] [(50,ak i),(49,ak (cq k k.length).length),(48,.list 3 ((cq k k.length).map ab)),(1,ak d),(0,.list 3 (k.map ab))])) (fun i=>i<=(cq k k.length).length) (fun i=>(cq k k.length).length-i) 0 (bJ _) ?_;rintro i L1 hi;refine aA ?_;refine au rfl ?_ ?_<;>intro aCu h51
 ·have ye:=apA k k.length;have dS:i<(cq k k.length).length:=aa;have hm:=afq k k.length (bA _) _ (df dS);have hrt:=h.sz _ hm;have he1:=h.ayP _ hm;have he2:=h.ink _ hm;refine bC (axu k aa (fun x hx=>bW (hr x hx) an) ((cq k k.length).getD i 0) aa) ?_;refine bC (nG ((cq k k.length).getD i 0) (k.getD 0 0) aa) ?_;refine aT ?_;refine cz 62 rfl ?_ ?_<;>intro aaN yg
  ·refine aP ?_
   try simp only[t1,dc,vr]
   refine cg ?_;refine ai (gr (v:=true) rfl rfl (rfl) rfl) (.bin rfl rfl (qD aa aa)) ?_;refine bw ?_;refine cz 79 rfl ?_ ?_<;>intro ait h79
   ·have:=he1 (by first|exact .inl yg|exact .inr h73);omega
   refine bw ?_;refine fQ zQ ?_;refine fQ zQ ?_;refine fQ zQ ?_;refine ai (gr (v:=false) rfl rfl (ait) rfl) (.kO rfl (abZ)) ?_;refine aP ?_;refine bX (av.kill _ 7) ?_;refine c9 ?_;exact mW
  refine ay ?_;refine ai (gr (v:=false) rfl rfl (aaN) rfl) (.bin rfl rfl (o5 aa aa)) ?_;refine aR ?_
  try simp only[t1,dc,vr]
  refine cp aK (nG ((cq k k.length).getD i 0) (k.getD (k.length-1) 0) aa) ?_;refine bu ?_;refine cz 73 rfl ?_ ?_<;>intro aoh h73
  ·refine aR ?_;refine ai (gr (v:=true) rfl rfl (aoh) rfl) (.bin rfl rfl (qD aa aa)) ?_;refine bw ?_;refine cz 79 rfl ?_ ?_<;>intro ait h79
   ·have:=he1 (by first|exact .inl yg|exact .inr h73);omega
   refine bw ?_;refine fQ zQ ?_;refine fQ zQ ?_;refine fQ zQ ?_;refine ai (gr (v:=false) rfl rfl (ait) rfl) (.kO rfl (abZ)) ?_;refine aP ?_;refine bX (av.kill _ 7) ?_;refine c9 ?_;exact mW
  refine bx ?_;refine ai ah4 (.move _) ?_;refine ai ah4 (.move _) ?_;refine ai ah4 (.bin rfl rfl rfl) ?_;refine ai ah7 (.uf rfl (abZ)) ?_;refine bw ?_;refine au rfl ?_ ?_<;>intro aBW h87
  ·have:=he2 yg h73;omega
  refine bw ?_;refine bX (av.kill _ 7) ?_;refine c9 ?_;exact mW
 refine cg ?_;exact dg
def bdS(R:Nat)(s:Rat×Rat):Prop:=rl s.1<=R/\rl s.2<=R
theorem bdS.le{R S:Nat}{s:Rat×Rat}(h:bdS R s)(k:R<=S):bdS S s:=⟨bW h.1 k,bW h.2 k⟩
open H0 in
theorem az0(s:Rat×Rat)(x:Rat)(h1:rl s.1+rl x<=549755813888)(h2:rl x+rl s.2<=549755813888):ar ae 50 [cP s,ab x] (bL (vP s x)):=by
 refine aE Tryz.func50 ?_;refine bp ?_;refine cp aK (kL _ _ aa) ?_;refine aR ?_;refine cz 10 rfl ?_ ?_<;>intro qL vb
 ·refine bw ?_;refine cp aK (kL _ _ aa) ?_;refine aA ?_;rw[<-akn qL];exact dA
 refine cb ?_;rw[<-aqt qL];exact dA
theorem aek{P:Program}{ops:Array Oper}{D:Array Bool}{L:St}{K:St->Prop}{fuel:Nat}(i j k:Nat)(o o2 o3:Oper)(hr:Region.ready .any ops D=[i,j,k])(ho:ops[i]?=some o)(ho2:ops[j]?=some o2)(zT:ops[k]?=some o3)
  (h:opsL P false ops [o] L (fun L'=>iq P ops fuel (D.setIfInBounds i true) L' K)) (h2:opsL P false ops [o2] L (fun L'=>iq P ops fuel (D.setIfInBounds j true) L' K)) (h3:opsL P false ops [o3] L (fun L'=>iq P ops fuel (D.setIfInBounds k true) L' K)):iq P ops (fuel+1) D L K:=by
 simp only[opsL]at h h2 h3;refine⟨fun e=>(by rw[hr]at e;cases e),fun x hx=>?_⟩;rw[hr]at hx;simp only[fJ,jN,or_false]at hx;rcases hx with rfl|rfl|rfl
 ·obtain⟨L',h1,h4⟩:=h;exact⟨o,L',ho,h1,h4⟩
 ·obtain⟨L',h1,h4⟩:=h2;exact⟨o2,L',ho2,h1,h4⟩
 obtain⟨L',h1,h4⟩:=h3;exact⟨o3,L',zT,h1,h4⟩
section
variable {P:Program} {H:bn} {ρ:Operand->LV} {T:TypeId}
theorem awj{o0 o1:Operand}{p:V3}{r:Rat}[z:ZI P T (.agg [.agg [ab 0,ab 0,ab 0],ab 0])][s:SI P T [(9,true),(3,true)]](h0:ρ o0=aB p)(h1:ρ o1=ab r):
  aq P H ρ (.build T #[(0,o0),(1,o1)]) (dj ⟨p,r⟩):=by
 have:=aq.bd (H:=H) (ρ:=ρ) (ps:=#[(0,o0),(1,o1)]) (z:=z) (s:=s) (by simp[lay,LV.aj,bI,al.aj,al.isAgg,tb]) (by
  intro q hq;simp only[fJ,jN,or_false]at hq;rcases hq with rfl|rfl
  ·exact⟨_,rfl,by rw[h0];simp[lay,a7.aj,LV.aj,bI,al.aj];rfl,by rw[h0];exact LV.eg (a7.pure _),by rw[h0];exact LV.dV (a7.pure _)⟩
  exact⟨_,rfl,by rw[h1];simp[lay,al.aj,al.isAgg],by rw[h1];exact LV.eg (al.pure _),by rw[h1];exact LV.dV (al.pure _)⟩)
 simp only[jf,fl,zL,aax,h0,h1]at this;exact this
end
theorem gD1{a b:List Rat}{i:Nat}(h:i<a.length):(a++b).getD i 0=a.getD i 0:=by
 rw[bf,bf,List.getElem?_append_left h]
theorem gD2{a b:List Rat}{i:Nat}(h:a.length<=i):(a++b).getD i 0=b.getD (i-a.length) 0:=by
 rw[bf,bf,List.getElem?_append_right h]
theorem yC{n i:Nat}{T:Rat}(h:i<n):(aJ n T).getD i 0=T:=by
 rw[bf,bO ga];simp
theorem ai6(a b:List Rat)(t:Rat):∀i,i<=a.length->iv (a++b) t i=iv a t i
 |0,_=>rfl
 |i+1,h=>by rw[iv,iv,ai6 a b t i aa,gD1 aa]
theorem aiH(a b:List Rat)(t:Rat):∀i,iv (a++b) t (a.length+i)=iv a t a.length+iv b t i
 |0=>by rw[Nat.add_zero,ai6 _ _ _ _ (bA _)];rfl
 |i+1=>by
  rw[<-od,iv,aiH a b t i,iv,gD2 aa,Nat.add_sub_cancel_left];omega
theorem agZ(n:Nat)(T t:Rat):∀i,i<=n->iv (aJ n T) t i=if T=t then i else 0
 |0,_=>by split<;>rfl
 |i+1,h=>by
  rw[iv,agZ n T t i aa,yC aa];split<;>rfl
open H0 in
theorem awM(s:Rat×Rat)(h:rl s.2+rl s.1<=549755813888):ar ae 140 [cP s] (ab (s.2-s.1)):=by
 refine aE Tryz.func140 ?_;refine bC (ot s.2 s.1 h) ?_;refine ay ?_;exact ju
section
variable {P:Program} {H:bn} {ρ:Operand->LV} {T E:TypeId}
theorem bdW{o1:Operand}{r:Rat}[z:ZI P T (.agg [.agg [ab 0,ab 0,ab 0],ab 0])][s:SI P T [(9,true),(3,true)]](h1:ρ o1=ab r):
  aq P H ρ (.build T #[(1,o1)]) (dj ⟨⟨0,0,0⟩,r⟩):=by
 have:=aq.bd (H:=H) (ρ:=ρ) (ps:=#[(1,o1)]) (z:=z) (s:=s) (by simp[lay,LV.aj,bI,al.aj,al.isAgg,tb]) (by
  intro q hq;simp only[fJ,jN,or_false]at hq;subst hq;exact⟨_,rfl,by rw[h1];simp[lay,al.aj,al.isAgg],by rw[h1];exact LV.eg (al.pure _),by rw[h1];exact LV.dV (al.pure _)⟩)
 simp only[jf,fl,zL,aax,h1]at this;exact this
theorem aeI{o0 o1:Operand}{a b:Rat}[u:UN P T (.array 3 E)][t:TI P E 3 true][z:ZI P T (.agg [ab 0,ab 0,ab 0])](h0:ρ o0=ab a)(h1:ρ o1=ab b):aq P H ρ (.build T #[(0,o0),(1,o1)]) (aB ⟨a,b,0⟩):=by
 have:=aq.iK (H:=H) (ρ:=ρ) (ps:=#[(0,o0),(1,o1)]) (u:=u) (t:=t) (z:=z) (by simp[lay,al.aj,al.isAgg]) (by
  intro q hq;simp only[fJ,jN,or_false]at hq;rcases hq with rfl|rfl
  ·exact⟨_,rfl,by rw[h0];simp[lay,al.aj,al.isAgg],by rw[h0];exact LV.eg (al.pure _),by rw[h0];exact LV.dV (al.pure _)⟩
  exact⟨_,rfl,by rw[h1];simp[lay,al.aj,al.isAgg],by rw[h1];exact LV.eg (al.pure _),by rw[h1];exact LV.dV (al.pure _)⟩)
 simp only[jf,fl,zL,aax,h0,h1]at this;exact this
end
theorem at6{P:Program}{H:bn}{ρ:Operand->LV}{T E:TypeId}[u:UN P T (.array 3 E)][t:TI P E 3 true][z:ZI P T (.agg [ab 0,ab 0,ab 0])]:aq P H ρ (.build T #[]) (aB ⟨0,0,0⟩) :=
 aq.iK (H:=H) (ρ:=ρ) (ps:=#[]) (u:=u) (t:=t) (z:=z) (by simp[lay,al.aj,al.isAgg]) (fun q hq=>by simp at hq)
section
variable {po:List dG} {d:Nat} (h:lP po d)
include h
end
theorem adY{a b c:Nat}(h:a=b+c)(h2:a<=9223372036854775807):cj .sub .i64 (a:Nat) (b:Nat)=some (.int .i64 ((c:Nat):Int)):=by
 rw[o5 aa aa];congr 2;omega
theorem pG(bs:List Nat):xS bs []=[]:=rfl
def s7(p q:V3):V3:=⟨p.y*q.z-p.z*q.y,p.z*q.x-p.x*q.z,p.x*q.y-p.y*q.x⟩
theorem aeT{R:Nat}{p q:V3}(hp:bE R p)(hq:bE R q):bE (4*R+5) (s7 p q):=by
 obtain⟨a1,a2,a3⟩:=hp;obtain⟨b1,b2,b3⟩:=hq;have g:∀a b c d:Rat,rl a<=R->rl b<=R->rl c<=R->rl d<=R->rl (a*b-c*d)<=4*R+5:=fun a b c d h1 h2 h3 h4=>by
  have m1:=du a b;have m2:=du c d;have m3:=kW (a*b) (c*d);omega
 exact⟨g _ _ _ _ a2 b3 a3 b2,g _ _ _ _ a3 b1 a1 b3,g _ _ _ _ a1 b2 a2 b1⟩
open oz in
theorem ang(p q:V3)(R:Nat)(hR:R<=1000000000)(hp:bE R p)(hq:bE R q):ar ae 143 [aB p,aB q] (aB (s7 p q)):=by
 obtain⟨a1,a2,a3⟩:=hp;obtain⟨y1,y2,y3⟩:=hq;have m01:=du p.x q.y;have m02:=du p.x q.z;have m10:=du p.y q.x;have m12:=du p.y q.z;have m20:=du p.z q.x;have m21:=du p.z q.y;refine aE Tryz.func143 (ht:=(fun r=>LV.dF r _ (a7.pure _))) ?_;refine nk ?_;refine eW ?_;refine dk ?_;refine ai rfl (.bin rfl rfl (show cj .add .i64 0 1=some (.int .i64 ((1:Nat):Int)) from rfl)) ?_;refine ai rfl (.bin rfl rfl (show cj .rem .i64 1 3=some (.int .i64 ((1:Nat):Int)) from rfl)) ?_;refine aT ?_;refine ai rfl (.bin rfl rfl (show cj .add .i64 0 2=some (.int .i64 ((2:Nat):Int)) from rfl)) ?_;refine ai rfl (.bin rfl rfl (show cj .rem .i64 2 3=some (.int .i64 ((2:Nat):Int)) from rfl)) ?_;refine bC (fo p.y q.z aa) ?_;refine bC (fo p.z q.y aa) ?_;refine cp aK (ot (p.y*q.z) (p.z*q.y) aa) ?_;refine cb ?_;refine eW ?_;refine dk ?_;refine ai rfl (.bin rfl rfl (show cj .add .i64 1 1=some (.int .i64 ((2:Nat):Int)) from rfl)) ?_;refine ai rfl (.bin rfl rfl (show cj .rem .i64 2 3=some (.int .i64 ((2:Nat):Int)) from rfl)) ?_;refine aT ?_;refine ai rfl (.bin rfl rfl (show cj .add .i64 1 2=some (.int .i64 ((3:Nat):Int)) from rfl)) ?_
 refine ai rfl (.bin rfl rfl (show cj .rem .i64 3 3=some (.int .i64 ((0:Nat):Int)) from rfl)) ?_;refine bC (fo p.z q.x aa) ?_;refine bC (fo p.x q.z aa) ?_;refine cp aK (ot (p.z*q.x) (p.x*q.z) aa) ?_;refine cb ?_;refine eW ?_;refine dk ?_;refine ai rfl (.bin rfl rfl (show cj .add .i64 2 1=some (.int .i64 ((3:Nat):Int)) from rfl)) ?_;refine ai rfl (.bin rfl rfl (show cj .rem .i64 3 3=some (.int .i64 ((0:Nat):Int)) from rfl)) ?_;refine aT ?_;refine ai rfl (.bin rfl rfl (show cj .add .i64 2 2=some (.int .i64 ((4:Nat):Int)) from rfl)) ?_;refine ai rfl (.bin rfl rfl (show cj .rem .i64 4 3=some (.int .i64 ((1:Nat):Int)) from rfl)) ?_;refine bC (fo p.x q.y aa) ?_;refine bC (fo p.y q.x aa) ?_;refine cp aK (ot (p.x*q.y) (p.y*q.x) aa) ?_;refine cb ?_;refine oP ?_;refine bp ?_;exact yp
def cr(u v:Rat×Rat):Rat:=u.1*v.2-u.2*v.1
def dp(u v:Rat×Rat):Rat:=u.1*v.1+u.2*v.2
def ct(d a b:Rat×Rat):Int:=if cr d a<=0/\¬cr d b<=0/\0<cr a b then 1 else if cr d b<=0/\¬cr d a<=0/\cr a b<0 then -1 else 0
def vR(a b:Rat×Rat):Prop:=cr a b=0/\dp a b<=0
def ph(d e v:Rat×Rat):Int:=if 0<cr d v/\cr e v<=0 then 1 else 0
theorem mpp{x y:Rat}(h:0<x)(k:0<y):0<x*y:=anU h k
theorem mpn{x y:Rat}(h:0<x)(k:y<=0):x*y<=0:=by
 have:=aiy (Rat.le_of_lt h) (show 0<=-y by grind);grind
theorem mnn{x y:Rat}(h:x<=0)(k:y<=0):0<=x*y:=by
 have:=aiy (show 0<=-x by grind) (show 0<=-y by grind);grind
theorem lA(x y:Rat):(0<x->0<y->0<x*y)/\(0<x->y<=0->x*y<=0)/\(x<=0->0<y->x*y<=0)/\(x<=0->y<=0->0<=x*y) :=
 ⟨mpp,mpn,fun h k=>by rw[aov];exact mpn k h,mnn⟩
theorem rn(x:Rat):0<=x*x:=by
 rcases Rat.le_total (a:=x) (b:=0)with h|h
 ·exact mnn h h
 exact aiy h h
theorem atw{A B A' B' D X p q:Rat}(hD:0<D)(hR:A*B'-B*A'=D*X)(hp:X=0->0<p)(hq:0<=q)(h1:X=0->q*A=p*B)(h2:X=0->q*A'=p*B')(h3:X=0->q=0->A=0/\A'=0/\B=0/\B'=0):
  (if A<=0/\¬B<=0/\0<X then(1:Int)else if B<=0/\¬A<=0/\X<0 then -1 else 0)-(if A'<=0/\¬B'<=0/\0<X then 1 else if B'<=0/\¬A'<=0/\X<0 then -1 else 0)=(if 0<B/\B'<=0 then 1 else 0)-(if 0<A/\A'<=0 then 1 else 0):=by
 have f1:=lA A B';have f2:=lA B A';have f3:0<X->0<D*X:=mpp hD;have f4:X<0->D*X<0:=fun h=>by have:=mpp hD (show 0 < -X by grind);grind
 have f5:=lA p B;have f6:=lA p B';have f7:=lA q A;have f8:=lA q A';by_cases hX:X=0
 ·have:=hp hX;have:=h1 hX;have:=h2 hX;have:=h3 hX;subst hX;by_cases mQ:q=0
  ·grind
  have:0<q:=dR;grind
 grind
theorem aes{d e a b:Rat×Rat}(hD:0<cr d e)(hn:¬vR a b):ct d a b-ct e a b=ph d e b-ph d e a:=by
 refine atw hD (X:=cr a b) (p:=dp a b) (q:=dp b b) (by simp only[cr];grind) (fun h=>?_) ?_ (fun h=>by simp only[cr,dp]at *;grind) (fun h=>by simp only[cr,dp]at *;grind) ?_
 ·by_cases k:dp a b<=0
  ·exact absurd ⟨h,k⟩ hn
  grind
 ·have:=rn b.1;have:=rn b.2;simp only[dp];grind
 intro h h0;have e1:=rn b.1;have e2:=rn b.2;exfalso;refine hn ⟨h,?_⟩;have rb:b.1*b.1=0:=by simp only[dp]at h0;grind
 have qT:b.2*b.2=0:=by simp only[dp]at h0;grind
 have g1:b.1=0:=by rcases rI.1 rb with h|h<;>exact h
 have g2:b.2=0:=by rcases rI.1 qT with h|h<;>exact h
 simp only[dp,g1,g2];grind
theorem avz{d e a b:Rat×Rat}(hD:cr d e<0)(hn:¬vR a b):ct d a b-ct e a b=ph e d a-ph e d b:=by
 have:=aes (d:=e) (e:=d) (a:=a) (b:=b) (by simp only[cr]at *;grind) hn;omega
theorem aue{d e a b:Rat×Rat}{k:Rat}(hk:0<k)(h1:cr e a=k*cr d a)(h2:cr e b=k*cr d b):ct e a b=ct d a b:=by
 have l:∀x:Rat,(k*x<=0↔x<=0):=fun x=>by
  have:=lA k x;constructor<;>intro h<;>grind
 simp only[ct,h1,h2,l]
def psi(d e v:Rat×Rat):Int:=if 0<cr d e then ph d e v else if cr d e<0 then-ph e d v else if 0<dp d e then 0 else ph d (-d.2,d.1) v+ph (-d.2,d.1) e v
theorem au8{d e a b:Rat×Rat}(hd:d≠(0,0))(he:e≠(0,0))(hn:¬vR a b):ct d a b-ct e a b=psi d e b-psi d e a:=by
 unfold psi;by_cases h1:0<cr d e
 ·simp only[if_pos h1];exact aes h1 hn
 by_cases h2:cr d e<0
 ·simp only[if_neg h1,if_pos h2];have:=avz h2 hn;omega
 have h0:cr d e=0:=dR;have rW:0<dp d d:=by
  have e1:=rn d.1;have e2:=rn d.2;by_cases g:dp d d=0
  ·exfalso;have rb:d.1*d.1=0:=by simp only[dp]at g;grind
   have qT:d.2*d.2=0:=by simp only[dp]at g;grind
   have g1:d.1=0:=by rcases rI.1 rb with h|h<;>exact h
   have g2:d.2=0:=by rcases rI.1 qT with h|h<;>exact h
   exact hd (ad9 g1 g2)
  simp only[dp]at *;grind
 have hx:∀v:Rat×Rat,dp d d*cr e v=dp d e*cr d v:=fun v=>by simp only[cr,dp]at *;grind
 by_cases h3:0<dp d e
 ·simp only[if_neg h1,if_neg h2,if_pos h3];have hk:0<dp d e/dp d d:=by rw[Rat.div_def];exact anU h3 (Rat.inv_pos.2 rW)
  have hq:∀v:Rat×Rat,cr e v=dp d e/dp d d*cr d v:=fun v=>by
   have:=hx v;have aG:dp d d≠0:=dR;grind
  have:=aue hk (hq a) (hq b);omega
 simp only[if_neg h1,if_neg h2,if_neg h3];have aG:dp d e≠0:=by
  intro g;have p1:dp d d*e.1=dp d e*d.1-cr d e*d.2:=by simp only[cr,dp];grind
  have p2:dp d d*e.2=dp d e*d.2+cr d e*d.1:=by simp only[cr,dp];grind
  rw[g,h0]at p1 p2;have q1:e.1=0:=by rcases rI.1 (show dp d d*e.1=0 by grind)with h|h<;>grind
  have q2:e.2=0:=by rcases rI.1 (show dp d d*e.2=0 by grind)with h|h<;>grind
  exact he (ad9 q1 q2)
 have t1:=aes (d:=d) (e:=(-d.2,d.1)) (a:=a) (b:=b) (by simp only[cr,dp]at *;grind) hn;have t2:=aes (d:=(-d.2,d.1)) (e:=e) (a:=a) (b:=b) (by simp only[cr,dp]at *;grind) hn;omega
def mi(a p:V3):Rat×Rat:=(a.x-p.x,a.y-p.y)
structure dJ where
 a:Rat
 b:Rat
 c:Rat
 d:Rat
 s:Rat
 t:Rat
def dJ.dC(m:dJ):Rat:=m.a*m.d-m.b*m.c
def dJ.ap(m:dJ)(p:V3):V3:=⟨m.a*p.x+m.b*p.y+m.s,m.c*p.x+m.d*p.y+m.t,p.z⟩
def dJ.ln(m:dJ)(v:Rat×Rat):Rat×Rat:=(m.a*v.1+m.b*v.2,m.c*v.1+m.d*v.2)
theorem dJ.uo(m:dJ)(a p:V3):mi (m.ap a) (m.ap p)=m.ln (mi a p):=by
 simp only[mi,dJ.ap,dJ.ln,uQ];constructor<;>grind
theorem dJ.agS(m:dJ)(u v:Rat×Rat):cr (m.ln u) (m.ln v)=m.dC*cr u v:=by simp only[cr,dJ.ln,dJ.dC];grind
theorem dp0{v:Rat×Rat}(h:dp v v=0):v=(0,0):=by
 have e1:=rn v.1;have e2:=rn v.2;have rb:v.1*v.1=0:=by simp only[dp]at h;grind
 have qT:v.2*v.2=0:=by simp only[dp]at h;grind
 have g1:v.1=0:=by rcases rI.1 rb with h|h<;>exact h
 have g2:v.2=0:=by rcases rI.1 qT with h|h<;>exact h
 exact ad9 g1 g2
theorem dpn(v:Rat×Rat):0<=dp v v:=by
 have e1:=rn v.1;have e2:=rn v.2;simp only[dp];grind
theorem apS{m:dJ}(hm:0<m.dC){v:Rat×Rat}(h:m.ln v=(0,0)):v=(0,0):=by
 have h1:m.a*v.1+m.b*v.2=0:=congrArg ak8 h;have h2:m.c*v.1+m.d*v.2=0:=congrArg aoR h;have p1:m.dC*v.1=0:=by simp only[dJ.dC];grind
 have p2:m.dC*v.2=0:=by simp only[dJ.dC];grind
 refine ad9 ?_ ?_
 ·rcases rI.1 p1 with h|h<;>grind
 rcases rI.1 p2 with h|h<;>grind
theorem aho{m:dJ}(hm:0<m.dC){u v:Rat×Rat}(h:cr u v=0):(dp (m.ln u) (m.ln v)<=0↔dp u v<=0)/\(0<dp (m.ln u) (m.ln v)↔0<dp u v):=by
 have e:dp v v*dp (m.ln u) (m.ln v)=dp u v*dp (m.ln v) (m.ln v):=by simp only[cr,dp,dJ.ln]at *;grind
 by_cases hv:dp v v=0
 ·have:=dp0 hv;subst this;have e1:dp (m.ln u) (m.ln (0,0))=0:=by simp only[dp,dJ.ln];grind
  have e2:dp u (0,0)=0:=by simp only[dp];grind
  rw[e1,e2];exact⟨ahm,ahm⟩
 have hv1:0<dp v v:=by have:=dpn v;grind
 have hw:0<dp (m.ln v) (m.ln v):=by
  have:=dpn (m.ln v);by_cases g:dp (m.ln v) (m.ln v)=0
  ·exact absurd (apS hm (dp0 g)) (fun e=>hv (by rw[e];simp only[dp];grind))
  grind
 have f1:=lA (dp v v) (dp (m.ln u) (m.ln v));have f2:=lA (dp (m.ln v) (m.ln v)) (dp u v);rw[aov (dp u v)]at e;constructor<;>constructor<;>intro h<;>grind
theorem arS{m:dJ}(hm:0<m.dC){u v:Rat×Rat}:vR (m.ln u) (m.ln v)↔vR u v:=by
 unfold vR;rw[m.agS];constructor
 ·rintro⟨h1,h2⟩;have h0:cr u v=0:=by rcases rI.1 h1 with h|h<;>grind
  exact⟨h0,((aho hm h0).1).1 h2⟩
 rintro⟨h1,h2⟩;exact⟨by rw[h1];grind,((aho hm h1).1).2 h2⟩
theorem awG{m:dJ}(hm:0<m.dC)(u v:Rat×Rat):ct (1,0) (m.ln u) (m.ln v)=ct (m.d,-m.c) u v:=by
 have e:∀w:Rat×Rat,cr (1,0) (m.ln w)=cr (m.d,-m.c) w:=fun w=>by simp only[cr,dJ.ln];grind
 have f:=lA m.dC (cr u v);have f2:=lA m.dC (-cr u v);have f3:m.dC*-cr u v=-(m.dC*cr u v):=dR;have g:(0<m.dC*cr u v↔0<cr u v)/\(m.dC*cr u v<0↔cr u v<0):=by
  constructor<;>constructor<;>intro h<;>grind
 simp only[ct,e,m.agS,g.1,g.2]
def gF(a b p:V3):Int:=bY (cr (mi a p) (mi b p))
def kr(a b p:V3):Prop:=vR (mi a p) (mi b p)
instance (a b p:V3):Decidable (kr a b p):=inferInstanceAs (Decidable (_/\_))
theorem aga{m:dJ}(hm:0<m.dC)(a b p:V3):kr (m.ap a) (m.ap b) (m.ap p)↔kr a b p:=by
 unfold kr;rw[m.uo,m.uo];exact arS hm
theorem ahR{k x:Rat}(hk:0<k):bY (k*x)=bY x:=by
 have f:=lA k x;have f2:=lA k (-x);have f3:k*-x=-(k*x):=dR;unfold bY;by_cases h0:x=0
 ·subst h0;rw[show k*0=(0:Rat) by grind]
 by_cases h1:x<0
 ·have:k*x<0:=dR;rw[if_neg dR,if_neg h0,if_pos this,if_pos h1]
 have:0<k*x:=dR;rw[if_neg dR,if_neg h0,if_neg dR,if_neg h1]
theorem aqM{m:dJ}(hm:0<m.dC)(a b p:V3):gF (m.ap a) (m.ap b) (m.ap p)=gF a b p:=by
 unfold gF;rw[m.uo,m.uo,m.agS,ahR hm]
def vx(l:List V3)(i:Nat):V3:=l.getD (i%l.length) default
theorem qA(m:dJ)(l:List V3)(h:0<l.length)(i:Nat):vx (l.map m.ap) i=m.ap (vx l i):=by
 have hi:i%l.length<l.length:=gl _ h;unfold vx;rw[bF,bf,bf,iT,bO hi];rfl
def jC(l:List V3)(p:V3):Nat->Option Int
 |0=>some 0
 |n+1=>(jC l p n).bind fun s=>if kr (vx l n) (vx l (n+1)) p then none else some (s+ct (1,0) (mi (vx l n) p) (mi (vx l (n+1)) p))
def gU(l:List V3)(p:V3):Option Int:=jC l p l.length
theorem apo{m:dJ}(hm:0<m.dC)(l:List V3)(p:V3)(h:0<l.length):∀n,(jC l p n=none/\jC (l.map m.ap) (m.ap p) n=none) \/
  ∃s,jC l p n=some s/\jC (l.map m.ap) (m.ap p) n=some (s-(psi (1,0) (m.d,-m.c) (mi (vx l n) p)-psi (1,0) (m.d,-m.c) (mi (vx l 0) p)))
 |0=>.inr ⟨0,rfl,by simp[jC]⟩
 |n+1=>by
   simp only[jC];rcases apo hm l p h n with⟨h1,h2⟩|⟨s,h1,h2⟩
   ·left;rw[h1,h2];exact⟨rfl,rfl⟩
   rw[h1,h2];simp only[wQ];rw[qA m l h,qA m l h];by_cases ho:kr (vx l n) (vx l (n+1)) p
   ·left;rw[if_pos ho,if_pos ((aga hm _ _ _).2 ho)];exact⟨rfl,rfl⟩
   right;rw[if_neg ho,if_neg (fun e=>ho ((aga hm _ _ _).1 e))];refine⟨_,rfl,?_⟩;rw[m.uo,m.uo,awG hm];have hd:(m.d,-m.c)≠((0,0):Rat×Rat):=fun e=>by
    have e1:m.d=0:=congrArg ak8 e;have e2:-m.c=0:=congrArg aoR e;have e3:m.c=0:=dR;rw[dJ.dC,e1,e3]at hm;grind
   have:=au8 (d:=(1,0)) (e:=(m.d,-m.c)) az hd ho;congr 1;omega
theorem ahJ{m:dJ}(hm:0<m.dC)(l:List V3)(p:V3):gU (l.map m.ap) (m.ap p)=gU l p:=by
 unfold gU;by_cases h:0<l.length
 ·rw[bF];rcases apo hm l p h l.length with⟨h1,h2⟩|⟨s,h1,h2⟩
  ·rw[h1,h2]
  rw[h1,h2,show vx l l.length=vx l 0 by simp[vx]];simp
 have:l=[]:=by cases l<;>simp_all
 subst this;rfl
def rf(l:List V3):Nat->Rat
 |0=>0
 |n+1=>rf l n+((vx l n).x*(vx l (n+1)).y-(vx l (n+1)).x*(vx l n).y)
def gH(l:List V3):Rat:=rf l l.length
theorem aoE(m:dJ)(l:List V3)(h:0<l.length):∀n,rf (l.map m.ap) n=m.dC*rf l n+(m.s*((m.ap (vx l n)).y-(m.ap (vx l 0)).y)-m.t*((m.ap (vx l n)).x-(m.ap (vx l 0)).x))
 |0=>by simp only[rf];grind
 |n+1=>by
   simp only[rf,qA m l h,aoE m l h n,dJ.ap,dJ.dC];grind
theorem ahc(m:dJ)(l:List V3):gH (l.map m.ap)=m.dC*gH l:=by
 unfold gH;by_cases h:0<l.length
 ·rw[bF,aoE m l h,show vx l l.length=vx l 0 by simp[vx]];grind
 have:l=[]:=by cases l<;>simp_all
 subst this;simp only[nK,ff,rf];grind
def mo(a b c d:V3):Prop:=kr a b c\/kr a b d\/kr c d a\/kr c d b\/(gF a b c*gF a b d<0/\gF c d a*gF c d b<0)
def wo(a b c:V3):Prop:=gF a b c=0/\0<dp (mi a b) (mi c b)
def uE(a b:V3):Prop:=a.x=b.x/\a.y=b.y
theorem ahC{m:dJ}(hm:0<m.dC)(a b c d:V3):mo (m.ap a) (m.ap b) (m.ap c) (m.ap d)↔mo a b c d:=by
 unfold mo;simp only[aga hm,aqM hm]
theorem ajI{x:Rat}:bY x=0↔x=0:=by
 unfold bY;constructor
 ·intro h;split at h
  ·assumption
  split at h<;>cases h
 intro h;rw[if_pos h]
theorem azl{m:dJ}(hm:0<m.dC)(a b c:V3):wo (m.ap a) (m.ap b) (m.ap c)↔wo a b c:=by
 unfold wo;rw[aqM hm,m.uo,m.uo];refine and_congr_right fun h=>(aho hm ?_).2;have:=ajI.1 h;simp only[cr,mi]at *;grind
theorem arv{m:dJ}(hm:0<m.dC)(a b:V3):uE (m.ap a) (m.ap b)↔uE a b:=by
 have e:∀x y:V3,uE x y↔mi x y=(0,0):=fun x y=>by
  simp only[uE,mi,uQ];constructor<;>rintro⟨h1,h2⟩<;>constructor<;>grind
 rw[e,e,m.uo];constructor
 ·exact apS hm
 intro h;rw[h];simp only[dJ.ln,uQ];constructor<;>grind
def edP(l:List V3)(i:Nat):Prop:=¬uE (vx l i) (vx l (i+1))/\¬wo (vx l i) (vx l (i+1)) (vx l (i+2))/\∀j,i+2<=j->j<l.length->(0<i\/j+1<l.length)->¬mo (vx l i) (vx l (i+1)) (vx l j) (vx l (j+1))
def ti(l:List V3):Prop:=3<=l.length/\∀i,i<l.length->edP l i
def sj(l m:List V3):Prop:=∀i,i<l.length->∀j,j<m.length->¬mo (vx l i) (vx l (i+1)) (vx m j) (vx m (j+1))
theorem azk{m:dJ}(hm:0<m.dC)(l:List V3):ti (l.map m.ap)↔ti l:=by
 unfold ti edP;rw[bF];refine and_congr_right fun h=>?_;simp only[qA m l (show 0<l.length by omega),arv hm,azl hm,ahC hm]
theorem as5{m:dJ}(hm:0<m.dC)(l k:List V3):sj (l.map m.ap) (k.map m.ap)↔sj l k:=by
 unfold sj;rw[bF,bF];constructor
 ·intro h i hi j hj;have:=h i hi j hj;rwa[qA m l aa,qA m l aa,qA m k aa,qA m k aa,ahC hm]at this
 intro h i hi j hj;rw[qA m l aa,qA m l aa,qA m k aa,qA m k aa,ahC hm];exact h i hi j hj
def yw(l:List V3)(p:V3):Int:=(gU l p).getD 0
def lS(L:List (List V3))(i n:Nat):List Nat:=(eH n).filter fun j=>decide (j≠i/\yw (L.getD j []) ((L.getD i []).getD 0 default)≠0)
def oM(L:List (List V3)):List Nat->Int
 | []=>0
 |j::t=>bY (gH (L.getD j []))+oM L t
def sk(L:List (List V3))(i:Nat):Prop:=min (oM L (lS L i L.length)+bY (gH (L.getD i []))) (oM L (lS L i L.length))=0/\max (oM L (lS L i L.length)+bY (gH (L.getD i []))) (oM L (lS L i L.length))=1
def xK(L:List (List V3)):Prop:=(∀i,i<L.length->ti (L.getD i [])/\∀j,j<i->sj (L.getD i []) (L.getD j []))/\∀i,i<L.length->sk L i
theorem aec{f:V3->V3}(L:List (List V3))(i:Nat):(L.map (fl f)).getD i []=(L.getD i []).map f:=by
 rw[bf,bf,iT]
 cases L[i]?<;>rfl
theorem arN(m:dJ){l:List V3}(h:0<l.length):(l.map m.ap).getD 0 default=m.ap (l.getD 0 default):=by
 cases l with
 |nil=>cases h
 |cons=>rfl
theorem au4{m:dJ}(hm:0<m.dC)(L:List (List V3)):xK (L.map (fl m.ap))↔xK L:=by
 unfold xK;rw[bF];simp only[aec,azk hm,as5 hm];refine and_congr_right fun h=>?_;have hS:∀t,oM (L.map (fl m.ap)) t=oM L t:=fun t=>by
  induction t with
  |nil=>rfl
  |cons j t ih=>simp only[oM,aec,ahc,ahR hm,ih]
 have key:∀i,i<L.length->(sk (L.map (fl m.ap)) i↔sk L i):=fun i hi=>by
  have h3:=(h i hi).1.1;have hA:lS (L.map (fl m.ap)) i L.length=lS L i L.length:=by
   unfold lS;refine List.filter_congr fun j hj=>?_;simp only[aec,arN m (show 0<(L.getD i []).length by omega),yw,ahJ hm];exact decide_eq_decide.2 ahm
  unfold sk;rw[bF,hA];simp only[hS,aec,ahc,ahR hm]
 constructor
 ·intro g i hi;exact(key i hi).1 (g i hi)
 intro g i hi;exact(key i hi).2 (g i hi)
def lO(p:V3):List (List V3)->Option Int
 | []=>some 0
 |l::t=>(gU l p).bind fun s=>(lO p t).map (s+·)
theorem ajB{m:dJ}(hm:0<m.dC)(p:V3):∀L:List (List V3),lO (m.ap p) (L.map (fl m.ap))=lO p L
 | []=>rfl
 |l::t=>by simp only[jh,lO,ahJ hm,ajB hm p t]
theorem avs(a b p:V3):bY (s7 (fU b a) (fU p a)).z=gF a b p:=by
 unfold gF;congr 1;simp only[s7,fU,cr,mi];grind
def xJ(a b x:Rat):Bool:=vP (bU a b,bV a b) x
def zC(a b p:V3):Bool:=decide (gF a b p=0)&&(xJ a.x b.x p.x&&xJ a.y b.y p.y)
theorem avr(a b x:Rat):xJ a b x=true↔(a-x)*(b-x)<=0:=by
 have f1:=lA (a-x) (b-x);have f2:=lA (x-a) (x-b);have f3:(x-a)*(x-b)=(a-x)*(b-x):=dR;have f4:=lA (a-x) (x-b);have f5:(a-x)*(x-b)=- ((a-x)*(b-x)):=dR;simp only[xJ,vP,bU,bV,cY,decide_eq_true_eq];constructor
 ·rintro⟨h1,h2⟩;split at h1<;>split at h2<;>grind
 intro h;constructor<;>split<;>grind
theorem aAW{P Q:Rat}(h:0<=P*Q)(s:P+Q<=0):P<=0/\Q<=0:=by
 have f1:=lA P (-Q);have f2:=lA (-P) Q;have e1:P*-Q=-(P*Q):=dR;have e2:-P*Q=-(P*Q):=dR;constructor<;>grind
theorem ag2(a b p:V3):zC a b p=decide (kr a b p):=by
 have e:zC a b p=true↔kr a b p:=by
  simp only[zC,cY,decide_eq_true_eq,avr,kr,vR,gF,ajI];refine and_congr_right fun h=>?_;have g:(mi a p).1*(mi b p).1*((mi a p).2*(mi b p).2)=((mi a p).1*(mi b p).2)*((mi a p).1*(mi b p).2):=by simp only[cr]at h;grind
  have g2:=rn ((mi a p).1*(mi b p).2);simp only[dp];show (mi a p).1*(mi b p).1<=0/\(mi a p).2*(mi b p).2<=0↔_;constructor
  ·rintro⟨h1,h2⟩;grind
  intro h1;exact aAW (by rw[g];exact g2) h1
 by_cases h:kr a b p
 ·rw[decide_eq_true h];exact e.2 h
 rw[decide_eq_false h];exact Bool.eq_false_iff.2 fun g=>h (e.1 g)
theorem amr(l:List V3){i:Nat}(h:i<l.length):l.getD i default=vx l i:=by unfold vx;rw[Nat.mod_eq_of_lt h]
instance (a b c d:V3):Decidable (mo a b c d):=inferInstanceAs (Decidable (_\/_\/_\/_\/(_/\_)))
instance (a b c:V3):Decidable (wo a b c):=inferInstanceAs (Decidable (_/\_))
instance (a b:V3):Decidable (uE a b):=inferInstanceAs (Decidable (_/\_))
theorem aeH(x:Rat):-1<=bY x/\bY x<=1:=by rcases aei x with h|h|h<;>rw[h]<;>decide
theorem aoS(x y:Rat):-1<=bY x*bY y/\bY x*bY y<=1:=by
 rcases aei x with h|h|h<;>rcases aei y with k|k|k<;>rw[h,k]<;>decide
theorem apK{i n:Nat}(h:i<n):cj .rem .i64 ((i+1:Nat):Int) (n:Int)=some (.int .i64 (((i+1)%n:Nat):Int)):=by
 rw[ara aa,Int.tmod_eq_emod_of_nonneg aa];rfl
theorem aq8{i n:Nat}(h:i<n):(i+1)%n<n:=gl _ aa
theorem aon{x:Rat}:decide (0<bY x)=decide (0<x):=by
 rw[decide_eq_decide];unfold bY;constructor
 ·intro h;split at h
  ·cases h
  split at h
  ·cases h
  grind
 intro h;rw[if_neg dR,if_neg dR];decide
theorem vo{l:List V3}{R:Nat}(hb:∀p∈l,bE R p)(h:0<l.length)(i:Nat):bE R (vx l i):=by
 have hi:i%l.length<l.length:=gl _ h;unfold vx;rw[bf,bO hi];exact hb _ (rA hi)
theorem aeb{l:List V3}{R:Nat}(hb:∀i,bE R (vx l i)):∀n,rl (rf l n)<=1+n*(4*R+4)
 |0=>by show rl 0<=_;rw[show rl 0=1 from rfl];omega
 |n+1=>by
   have ih:=aeb hb n;obtain⟨a1,a2,a3⟩:=hb n;obtain⟨b1,b2,b3⟩:=hb (n+1);have g1:=du (vx l n).x (vx l (n+1)).y;have g2:=du (vx l (n+1)).x (vx l n).y;have g3:=kW ((vx l n).x*(vx l (n+1)).y) ((vx l (n+1)).x*(vx l n).y);have g4:=ks (rf l n) ((vx l n).x*(vx l (n+1)).y-(vx l (n+1)).x*(vx l n).y);have e:(n+1)*(4*R+4)=n*(4*R+4)+(4*R+4):=Nat.succ_mul ..;rw[rf,e];omega
namespace aa2
theorem aD{p q:Prop}(k:q)(e:p=q:=by simp only[bc,aZ,aW,aS,ij,iG,cw,cd,cy,reduceIte,if_true,if_false,cS,LV.kill,a9];exact rfl):p:=e.mpr k
end aa2
open aa2 in
theorem x9(a b p:V3)(R:Nat)(hR:R<=1000000)(ha:bE R a)(hb:bE R b)(hp:bE R p):ar ae 68 [aB a,aB b,aB p] (iL (gF a b p)):=by
 have fV:=acU hb ha;have jq:=acU hp ha;refine aE Tryz.func68 ?_;refine bC (acD b a R aa hb ha) ?_;refine bC (acD p a R aa hp ha) ?_;refine cp aK (ang (fU b a) (fU p a) (2*R+4) aa (fV.le aa) (jq.le aa)) ?_;refine aT ?_;refine cp bK (mM _ (by have:=(aeT (fV.le (show 2*R+1<=2*R+4 by omega)) (jq.le (show 2*R+1<=2*R+4 by omega))).2.2;omega)) ?_;refine ay ?_;rw[<-avs];exact dg
open H0 in
theorem aqP(a b x:Rat)(R:Nat)(hR:R<=1000000000)(ha:rl a<=R)(hb:rl b<=R)(hx:rl x<=R):ar ae 155 [ab a,ab b,ab x] (bL (xJ a b x)):=by
 have m1:rl (bU a b)<=R:=by unfold bU;split<;>assumption
 have m2:rl (bV a b)<=R:=by unfold bV;split<;>assumption
 have hMn:ar ae 242 [ab a,ab b] (ab (bU a b)):=apY a b aa;have hMx:ar ae 243 [ab a,ab b] (ab (bV a b)):=ane a b aa;unfold xJ;generalize bU a b=mn at *
 generalize bV a b=mx at *
 refine aE Tryz.func155 ?_;refine bC (hMn) ?_;refine bC (kL mn x aa) ?_;refine aR ?_;refine cz 13 rfl ?_ ?_<;>intro tL sX
 ·refine bC (hMx) ?_;refine cp aK (kL x mx aa) ?_;refine aA ?_;rw[<-akn (s:=(mn,mx)) tL];exact dA
 refine cg ?_;rw[<-aqt (s:=(mn,mx)) tL];exact dA
open aa2 in
theorem ab5(a b p:V3)(R:Nat)(hR:R<=1000000)(ha:bE R a)(hb:bE R b)(hp:bE R p):ar ae 66 [aB a,aB b,aB p] (bL (decide (kr a b p))):=by
 obtain⟨a1,a2,a3⟩:=ha;obtain⟨b1,b2,b3⟩:=hb;obtain⟨p1_,p2_,p3_⟩:=hp;have hO:=x9 a b p R hR ⟨a1,a2,a3⟩ ⟨b1,b2,b3⟩ ⟨p1_,p2_,p3_⟩;refine aE Tryz.func66 ?_;refine kP (hO) ?_;refine aR ?_;refine cz 12 rfl ?_ ?_<;>intro abv wT
 ·refine kP (aqP a.x b.x p.x R aa a1 b1 p1_) ?_;refine aR ?_;refine cz 21 rfl ?_ ?_<;>intro afY h21
  ·refine kP (aqP a.y b.y p.y R aa a2 b2 p2_) ?_;refine aV ?_;rw[show decide (kr a b p)=xJ a.y b.y p.y from by rw[<-ag2,zC,decide_eq_true wT,afY];rfl];exact dg
  refine bp ?_;rw[show decide (kr a b p)=false from by rw[<-ag2,zC,decide_eq_true wT,afY];rfl];exact dg
 refine w9 ?_;rw[show decide (kr a b p)=false from by rw[<-ag2,zC,decide_eq_false wT];rfl];exact dg
open aa2 in
theorem anw(a b c d:V3)(R:Nat)(hR:R<=1000000)(ha:bE R a)(hb:bE R b)(hc:bE R c)(hd:bE R d):ar ae 162 [aB a,aB b,aB c,aB d] (bL (decide (mo a b c d))):=by
 have m1:=aoS (cr (mi a c) (mi b c)) (cr (mi a d) (mi b d));have m2:=aoS (cr (mi c a) (mi d a)) (cr (mi c b) (mi d b));have e1_:-1<=gF a b c*gF a b d/\gF a b c*gF a b d<=1:=m1;have e2_:-1<=gF c d a*gF c d b/\gF c d a*gF c d b<=1:=m2;refine aE Tryz.func162 ?_;refine kP (ab5 a b c R hR ha hb hc) ?_;refine aT ?_;refine cz 13 rfl ?_ ?_<;>intro tL sX
 ·refine afJ ?_;rw[show decide (mo a b c d)=true from decide_eq_true (.inl sX)];exact dg
 refine kP (ab5 a b d R hR ha hb hd) ?_;refine aR ?_;refine cz 19 rfl ?_ ?_<;>intro yN uv
 ·refine w9 ?_;rw[show decide (mo a b c d)=true from decide_eq_true (.inr (.inl uv))];exact dg
 refine kP (ab5 c d a R hR hc hd ha) ?_;refine aR ?_;refine cz 25 rfl ?_ ?_<;>intro ad1 o6
 ·refine gA ?_;rw[show decide (mo a b c d)=true from decide_eq_true (.inr (.inr (.inl o6)))];exact dg
 refine kP (ab5 c d b R hR hc hd hb) ?_;refine bw ?_;refine au rfl ?_ ?_<;>intro uM ua
 ·refine aP ?_;rw[show decide (mo a b c d)=true from decide_eq_true (.inr (.inr (.inr (.inl ua))))];exact dg
 refine kP (x9 a b c R hR ha hb hc) ?_;refine kP (x9 a b d R hR ha hb hd) ?_;refine ai rfl abl ?_;refine aR ?_;refine cz 41 rfl ?_ ?_<;>intro abw yX
 ·refine kP (x9 c d a R hR hc hd ha) ?_;refine kP (x9 c d b R hR hc hd hb) ?_;refine ai (gr (v:=true) rfl rfl (abw) rfl) (.bin rfl rfl (agI aa aa)) ?_;refine aA ?_;rw[show decide (mo a b c d)=decide (gF c d a*gF c d b<0) from decide_eq_decide.2 ⟨fun h=>by rcases h with h|h|h|h|h;exact absurd h sX;exact absurd h uv;exact absurd h o6;exact absurd h ua;exact h.2,fun h=>.inr (.inr (.inr (.inr ⟨yX,h⟩)))⟩];exact dg
 refine gA ?_;rw[show decide (mo a b c d)=false from decide_eq_false fun h=>by rcases h with h|h|h|h|h;exact sX h;exact uv h;exact o6 h;exact ua h;exact yX h.1];exact dg
open aa2 in
theorem at7(a b c:V3)(R:Nat)(hR:R<=1000000)(ha:bE R a)(hb:bE R b)(hc:bE R c):ar ae 161 [aB a,aB b,aB c] (bL (decide (wo a b c))):=by
 have fV:=acU ha hb;have jq:=acU hc hb;have hO:=x9 a b c R hR ha hb hc;have tY:=acD a b R aa ha hb;have hS2:=acD c b R aa hc hb;obtain⟨x1,x2,x3⟩:=fV;obtain⟨y1,y2,y3⟩:=jq;have g1:=du (fU a b).x (fU c b).x;have g2:=du (fU a b).y (fU c b).y;have g3:=ks ((fU a b).x*(fU c b).x) ((fU a b).y*(fU c b).y);refine aE Tryz.func161 ?_;refine bC (tY) ?_;refine bC (hS2) ?_;refine bC (fo (fU a b).x (fU c b).x aa) ?_;refine bC (fo (fU a b).y (fU c b).y aa) ?_;refine cp aK (gY ((fU a b).x*(fU c b).x) ((fU a b).y*(fU c b).y) aa) ?_;refine kP (hO) ?_;refine aR ?_;refine cz 32 rfl ?_ ?_<;>intro yZ zH
 ·refine cO (mM ((fU a b).x*(fU c b).x+(fU a b).y*(fU c b).y) aa) ?_;refine aA ?_;rw[show decide (wo a b c)=decide (0<bY ((fU a b).x*(fU c b).x+(fU a b).y*(fU c b).y)) from by rw[aon];exact decide_eq_decide.2 ⟨fun h=>h.2,fun h=>⟨zH,h⟩⟩];exact dg
 refine bu ?_;rw[show decide (wo a b c)=false from decide_eq_false fun h=>zH h.1];exact dg
namespace zB
theorem aD{p q:Prop}(k:q)(e:p=q:=by simp only[bc,aZ,aW,aS,bF,cw,cd,cy,reduceIte,if_true,if_false,cS,LV.kill,a9];exact rfl):p:=e.mpr k
end zB
open zB in
theorem xH(l:List V3)(i:Nat)(hi:i<l.length)(hl:l.length<=1000):ar ae 58 [.list 9 (l.map aB),ak i] (.aQ [aB (vx l i),aB (vx l (i+1))]):=by
 have evi:l.getD i default=vx l i:=amr l hi;have hm:=aq8 hi;refine aE Tryz.func58 (ht:=(lf (a7.pure _) (a7.pure _))) ?_;refine aP ?_;refine atO rfl 12 4 [4,5,6,7,8,9,10,11] bj rfl ?_;simp only[sr,xa,bc,aZ,aW,aS,bh7,dh1,dh2,dh3];refine aA ?_;refine ai rfl nj ?_;refine aR ?_;refine ai rfl (.bin rfl rfl (apK hi)) ?_;refine aR ?_;refine azX rfl rfl (fun om h=>by cases h;exact⟨_,_,_,_,_,rfl,rfl⟩) ?_;simp only[aap,gX];refine aV ?_;rw[<-evi];exact ay9 [] rfl rfl rfl cs (fq cs rfl) kt (.pure pu) rfl rfl cs (fq cs rfl) kt (.pure pu)
namespace aqW
theorem aD{p q:Prop}(k:q)(e:p=q:=by simp only[bc,aZ,aW,aS,bF,hz0,hzc,ij,iG,cw,cd,cy,reduceIte,if_true,if_false,cS,LV.kill,a9];exact rfl):p:=e.mpr k
end aqW
open aqW in
theorem aep(l:List V3)(hl:l.length<=64)(R:Nat)(hR:R<=1000000)(hb:∀p∈l,bE R p):ar ae 18 [.list 9 (l.map aB)] (ab (gH l)):=by
 have hz0:LV.agg [.v (.bool false),.list 1 [],.list 1 []]=ab 0:=iF.symm;have hzc:(ab 0).aj=3:=al.aj 0;refine aE Tryz.func18 ?_;refine nk ?_;refine da (fun(i:Nat) L=>(mS L [(2,⟨3,[ab 0],true⟩),(3,⟨3,[ab (rf l i)],true⟩)] [(9,ak i),(8,ak l.length),(3,.ax 3 3 0 0),(2,.ax 2 3 0 0),(0,.list 9 (l.map aB))])) (fun i=>i<=l.length) (fun i=>l.length-i) 0 (bJ _) ?_;rintro i L1 hi;refine aA ?_;refine au rfl ?_ ?_<;>intro qL vb
 ·have dS:i<l.length:=aa;have hv:=vo hb (show 0<l.length by omega);obtain⟨a1,a2,a3⟩:=hv i;obtain⟨b1,b2,b3⟩:=hv (i+1);have g0:=aeb hv i;have g1:=du (vx l i).x (vx l (i+1)).y;have g2:=du (vx l (i+1)).x (vx l i).y;have g3:=kW ((vx l i).x*(vx l (i+1)).y) ((vx l (i+1)).x*(vx l i).y);have g5:i*(4*R+4)<=64*4000004:=rF aa aa;refine bC (xH l i dS aa) ?_;refine bC (fo (vx l i).x (vx l (i+1)).y aa) ?_;refine bC (fo (vx l (i+1)).x (vx l i).y aa) ?_;refine cp aK (ot ((vx l i).x*(vx l (i+1)).y) ((vx l (i+1)).x*(vx l i).y) aa) ?_;refine cp aK (gY (rf l i) (((vx l i).x*(vx l (i+1)).y)-((vx l (i+1)).x*(vx l i).y)) aa) ?_;refine ay ?_;refine bX ((av.kill _ 5).trans (av.kill _ 6)) ?_;refine c9 ?_;exact mW
 obtain rfl:i=l.length:=aa;refine bp ?_;exact ju
theorem aqu(a b p:V3):ct (1,0) (mi a p) (mi b p)=bif (decide (ez a.y p.y<=0)&&!decide (ez b.y p.y<=0))&&decide (0<gF a b p)then 1 else bif (decide (ez b.y p.y<=0)&&!decide (ez a.y p.y<=0))&&decide (gF a b p<0)then -1 else 0:=by
 have e:∀q:V3,cr (1,0) (mi q p)=q.y-p.y:=fun q=>by simp only[cr,mi];grind
 have e1:∀q:V3,(q.y-p.y<=0↔q.y<=p.y):=fun q=>by constructor<;>intro h<;>grind
 have s1:(0<gF a b p)↔0<cr (mi a p) (mi b p):=decide_eq_decide.1 aon;have s2:(gF a b p<0)↔cr (mi a p) (mi b p)<0:=by
  unfold gF bY;constructor
  ·intro h;split at h
   ·cases h
   split at h
   ·assumption
   cases h
  intro h;rw[if_neg dR,if_pos h];decide
 simp only[ct,e,e1,adt,s1,s2];by_cases h1:a.y<=p.y<;>by_cases h2:b.y<=p.y<;>by_cases h3:0<cr (mi a p) (mi b p)<;>by_cases h4:cr (mi a p) (mi b p)<0<;>simp[h1,h2,h3,h4]
theorem ak6{l:List V3}{p:V3}{m:Nat}(h:jC l p m=none):∀n,m<=n->jC l p n=none
 |0,hn=>by
        obtain rfl:m=0:=aa;exact h
 |n+1,hn=>by
   by_cases e:m=n+1
   ·subst e;exact h
   rw[jC,ak6 h n aa];rfl
theorem aeU{l:List V3}{p:V3}:∀{n:Nat} {s:Int},jC l p n=some s->-(n:Int)<=s/\s<=n
 |0,s,h=>by cases h;decide
 |n+1,s,h=>by
   rw[jC]at h
   cases hw:jC l p n with
   |none=>rw[hw]at h;cases h
   |some t =>
    rw[hw,wQ]at h;have:=aeU hw;split at h
    ·cases h
    cases h
    have c:-1<=ct (1,0) (mi (vx l n) p) (mi (vx l (n+1)) p)/\ct (1,0) (mi (vx l n) p) (mi (vx l (n+1)) p)<=1:=by
     unfold ct;split
     ·decide
     split<;>decide
    omega
theorem acb{l:List V3}{p:V3}{n:Nat}{s t:Int}(h:jC l p n=some s)(ho:decide (kr (vx l n) (vx l (n+1)) p)=false)(e:ct (1,0) (mi (vx l n) p) (mi (vx l (n+1)) p)=t):jC l p (n+1)=some (s+t):=by
 rw[jC,h,wQ,if_neg (of_decide_eq_false ho),e]
theorem awP{l:List V3}{p:V3}{n:Nat}{s:Int}(h:jC l p n=some s)(ho:decide (kr (vx l n) (vx l (n+1)) p)=false)(e:ct (1,0) (mi (vx l n) p) (mi (vx l (n+1)) p)=0):jC l p (n+1)=some s:=by
 have:=acb h ho e;rwa[Int.add_zero]at this
namespace ad0
theorem aD{p q:Prop}(k:q)(e:p=q:=by simp only[bc,aZ,aW,aS,bF,rZ,ij,iG,cw,cd,cy,reduceIte,if_true,if_false,cS,LV.kill,a9];exact rfl):p:=e.mpr k
end ad0
open ad0 in
theorem adx(l:List V3)(hl:l.length<=64)(p:V3)(R:Nat)(hR:R<=1000000)(hb:∀q∈l,bE R q)(hp:bE R p):ar ae 20 [.list 9 (l.map aB),aB p] (.aQ [iL ((gU l p).getD 0),bL (gU l p).isSome]):=by
 have rZ:(LV.agg [ab 0,ab 0,ab 0]).aj=9:=wL;refine aE Tryz.func20 (ht:=(lf rfl rfl)) ?_;refine w9 ?_;refine iy (fun(i:Nat) (n:Int) L=>(mS L [(3,⟨9,[aB p],true⟩)] [(6,iL n),(15,ak i),(14,ak l.length),(5,bL false),(4,iL 0),(3,.ax 3 9 0 0),(0,.list 9 (l.map aB))])) (fun i n=>i<=l.length/\jC l p i=some n) (fun i n=>l.length-i) 0 0 ⟨bJ _,rfl⟩ ?_;rintro i n L1 ⟨hi,hn⟩;refine aA ?_;refine au rfl ?_ ?_<;>intro nn jJ
 ·have dS:i<l.length:=aa;have hv:=vo hb (show 0<l.length by omega);have hnb:=aeU hn;have hyp:=hp.2.1;have hya:=(hv i).2.1;have hyb:=(hv (i+1)).2.1;refine bC (xH l i dS aa) ?_;refine kP (ab5 (vx l i) (vx l (i+1)) p R hR (hv _) (hv _) hp) ?_;refine aR ?_;refine au rfl ?_ ?_<;>intro sf zu
  ·have hw:gU l p=none:=ak6 (m:=i+1) (by rw[jC,hn,wQ,if_pos (of_decide_eq_true sf)]) _ aa;refine dk ?_;rw[hw];exact pt rfl (.pure rfl) rfl (.pure rfl)
  refine bC (kL (vx l i).y p.y aa) ?_;refine bC (kL (vx l (i+1)).y p.y aa) ?_;refine kP (x9 (vx l i) (vx l (i+1)) p R hR (hv _) (hv _) hp) ?_;refine bw ?_;refine fk (fun L=>∃(m:Int) (L1:St),(jC l p (i+1)=some m)/\L=(mS L1 [(3,⟨9,[aB p],true⟩),(8,⟨9,[aB (vx l i)],true⟩),(9,⟨9,[aB (vx l (i+1))],true⟩)] [(9,.ax 9 9 0 0),(8,.ax 8 9 0 0),(6,iL m),(15,ak i),(14,ak l.length),(5,bL false),(4,iL 0),(3,.ax 3 9 0 0),(0,.list 9 (l.map aB))])) ?_ ?_
  ·refine aV ?_;refine cz 46 rfl ?_ ?_<;>intro agW h46
   ·refine ay ?_;refine cz 50 rfl ?_ ?_<;>intro acY h50
    ·refine aA ?_;refine au rfl ?_ ?_<;>intro ayu h44
     ·refine aR ?_;refine ai rfl pn ?_;refine ay ?_;exact⟨(n+1),_,acb hn sf (t:=1) aeF,ca⟩
     refine ay ?_;refine cz 58 rfl ?_ ?_<;>intro tj ta
     ·refine ay ?_;refine cz 62 rfl ?_ ?_<;>intro aaN yg
      ·refine aA ?_;refine au rfl ?_ ?_<;>intro aeV h56
       ·refine aR ?_;refine ai rfl nv ?_;refine ay ?_;exact⟨(n-1),_,by have:=acb hn sf (t:=(-1)) aeF;exact this,ca⟩
       refine bw ?_;exact tz
      refine cb ?_;exact tz
     refine dx ?_;exact tz
    refine cg ?_;refine cz 58 rfl ?_ ?_<;>intro tj ta
    ·refine ay ?_;refine cz 62 rfl ?_ ?_<;>intro aaN yg
     ·refine aA ?_;refine au rfl ?_ ?_<;>intro aeV h56
      ·refine aR ?_;refine ai rfl nv ?_;refine ay ?_;exact⟨(n-1),_,by have:=acb hn sf (t:=(-1)) aeF;exact this,ca⟩
      refine bw ?_;exact tz
     refine cb ?_;exact tz
    refine dx ?_;exact tz
   refine gA ?_;refine cz 58 rfl ?_ ?_<;>intro tj ta
   ·refine ay ?_;refine cz 62 rfl ?_ ?_<;>intro aaN yg
    ·refine aA ?_;refine au rfl ?_ ?_<;>intro aeV h56
     ·refine aR ?_;refine ai rfl nv ?_;refine ay ?_;exact⟨(n-1),_,by have:=acb hn sf (t:=(-1)) aeF;exact this,ca⟩
     refine bw ?_;exact tz
    refine cb ?_;exact tz
   refine dx ?_;exact tz
  rintro _ ⟨m,LB2,hm,rfl⟩;refine aR ?_;refine bX ((av.kill _ 8).trans (av.kill _ 9)) ?_;refine c9 ?_;exact fC (i+1) m ⟨aa,hm⟩
 obtain rfl:i=l.length:=aa;refine dk ?_;rw[show gU l p=some n from hn];exact pt rfl (.pure rfl) rfl (.pure rfl)
noncomputable def v7(l:List V3):Bool:=@decide (ti l) (uJ _)
theorem ag7{l:List V3}(h:ti l):v7 l=true:=@decide_eq_true _ (uJ _) h
theorem aeg{l:List V3}(h:¬ti l):v7 l=false:=@decide_eq_false _ (uJ _) h
noncomputable def zE(l m:List V3):Bool:=@decide (sj l m) (uJ _)
theorem agz{l m:List V3}(h:sj l m):zE l m=true:=@decide_eq_true _ (uJ _) h
theorem auO{l m:List V3}(h:¬sj l m):zE l m=false:=@decide_eq_false _ (uJ _) h
theorem ash{a b:V3}(h:decide (a.x=b.x)=true):decide (a.y=b.y)=decide (uE a b):=by
 rw[decide_eq_decide];exact⟨fun k=>⟨of_decide_eq_true h,k⟩,fun k=>k.2⟩
theorem asV{a b:V3}(h:decide (a.x=b.x)=false):false=decide (uE a b):=(decide_eq_false fun k=>of_decide_eq_false h k.1).symm
theorem axG{a:Nat}(h:a+2<=9223372036854775807):cj .add .i64 (a:Nat) 2=some (.int .i64 ((a+2:Nat):Int)):=by
 rw[qD aa aa];rfl
theorem atH(l:List V3)(i:Nat):vx l ((i+1)%l.length)=vx l (i+1):=by unfold vx;rw[Nat.mod_mod]
theorem awd(l:List V3)(i:Nat):vx l ((i+1)%l.length+1)=vx l (i+2):=by unfold vx;rw[Nat.mod_add_mod]
open ad0 in
theorem au1(l:List V3)(hl:l.length<=64)(R:Nat)(hR:R<=1000000)(hb:∀q∈l,bE R q):ar ae 74 [.list 9 (l.map aB)] (bL (v7 l)):=by
 have rZ:(LV.agg [ab 0,ab 0,ab 0]).aj=9:=wL;refine aE Tryz.func74 ?_;refine dk ?_;refine au rfl ?_ ?_<;>intro tL sX
 ·have hf:v7 l=false:=aeg fun h=>by have:=h.1;omega
  refine aP ?_;rw[hf];exact dg
 refine cg ?_;refine da (fun(i:Nat) L=>(mS L [] [(16,ak i),(15,ak l.length),(2,bL false),(0,.list 9 (l.map aB))])) (fun i=>i<=l.length/\∀k,k<i->edP l k) (fun i=>l.length-i) 0 ⟨bJ _,fun _ h=>by omega⟩ ?_;rintro i L1 ⟨hi,hd⟩;refine aA ?_;refine au rfl ?_ ?_<;>intro ae7 h17
 ·have dS:i<l.length:=aa;have hv:=vo hb (show 0<l.length by omega);have hm:=aq8 dS;obtain⟨a1,a2,a3⟩:=hv i;obtain⟨b1,b2,b3⟩:=hv (i+1);have hE2:=xH l ((i+1)%l.length) hm aa;rw[atH,awd]at hE2;refine bC (xH l i aa aa) ?_;refine cg ?_;refine fk (fun L=>∃(q:Bool) (L1:St),(q=decide (uE (vx l i) (vx l (i+1))))/\L=(mS L1 [(4,⟨9,[aB (vx l i)],true⟩),(5,⟨9,[aB (vx l (i+1))],true⟩)] [(36,bL q),(5,.ax 5 9 0 0),(4,.ax 4 9 0 0),(3,ak i),(16,ak i),(15,ak l.length),(2,bL false),(0,.list 9 (l.map aB))])) ?_ ?_
  ·refine bC (nG (vx l i).x (vx l (i+1)).x aa) ?_;refine aT ?_;refine cz 30 rfl ?_ ?_<;>intro uM ua
   ·refine bC (nG (vx l i).y (vx l (i+1)).y aa) ?_;refine bw ?_;exact⟨(decide ((vx l i).y=(vx l (i+1)).y)),_,ash uM,ca⟩
   refine bu ?_;exact⟨false,_,asV uM,ca⟩
  rintro _ ⟨q,LR7,hq,rfl⟩;refine aT ?_;refine au rfl ?_ ?_<;>intro abK h36
  ·have hf:v7 l=false:=aeg fun h=>(h.2 i dS).1 (of_decide_eq_true (hq▸abK));refine bp ?_;rw[hf];exact dg
  have hsa:=of_decide_eq_false (hq▸abK);refine aP ?_;refine ai rfl nj ?_;refine aR ?_;refine ai rfl (.bin rfl rfl (apK dS)) ?_;refine cp aK (hE2) ?_;refine kP (at7 (vx l i) (vx l (i+1)) (vx l (i+2)) R hR (hv _) (hv _) (hv _)) ?_;refine aR ?_;refine au rfl ?_ ?_<;>intro acY h50
  ·have hf:v7 l=false:=aeg fun h=>(h.2 i dS).2.1 (of_decide_eq_true acY);refine bp ?_;rw[hf];exact dg
  have w7:=of_decide_eq_false acY;refine aV ?_;refine ai rfl (.bin rfl rfl (axG aa)) ?_;refine ay ?_;refine kD (av.kill _ 6) ?_;refine kD (av.kill _ 7) ?_;refine da (fun(j:Nat) L=>(mS L [(4,⟨9,[aB (vx l i)],true⟩),(5,⟨9,[aB (vx l (i+1))],true⟩)] [(8,ak j),(5,.ax 5 9 0 0),(4,.ax 4 9 0 0),(3,ak i),(16,ak i),(15,ak l.length),(2,bL false),(0,.list 9 (l.map aB))])) (fun j=>i+2<=j/\j<=l.length+1/\∀k,i+2<=k->k<j->k<l.length->(0<i\/k+1<l.length)->¬mo (vx l i) (vx l (i+1)) (vx l k) (vx l (k+1))) (fun j=>l.length+1-j) (i+2) ⟨bA _,aa,fun k h1 h2=>by omega⟩ ?_;rintro j L2 ⟨hj1,hj3,hj⟩;refine aR ?_;refine fk (fun L=>∃(q2:Bool) (L1:St),(q2=decide (j<l.length/\(0<i\/j+1<l.length)))/\L=(mS L1 [(4,⟨9,[aB (vx l i)],true⟩),(5,⟨9,[aB (vx l (i+1))],true⟩)] [(67,bL q2),(8,ak j),(5,.ax 5 9 0 0),(4,.ax 4 9 0 0),(3,ak i),(16,ak i),(15,ak l.length),(2,bL false),(0,.list 9 (l.map aB))])) ?_ ?_
  ·refine aA ?_;refine cz 57 rfl ?_ ?_<;>intro aCJ h57
   ·refine bw ?_;refine cz 60 rfl ?_ ?_<;>intro ava h60
    ·refine bx ?_;exact⟨true,_,(decide_eq_true ⟨aa,.inl aa⟩).symm,ca⟩
    refine bw ?_;refine ai (gr (v:=false) rfl rfl (ava) rfl) (.bin rfl rfl (o5 aa aa)) ?_;refine aV ?_;exact⟨(decide ((j:Int)<(l.length:Int)-1)),_,decide_eq_decide.2 ⟨fun h=>⟨aa,.inr aa⟩,fun h=>by omega⟩,ca⟩
   refine bp ?_;exact⟨false,_,(decide_eq_false fun h=>by omega).symm,ca⟩
  rintro _ ⟨q2,aCf,hq2,rfl⟩;refine aT ?_;refine au rfl ?_ ?_<;>intro ap0 h67
  ·have fA:=of_decide_eq_true (hq2▸ap0);refine bC (xH l j aa aa) ?_;refine yc4 (anw (vx l i) (vx l (i+1)) (vx l j) (vx l (j+1)) R hR (hv _) (hv _) (hv _) (hv _)) ?_;refine aR ?_;refine au rfl ?_ ?_<;>intro aot h80
   ·have hf:v7 l=false:=aeg fun h=>(h.2 i dS).2.2 j hj1 fA.1 fA.2 (of_decide_eq_true aot);refine gA ?_;rw[hf];exact dg
   refine bw ?_;refine bX ((av.kill _ 9).trans (av.kill _ 10)) ?_;refine aT ?_;refine c9 ?_;exact fj (j+1) ⟨aa,aa,fun k h1 h2 h3 h4=>by rcases fH k j with h|h;exact hj k h1 h h3 h4;obtain rfl:k=j:=aa;exact of_decide_eq_false aot⟩
  have fA:=of_decide_eq_false (hq2▸ap0);have hme:∀k,i+2<=k->k<l.length->(0<i\/k+1<l.length)->¬mo (vx l i) (vx l (i+1)) (vx l k) (vx l (k+1)):=fun k h1 h2 h3=>hj k h1 aa h2 h3;refine aA ?_;refine bX ((av.kill _ 4).trans (av.kill _ 5)) ?_;refine c9 ?_;exact fj (i+1) ⟨aa,fun k hk=>by rcases fH k i with h|h;exact hd k h;obtain rfl:k=i:=aa;exact⟨hsa,w7,hme⟩⟩
 obtain rfl:i=l.length:=aa;refine cg ?_;rw[ag7 ⟨aa,hd⟩];exact dg
open ad0 in
theorem azu(l m:List V3)(hl:l.length<=64)(hml:m.length<=64)(R:Nat)(hR:R<=1000000)(hb:∀q∈l,bE R q)(qT:∀q∈m,bE R q):ar ae 75 [.list 9 (l.map aB),.list 9 (m.map aB)] (bL (zE l m)):=by
 have rZ:(LV.agg [ab 0,ab 0,ab 0]).aj=9:=wL;refine aE Tryz.func75 ?_;refine dx ?_;refine da (fun(i:Nat) L=>(mS L [] [(13,ak i),(12,ak l.length),(4,bL false),(1,.list 9 (m.map aB)),(0,.list 9 (l.map aB))])) (fun i=>i<=l.length/\∀k,k<i->∀j,j<m.length->¬mo (vx l k) (vx l (k+1)) (vx m j) (vx m (j+1))) (fun i=>l.length-i) 0 ⟨bJ _,fun _ h=>by omega⟩ ?_;rintro i L1 ⟨hi,hd⟩;refine aA ?_;refine au rfl ?_ ?_<;>intro rV nb
 ·have dS:i<l.length:=aa;have hv:=vo hb (show 0<l.length by omega);refine qP ?_;refine da (fun(j:Nat) L=>(mS L [] [(18,ak j),(17,ak m.length),(5,ak i),(13,ak i),(12,ak l.length),(4,bL false),(1,.list 9 (m.map aB)),(0,.list 9 (l.map aB))])) (fun j=>j<=m.length/\∀k,k<j->¬mo (vx l i) (vx l (i+1)) (vx m k) (vx m (k+1))) (fun j=>m.length-j) 0 ⟨bJ _,fun _ h=>by omega⟩ ?_;rintro j L2 ⟨hj1,hj⟩;refine aA ?_;refine au rfl ?_ ?_<;>intro yN uv
  ·have fA:j<m.length:=aa;have hw:=vo qT (show 0<m.length by omega);refine bC (xH l i aa aa) ?_;refine bC (xH m j aa aa) ?_;refine yc4 (anw (vx l i) (vx l (i+1)) (vx m j) (vx m (j+1)) R hR (hv _) (hv _) (hw _) (hw _)) ?_;refine aR ?_;refine au rfl ?_ ?_<;>intro aoC h37
   ·have hf:zE l m=false:=auO fun h=>h i dS j fA (of_decide_eq_true aoC);refine gA ?_;rw[hf];exact dg
   refine bw ?_;refine bX ((((av.kill _ 7).trans (av.kill _ 8)).trans (av.kill _ 9)).trans (av.kill _ 10)) ?_;refine c9 ?_;exact fj (j+1) ⟨aa,fun k hk=>by rcases fH k j with h|h;exact hj k h;obtain rfl:k=j:=aa;exact of_decide_eq_false aoC⟩
  obtain rfl:j=m.length:=aa;refine aP ?_;refine c9 ?_;exact fj (i+1) ⟨aa,fun k hk=>by rcases fH k i with h|h;exact hd k h;obtain rfl:k=i:=aa;exact hj⟩
 obtain rfl:i=l.length:=aa;refine cg ?_;rw[agz hd];exact dg
def b9(l:List V3):LV:=.list 9 (l.map aB)
theorem fM:fe b9 1 false:=⟨fun _=>rfl,fun _=>rfl,fun p=>bN a7 9 p⟩
theorem loZ:ck ae 42 (b9 []):=⟨Tryz.t42,_,by kernel_rfl,rfl,rfl,fun _ _ _=>aeN 9⟩
instance:EC ae 42 b9 1 false []:=⟨fM,loZ,T42⟩
theorem aee(l:List V3)(b:Nat):(b9 l).kill b=b9 l:=LV.kM b _ (fM.pure l)
theorem dfL:(default:List V3)=[]:=rfl
structure yH (L:List (List V3)) (R:Nat):Prop where
 n:L.length<=16
 l:∀l∈L,l.length<=64
 b:∀l∈L,∀p∈l,bE R p
theorem yH.at{L:List (List V3)}{R:Nat}(h:yH L R)(i:Nat):(L.getD i []).length<=64/\∀p∈L.getD i [],bE R p:=by
 by_cases hi:i<L.length
 ·have e:L.getD i []=L[i]:=by rw[bf,bO hi];rfl
  rw[e];exact⟨h.l _ (rA hi),h.b _ (rA hi)⟩
 have e:L.getD i []=[]:=by rw[bf,List.getElem?_eq_none aa];rfl
 rw[e];exact⟨by simp,fun p h=>by cases h⟩
def jb(L:List (List V3))(i n:Nat):List Int:=(lS L i n).map fun j:Nat=>(j:Int)
theorem aro(L:List (List V3))(i n:Nat):(jb L i n).length<=n:=by
 unfold jb lS;rw[bF];exact bW (List.length_filter_le _ _) az
theorem atT{L:List (List V3)}{i n:Nat}(h:decide (n≠i/\yw (L.getD n []) ((L.getD i []).getD 0 default)≠0)=true):jb L i (n+1)=jb L i n++[(n:Int)]:=by
 unfold jb lS;rw[aaa,anW,aaH];congr 1;simp only[am7,h,if_true,aqR];rfl
theorem atj{L:List (List V3)}{i n:Nat}(h:decide (n≠i/\yw (L.getD n []) ((L.getD i []).getD 0 default)≠0)=false):jb L i (n+1)=jb L i n:=by
 unfold jb lS;rw[aaa,anW,aaH];simp only[am7,h,Bool.false_eq_true,if_false,aqR,nK,eX]
def whR:Option Int->Int
 |none=>0
 |some s=>if s=1 then 1 else -1
theorem agG(p:V3)(l:List V3):∀A:List (List V3),lO p (A++[l])=(lO p A).bind fun s=>(gU l p).map (s+·)
 | []=>by simp only[eF,lO,wQ];cases gU l p<;>simp
 |a::A=>by
   simp only[rq,lO,agG p l A]
   cases gU a p<;>cases lO p A<;>cases gU l p<;>simp[Int.add_assoc]
theorem alL(p:V3):∀A B:List (List V3),lO p A=none->lO p (A++B)=none
 | [],B,h=>by cases h
 |a::A,B,h=>by
   simp only[rq,lO]at h ⊢
   cases hw:gU a p with
   |none=>rfl
   |some s =>
    rw[hw,wQ,Option.map_eq_none_iff]at h;rw[wQ,alL p A B h];rfl
theorem arl{L:List (List V3)}{i:Nat}(h:i<L.length):L.take (i+1)=L.take i++[L.getD i []]:=by
 rw[tt,bO h,bf,bO h];rfl
theorem aAN{l:List V3}(hl:l.length<=64)(p:V3):-64<=(gU l p).getD 0/\(gU l p).getD 0<=64:=by
 cases h:gU l p with
 |none=>decide
 |some s=>have:=aeU h;show -64<=s/\s<=64;omega
namespace aiR
theorem aD{p q:Prop}(k:q)(e:p=q:=by simp only[bc,aZ,aW,aS,eA,cT m8,jW,dO,ff,eF,List.map_nil,gE,eX,aee,cT fM,rZ,dfL,bF,ij,iG,cw,cd,cy,reduceIte,if_true,if_false,cS,LV.kill,a9];exact rfl):p:=e.mpr k
end aiR
open aiR in
theorem aA5(G:List (List V3))(R:Nat)(hR:R<=1000000)(h:yH G R)(i:Nat)(hi:i<G.length)(h0:0<(G.getD i []).length):ar ae 76 [.list 1 (G.map b9),ak i] (.list 1 ((jb G i G.length).map jx)):=by
 have rZ:(LV.agg [ab 0,ab 0,ab 0]).aj=9:=wL;have hn:=h.n;refine aE Tryz.func76 (ht:=(fun g=>LV.dF g _ (bN m8 1 _))) ?_;have eA:True:=trivial;refine nk ?_;refine kD (av.own (t:=5) 38 1 rfl rfl) ?_;refine da (fun(j:Nat) L=>(mS L [(38,⟨1,(jb G i j).map jx,true⟩)] [(5,.ref 38 1 0 (jb G i j).length),(12,ak j),(11,ak G.length),(10,.list 1 (G.map b9)),(1,ak i),(0,.list 1 (G.map b9))])) (fun j=>j<=G.length) (fun j=>G.length-j) 0 (bJ _) ?_;rintro j L1 hj;refine aA ?_;refine au rfl ?_ ?_<;>intro tL sX
 ·have fA:j<G.length:=aa;have ha:=h.at j;have hb:=h.at i;have rR:bE R ((G.getD i []).getD 0 default):=by rw[amr _ h0];exact vo hb.2 h0 0
  have hW:ar ae 20 [b9 (G.getD j []),aB ((G.getD i []).getD 0 default)] (.aQ [iL (yw (G.getD j []) ((G.getD i []).getD 0 default)),bL (gU (G.getD j []) ((G.getD i []).getD 0 default)).isSome]):=adx _ ha.1 _ R hR ha.2 rR;have qH:=aro G i j;refine bC (hW) ?_;refine bu ?_;refine fk (fun L=>∃(q:Bool) (L1:St),(q=decide (j≠i/\yw (G.getD j []) ((G.getD i []).getD 0 default)≠0))/\L=(mS L1 [(38,⟨1,(jb G i j).map jx,true⟩)] [(34,bL q),(6,ak j),(5,.ref 38 1 0 (jb G i j).length),(12,ak j),(11,ak G.length),(10,.list 1 (G.map b9)),(1,ak i),(0,.list 1 (G.map b9))])) ?_ ?_
  ·refine aV ?_;refine cz 31 rfl ?_ ?_<;>intro an3 h31
   ·refine aV ?_;exact⟨(yw (G.getD j []) ((G.getD i []).getD 0 default) != 0),_,by have h9:j≠i:=aa;simp[h9];rfl,ca⟩
   refine aV ?_;exact⟨false,_,(decide_eq_false fun h=>by omega).symm,ca⟩
  rintro _ ⟨q,LR6,hq,rfl⟩;refine aT ?_;refine au rfl ?_ ?_<;>intro xV tc
  ·have eA:=atT (hq▸xV);refine ay ?_;refine dH rfl (.app (news:=[jx (j:Int)]) rfl rfl rfl rfl rfl az (.inl rfl) an abM abM Z3 T3 rfl B3 (.inl ⟨37,0,_,rfl,by decide,rfl,rfl,by simp,rfl,rfl⟩) bm bm an) ?_;refine ay ?_;refine bX (av.kill _ 37) ?_;refine c9 ?_;exact pR
  have eA:=atj (hq▸xV);refine bw ?_;refine bX (av.kill _ 37) ?_;refine c9 ?_;exact pR
 obtain rfl:j=G.length:=aa;refine bp ?_;exact nq [38] rfl rfl (eM m8 rfl rfl az)
namespace af3
theorem aD{p q:Prop}(k:q)(e:p=q:=by simp only[bc,aZ,aW,aS,aee,cT fM,rZ,dfL,bF,ij,iG,cw,cd,cy,reduceIte,if_true,if_false,cS,LV.kill,a9];exact rfl):p:=e.mpr k
end af3
open af3 in
theorem apv(G:List (List V3))(p:V3)(R:Nat)(hR:R<=1000000)(h:yH G R)(hp:bE R p):ar ae 22 [.list 1 (G.map b9),aB p] (iL (whR (lO p G))):=by
 have rZ:(LV.agg [ab 0,ab 0,ab 0]).aj=9:=wL;have hn:=h.n;refine aE Tryz.func22 ?_;refine iQ ?_;refine iy (fun(i:Nat) (s:Int) L=>(mS L [(3,⟨9,[aB p],true⟩)] [(5,iL s),(4,iL 0),(12,ak i),(11,ak G.length),(10,.list 1 (G.map b9)),(3,.ax 3 9 0 0),(0,.list 1 (G.map b9))])) (fun i s=>i<=G.length/\lO p (G.take i)=some s/\-(64*(i:Int))<=s/\s<=64*(i:Int)) (fun i s=>G.length-i) 0 0 ⟨bJ _,rfl,by decide,by decide⟩ ?_;rintro i s L1 ⟨hi,hs,fV,jq⟩;refine aA ?_;refine au rfl ?_ ?_<;>intro tL sX
 ·have dS:i<G.length:=aa;have ha:=h.at i;have hwb:=aAN ha.1 p;have hW:ar ae 20 [b9 (G.getD i []),aB p] (.aQ [iL ((gU (G.getD i []) p).getD 0),bL (gU (G.getD i []) p).isSome]):=adx _ ha.1 p R hR ha.2 hp;refine bC (hW) ?_;refine dx ?_;refine au rfl ?_ ?_<;>intro mN mB
  ·have hw:lO p G=none:=by
    have hn:gU (G.getD i []) p=none:=by cases hh:gU (G.getD i []) p with
     |none=>rfl
     |some t=>rw[hh]at mN;cases mN
    rw[<-mP (i+1) G];exact alL p _ _ (by rw[arl dS,agG,hs,wQ,hn];rfl)
   refine bp ?_;rw[hw];exact dg
  obtain⟨w,hw⟩:∃w,gU (G.getD i []) p=some w:=by cases hh:gU (G.getD i []) p with
   |none=>rw[hh]at mN;cases mN
   |some t=>exact⟨t,rfl⟩
  refine aV ?_;refine ai rfl pn ?_;refine aV ?_;refine c9 ?_;exact fC (i+1) (s+(gU (G.getD i []) p).getD 0) ⟨aa,by rw[arl dS,agG,hs,hw];rfl,by have:=hwb.1;omega,by have:=hwb.2;omega⟩
 obtain rfl:i=G.length:=aa;rw[je]at hs;refine bp ?_;refine au rfl ?_ ?_<;>intro tw ri
 ·have hE:whR (lO p G)=1:=by rw[hs];exact if_pos ri
  refine aP ?_;rw[hE];exact dg
 have hE:whR (lO p G)=-1:=by rw[hs];exact if_neg ri
 refine bu ?_;rw[hE];exact dg
end Go.Proofs.YtbgmjcnjbhhljaaGreat
end
section
set_option linter.unusedVariables false
set_option linter.unusedSimpArgs false
namespace Go.Lg
def ub:Op->Bool
 | .extract ..=>true
 | .assign _=>true
 |op=>abW op
section
variable {P:Program} {H:bn} {ρ mK:Operand->LV}
theorem jd.ali{d:Nat}{op:Op}{r:LV}{fr:List (Nat×aL)}(jM:jd P H ρ d op r fr)(hk:ub op=true)(hr:∀x∈op.operands,mK x=ρ x):jd P H mK d op r fr:=by
 cases jM with
 |pure hp =>
  by_cases ix:kZ op=true
  ·exact .pure (hp.abB ix hr)
  by_cases hbq:∃T ps,op=.build T ps
  ·obtain⟨T,ps,rfl⟩:=hbq;exact .pure (hp.asB hr)
  cases hp with
  |v9 hf mC hb hn he hx h1' h1 h2 =>
   refine .pure (.v9 hf mC hb hn he ?_ h1' h1 h2);rw[<-hx];exact yt fun x rB=>hr x (qB rB)
  |assign x=>rw[<-hr x aY];exact .pure (.assign x)
  |extract ht hq aG=>exact .pure (.extract ((hr _ aY).trans ht) hq aG)
  |build=>exact absurd ⟨_,_,rfl⟩ hbq
  |xm=>exact absurd ⟨_,_,rfl⟩ hbq
  |_=>first|(exfalso;exact ix rfl)|(exfalso;revert hk ix;simp[ub,abW,kZ])
 |alloc ha=>exact .alloc (ha.abB hr)
 |call hc =>
  cases hc with
  |func ha pf hlen g8 =>
   refine .call (.func ?_ pf hlen g8);rw[show (_:Array Operand).toList.map mK=_ from yt fun x rB=>hr x (qB rB)];exact ha
  |xZ hx ha hb pf hlen g8=>exact .call (.xZ ((hr _ (qB az)).trans hx) ha hb pf hlen g8)
  |bQ=>exfalso;revert hk;simp[ub,abW,kZ]
  |mk=>exfalso;revert hk;simp[ub,abW,kZ]
end
section
variable {P:Program} {ops:Array Oper}
theorem ax9{L L2:St}{d:Nat}{v:LV}{o:Oper}(hv:∀b,v.kill b=v)(hk:ub o.op=true)(hl:d∉o.looksAt ops)(hd:o.dst≠some d)(h:Step P false ops o (L.put (some d) v) L2):
  ∃L1,Step P false ops o L L1/\L2=L1.put (some d) v/\∀t,o.dst≠some t->(∀b,(L.slot t).kill b=L.slot t)->L1.slot t=L.slot t:=by
 have eC:=anK (L:=L) (v:=v) hl;have jc:∀(M:St) (r:LV) t,M.slot t=L.slot t->o.dst≠some t->(M.put o.dst r).slot t=L.slot t:=fun M r t hM aG=>by
  cases hh:o.dst with
  |none=>exact hM
  |some e=>rw[fu,if_neg (fun q=>aG (by rw[hh,q]))];exact hM
 cases h with
 |skip hg hL=>exact⟨L.put o.dst (.aQ []),.skip (oT hl hg) rfl,by rw[hL,ou L hd],fun t ht _=>jc L _ t rfl ht⟩
 | @val r fr H1 hg hle cJ jM hL =>
  obtain⟨dst,op,ty,pos,after,gd⟩:=o;have aaz:∀x∈op.operands,L.ev x=(L.put (some d) v).ev x:=fun x hx=>(eC x hx).symm;have zd:jd P H1 L.ev (dst.getD 0) op r fr:=jM.ali hk aaz;refine⟨⟨(L.put dst r).slot,H1⟩,.val (oT hl hg) hle cJ zd rfl,?_,fun t ht _=>jc L r t rfl ht⟩;rw[hL];have:=ou L hd v r;exact congrArg (fun M=>St.mk (St.slot M) H1) this
 |st hg oH =>
  obtain⟨dst,op,ty,pos,after,gd⟩:=o
  cases oH with
  |store hp hb hs hm hi hy ki hT aG =>
   rename_i T p x b sz i o' blk y y';have e1:=eC p aY;have e2:=eC x aY;rw[e1]at hp;rw[e2]at ki hT aG;refine⟨_,.st (oT hl hg) (.store hp hb hs hm hi hy ki hT aG),?_,fun t ht _=>?_⟩
   ·exact ou (L.a5 b _) hd v .any
   exact jc (L.a5 b _) .any t rfl ht
  |iJ hx hb hs hm hlen eI fp hT hU hz hE cu gS hy a6 ee cG =>
   rename_i T U E E' d' b sz len blk x y news z cn;have e1:=eC x gG;have e2:=eC y gG;rw[e1]at hx;rw[e2]at hy;refine⟨_,.st (oT hl hg) (.iJ hx hb hs hm hlen eI fp hT hU hz hE cu gS hy a6 ee cG),?_,fun t ht hf=>?_⟩
   ·rw[azn L hv];exact ou ((L.kill b).a5 d' _) hd v _
   exact jc ((L.kill b).a5 d' _) _ t (hf b) ht
  |vE hx eI hT hU hz hE cu gS hy hn a6 ee cG =>
   rename_i T U E E' d' sz x y news z cn;have e1:=eC x gG;have e2:=eC y gG;rw[e1]at hx;rw[e2]at hy;refine⟨_,.st (oT hl hg) (.vE hx eI hT hU hz hE cu gS hy hn a6 ee cG),?_,fun t ht hf=>?_⟩
   ·exact ou (L.a5 d' _) hd v _
   exact jc (L.a5 d' _) _ t rfl ht
  |_=>exfalso;revert hk;simp[ub,abW,kZ]
 |stM ec hg gM =>
  obtain⟨dst,op,ty,pos,after,gd⟩:=o
  cases gM with
  |call hb hm hp ha hn pf lQ fy =>
   rename_i f xs mh args r b blk blk';have em:xs.toList.map (L.put (some d) v).ev=xs.toList.map L.ev:=yt fun x rB=>eC x (qB rB);rw[em]at ha hn;refine⟨_,.stM ec (oT hl hg) (.call hb hm hp ha hn pf lQ fy),?_,fun t ht _=>?_⟩
   ·exact ou (L.a5 b _) hd v _
   exact jc (L.a5 b _) _ t rfl ht
  |aey hT hU hz hE cu hb hx gR l8 hlen hy eI hgr cG hm ee =>
   rename_i T U E x y z k kl sz cn len cp n d' b blk;rw[eC x gG]at hx;rw[eC y gG]at hy;refine⟨_,.stM ec (oT hl hg) (.aey hT hU hz hE cu hb hx gR l8 hlen hy eI hgr cG hm ee),?_,fun t ht _=>?_⟩
   ·exact ou (L.a5 d' _) hd v _
   exact jc (L.a5 d' _) _ t rfl ht
  |ovl hf mC hb hn he ht hE hx hy ve h1 h2 cG =>
   rw[eC _ (qB az)]at hx;rw[eC _ (qB az)]at hy;refine⟨_,.stM ec (oT hl hg) (.ovl hf mC hb hn he ht hE hx hy ve h1 h2 cG),?_,fun t ht _=>?_⟩
   ·exact ou L hd v _
   exact jc L _ t rfl ht
  |aef hT hU hz hE cu hb hx hy eI h0 cG hm ee =>
   rename_i T U E x y z k kl sz cn n d';have e1:=eC x gG;have e2:=eC y gG;rw[e1]at hx;rw[e2]at hy;refine⟨_,.stM ec (oT hl hg) (.aef hT hU hz hE cu hb hx hy eI h0 cG hm ee),?_,fun t ht _=>?_⟩
   ·exact ou (L.a5 d' _) hd v _
   exact jc (L.a5 d' _) _ t rfl ht
def apw(ops:Array Oper)(i:Nat)(D:Array Bool):Bool :=
 D.size==ops.size&&!D.getD i true&&(ik (ops.getD i default)).all (fun j=>D.getD j false)&&(ops.getD i default).guard.isNone&&ub (ops.getD i default).op &&
 (eH ops.size).all fun j=>j==i||D.getD j true||(ub (ops.getD j default).op&&((ops.getD j default).dst != (ops.getD i default).dst) &&
  (match (ops.getD i default).dst with|some d=>!((ops.getD j default).looksAt ops).contains d||(ik (ops.getD j default)).contains i|none=>false) &&
  (match (ops.getD j default).dst with|some e=>!((ops.getD i default).looksAt ops).contains e|none=>true))
theorem acA{m:Nat}{K:St->Prop}{L:St}{D:Array Bool}{d:Nat}{v:LV}(i:Nat){o:Oper}(ho:ops[i]?=some o)(zS:o.dst=some d)(jg:apw ops i D=true)(hv:jd P (fun _=>none) L.ev d o.op v [])
  (hfv:∀b,v.kill b=v) (w7:ah5 L o.op.operands.toList)
  (h:iq P ops m (D.setIfInBounds i true) (L.put (some d) v) K):iq P ops (m+1) D L K:=by
 have iU:∀i o,ops[i]?=some o->ops.getD i default=o:=fun i o h=>by rw[cU,h];rfl
 have hin:i<ops.size:=(fY.1 ho).1
 let C:Array Bool->Prop:=fun D=>D.size=ops.size/\D.getD i false=false/\(∀j∈ik o,D.getD j false=true)/\∀j oj,ops[j]?=some oj->j≠i->D.getD j false=false ->
  ub oj.op=true/\oj.dst≠some d/\(d∈oj.looksAt ops->i∈ik oj)/\∀e,oj.dst=some e->e∉o.looksAt ops
 unfold apw at jg;rw[iU i o ho,zS]at jg;simp only[cY,mg,xL,qt,beq_iff_eq,wa,rT,bne_iff_ne,ne_eq]at jg;obtain⟨⟨⟨⟨⟨a6,wH⟩,vU⟩,hgd⟩,ael⟩,dz⟩:=jg;have hC:C D:=by
  refine⟨a6,by rw[tk aa false true];exact wH,vU,fun j oj hj aG uF=>?_⟩;have hjl:j<ops.size:=(fY.1 hj).1;have:=dz j hjl;rw[iU j oj hj]at this;rcases this with(q|q)|q
  ·exact absurd q aG
  ·rw[tk aa true false,uF]at q;cases q
  obtain⟨⟨⟨q1,q2⟩,q3⟩,q4⟩:=q;refine⟨q1,q2,fun hm=>?_,fun e he hm=>?_⟩
  ·rcases q3 with q|q
   ·rw[oO.2 hm]at q;cases q
   exact oO.1 q
  rw[he]at q4;simp only[wa]at q4;rw[oO.2 hm]at q4;cases q4
 have ab8:∀L:St,jd P (fun _=>none) L.ev d o.op v []->Step P false ops o L (L.put (some d) v):=fun L hv=>by
  refine .val (fr:=[]) (H1:=L.heap) (r:=v) (by unfold cI;rw[hgd]) (bn.le_refl _) (fun _ _ hh=>by cases hh) (by rw[zS];exact hv.le fun b blk h=>by cases h) ?_;rw[zS];rfl
 clear a6 wH vU dz;have asm:∀x∈o.op.operands,∀b,(L.ev x).kill b=L.ev x:=fun x hx=>aj9 w7 x (abG.2 hx);clear w7;have main:∀(n:Nat) (D:Array Bool) (L:St),C D->jd P (fun _=>none) L.ev d o.op v []->(∀x∈o.op.operands,∀b,(L.ev x).kill b=L.ev x)->iq P ops n (D.setIfInBounds i true) (L.put (some d) v) K->iq P ops (n+1) D L K:=by
  intro n
  induction n with
  |zero =>
   intro D L ⟨c1,c2,c3,c4⟩ hv _ hh;have lF:i∈Region.ready .any ops D:=(nM c1).2 ⟨o,ho,by rw[tk aa true false];exact c2,c3⟩;refine⟨fun hr=>(by rw[hr]at lF;cases lF),fun j hj=>?_⟩;by_cases jy:j=i
   ·subst jy;exact⟨o,_,ho,ab8 L hv,hh⟩
   exfalso;obtain⟨oj,h1,h2,h3⟩:=(nM c1).1 hj;have:j∈Region.ready .any ops (D.setIfInBounds i true):=(nM (by simpa using c1)).2 ⟨oj,h1,by
    rw[cU,gk (Ne.symm jy),<-cU];exact h2,fun k hk=>by
    by_cases lL:i=k
    ·subst lL;rw[cU,kq aa];rfl
    rw[cU,gk lL,<-cU];exact h3 k hk⟩
   rw[hh.1]at this;cases this
  |succ n ih =>
   intro D L ⟨c1,c2,c3,c4⟩ hv w7 hh;have lF:i∈Region.ready .any ops D:=(nM c1).2 ⟨o,ho,by rw[tk aa true false];exact c2,c3⟩;refine⟨fun hr=>(by rw[hr]at lF;cases lF),fun j hj=>?_⟩;by_cases jy:j=i
   ·subst jy;exact⟨o,_,ho,ab8 L hv,hh⟩
   obtain⟨oj,h1,h2,h3⟩:=(nM c1).1 hj;have hjl:j<ops.size:=(fY.1 h1).1;have uF:D.getD j false=false:=by rw[tk aa false true];exact h2
   have aix:j∈Region.ready .any ops (D.setIfInBounds i true):=(nM (by simpa using c1)).2 ⟨oj,h1,by
    rw[cU,gk (Ne.symm jy),<-cU];exact h2,fun k hk=>by
    by_cases lL:i=k
    ·subst lL;rw[cU,kq aa];rfl
    rw[cU,gk lL,<-cU];exact h3 k hk⟩
   obtain⟨oj',L2,g1,g2,g3⟩:=hh.2 j aix;rw[h1]at g1;cases g1;obtain⟨k1,k2,k3,k4⟩:=c4 j oj h1 jy uF;have kE:d∉oj.looksAt ops:=fun hm=>by
    have:=h3 i (k3 hm);rw[c2]at this;cases this
   obtain⟨L1,s1,s2,s3⟩:=ax9 hfv k1 kE k2 g2;have x8:∀x∈o.op.operands,L1.ev x=L.ev x:=fun x hx=>by
    cases x with
    |tmp t =>
     have ht:t∈o.looksAt ops:=by
      unfold Oper.looksAt;simp only[p7,ui];exact .inl ⟨.tmp t,by simpa using hx,rfl⟩
     exact s3 t (fun q=>k4 t q ht) (w7 _ hx)
    |const v=>rfl
    |func f=>rfl
    |global f=>rfl
   refine⟨oj,L1,h1,s1,ih (D.setIfInBounds j true) L1 ⟨by simpa using c1,?_,fun k hk=>?_,fun k ok hk aG eT=>?_⟩ (hv.ali ael x8) (fun x hx b=>by rw[x8 x hx];exact w7 x hx b) ?_⟩
   ·rw[cU,gk jy,<-cU];exact c2
   ·by_cases qh:j=k
    ·subst qh;rw[cU,kq aa];rfl
    rw[cU,gk qh,<-cU];exact c3 k hk
   ·by_cases qh:j=k
    ·subst qh;rw[cU,kq aa]at eT
     cases eT
    rw[cU,gk qh,<-cU]at eT;exact c4 k ok hk aG eT
   rw[<-s2];have:(D.setIfInBounds j true).setIfInBounds i true=(D.setIfInBounds i true).setIfInBounds j true:=by
    refine ajN fun k=>?_;by_cases q1:i=k
    ·subst q1;rw[kq bm,gk jy,kq aa]
    by_cases q2:j=k
    ·subst q2;rw[gk q1,kq aa,kq bm]
    rw[gk q1,gk q2,gk q2,gk q1]
   rw[this];exact g3
 exact main m D L hC hv asm h
end
section
variable {P:Program} {W w w':World} {X:XS} {Z0 Z Zr:Nat->Prop} {μ cK:Nat->Option Nat} {H:bn} {a:Act} {L L':St} {n:Nat} {ops:Array Oper}
def uq(P:Program)(ops:Array Oper)(o:Oper)(L L':St):Prop :=
 ∀(n:Nat) (W:World) (X:XS) (Z0:Nat->Prop) (a:Act) (w:World) (K:Act->World->Prop) (Q:Exit->Act->World->Prop),dM n W X Z0 L a w->(∀t,o.dst=some t->t<n) ->
  (∀a' w',dM n W X Z0 L' a' w'->K a' w')->if Region.wanted o (yielded ops a.tmps)then o.wp P a w K Q else K (a.put o.dst undef) w
def tm(P:Program)(ops:Array Oper):List Oper->St->(St->Prop)->Prop
 | [],L,K=>K L
 |o::r,L,K=>∃L',uq P ops o L L'/\tm P ops r L' K
theorem ajy{K K':St->Prop}(h:∀L,K L->K' L):∀(l:List Oper) (L:St),tm P ops l L K->tm P ops l L K'
 | [],L,k=>h L k
 |o::r,L,⟨L',h1,h2⟩=>⟨L',h1,ajy h r L' h2⟩
theorem ajG{K:St->Prop}:∀(l m:List Oper) (L:St),tm P ops l L (fun L'=>tm P ops m L' K)->tm P ops (l++m) L K
 | [],m,L,h=>h
 |o::r,m,L,⟨L',h1,h2⟩=>⟨L',h1,ajG r m L' h2⟩
theorem agy{dr:Bool}{K:St->Prop}:∀(l:List Oper) (L:St),opsL P dr ops l L K->tm P ops l L K
 | [],L,h=>by unfold opsL at h;exact h
 |o::r,L,h=>by
   unfold opsL at h;obtain⟨L',h1,h2⟩:=h;exact⟨L',fun n W X Z0 a w K' Q hs hd hK=>yD hs h1 hd hK,agy r L' h2⟩
theorem aoq{Q:Exit->Act->World->Prop}{K:St->Prop}:∀(l:List Oper) (L:St) (a:Act) (w:World),dM n W X Z0 L a w->tm P ops l L K->(∀o∈l,∀t,o.dst=some t->t<n) ->
  (∀L' a' w',K L'->dM n W X Z0 L' a' w'->Q .normal a' w')->wpList P ops Q l a w
 | [],L,a,w,hs,hk,_,hq=>hq L a w hk hs
 |o::r,L,a,w,hs,⟨L',h1,h2⟩,hd,hq=>by
   have:=h1 n W X Z0 a w (wpList P ops Q r) Q hs (hd o az) (fun a' w' ji=>aoq r L' a' w' ji h2 (fun o' qR=>hd o' (by simp[qR])) hq);unfold wpList;split
   ·rename_i h;rw[if_pos h]at this;exact .inl this
   rename_i h;rw[if_neg h]at this;exact this
variable {Q:gI->St->Prop}
def ail(P:Program)(l:List Oper)(k:Nat)(K:St->Prop)(L:St):Prop:=∃o L2,l[k]?=some o/\uq P l.toArray o L L2/\opsL P false l.toArray (l.drop (k+1)) L2 K
theorem agO{l:List Oper}{id:Nat}(k:Nat)(h:opsL P false l.toArray (l.take k) L (ail P l k (Q .normal))):bM P (.region id l.toArray false) Q L:=by
 refine ad2 fun n W X Z0 a w hs hd id=>?_;have eJ:∀o'∈l,∀t,o'.dst=some t->t<n:=fun o' ho t ht=>by
  simp only[ig,mg]at hd;have:=hd o' (by simpa using ho);rw[ht]at this;simpa using this
 have hx:tm P l.toArray l L (Q .normal):=by
  have h1:tm P l.toArray (l.take k++l.drop k) L (Q .normal) :=
   ajG (l.take k) _ L (ajy (fun L1 ⟨o,L2,h0,h1,h2⟩=>by
    obtain⟨hk,e⟩:=lg.1 h0;rw[List.drop_eq_getElem_cons hk,e];exact⟨L2,h1,agy _ _ h2⟩) _ _ (agy _ _ h))
  rwa[mP]at h1
 exact wp_region_list (aoq _ _ _ _ hs hx eJ (fun L' a' w' hk ji=>⟨L',hk,ji⟩))
theorem ah6{l:List Oper}{id:Nat}{L0:St}(k:Nat)(hw:av L L0)(h:opsL P false l.toArray (l.take k) L0 (ail P l k (Q .normal))):bM P (.region id l.toArray false) Q L:=by
 have:=agO (id:=id) (Q:=Q) k h;obtain⟨L1,h1,h2⟩:=this;exact⟨L1,hw.trans h1,h2⟩
theorem abS{l:List Oper}{k:Nat}{K:St->Prop}{ops:Array Oper}{o:Oper}{L2:St}(h1:l[k]?=some o)(h2:uq P l.toArray o L L2)(h3:opsL P false l.toArray (l.drop (k+1)) L2 K):opsL P false ops [] L (ail P l k K):=by
 unfold opsL;exact⟨o,L2,h1,h2,h3⟩
end
end Go.Lg
namespace Go.Lg
section
variable {P:Program} {W w w':World} {X X0:XS} {Z0 Z Zr:Nat->Prop} {μ cK:Nat->Option Nat} {H H' Hr:bn} {a:Act} {L L':St} {n d:Nat} {ops:Array Oper} {σ:Nat->Nat}
def rj(μ cK:Nat->Option Nat)(d:Nat):Nat->Option Nat:=fun c=>if 1000000+d*16<c/\c<1000000+d*16+16 then(cK (c-(1000000+d*16))).or (μ c)else μ c
theorem Core.aAp(hc:Core W X Z0 μ Z H w)(hr:Core w X0 Z cK Zr Hr w')(hσ:∀k id,cK k=some id->k≠0->k<16/\σ k=cQ d k/\μ (cQ d k)=none)
  (hb:∀id,X0.x id->μ (σ 0)=some id/\¬Z id) (hy:∀id,X0.y id->(∀c,μ c≠some id)/\¬Z id/\(W.heap.size<=id\/X.y id)) (h0:∀id,cK 0=some id->X0.x id) (hH:∀k id blk,cK k=some id->Hr k=some blk->H' (σ k)=some ⟨blk.sz,eO σ blk.vals,blk.mt⟩)
  (hold:∀c id,μ c=some id->¬X0 id->H' c=H c) :
  Core W X Z0 (rj μ cK d) Zr H' w'/\(∀c id,μ c=some id->rj μ cK d c=some id)/\Frame Z μ w w'/\(∀k id,cK k=some id->rj μ cK d (σ k)=some id):=by
 have ad5:∀c id,μ c=some id->rj μ cK d c=some id:=fun c id h=>by
  unfold rj;split
  ·rename_i l6
   cases hq:cK (c-(1000000+d*16))with
   |none=>simpa using h
   |some id' =>
    have:=(hσ _ _ hq aa).2.2;have e:cQ d (c-(1000000+d*16))=c:=by unfold cQ;omega
    rw[e,h]at this;cases this
  exact h
 have ax6:∀k id,cK k=some id->k≠0->rj μ cK d (cQ d k)=some id:=fun k id h hk=>by
  have:=(hσ _ _ h hk).1;unfold rj cQ;rw[if_pos aa];have e:1000000+d*16+k-(1000000+d*16)=k:=aa;rw[e,h];rfl
 have gJ:∀k id,cK k=some id->rj μ cK d (σ k)=some id:=fun k id h=>by
  by_cases hk:k=0
  ·subst hk;exact ad5 _ _ (hb id (h0 id h)).1
  rw[(hσ _ _ h hk).2.1];exact ax6 k id h hk
 have hinv:∀c id,rj μ cK d c=some id->(∃k,k≠0/\c=cQ d k/\cK k=some id)\/μ c=some id:=fun c id h=>by
  unfold rj at h;split at h
  ·rename_i l6
   cases hq:cK (c-(1000000+d*16))with
   |none=>rw[hq]at h;exact .inr ga
   |some id' =>
    rw[hq]at h;simp only[Option.some_or,dN]at h;subst h;exact .inl ⟨c-(1000000+d*16),aa,by unfold cQ;omega,hq⟩
  exact .inr h
 have bD:∀k id,cK k=some id->k≠0->w.heap.size<=id\/X0.y id:=fun k id h hk=>by
  rcases hr.own k id h with h1|h1|h1
  ·exact .inl h1
  ·exact absurd (hr.x0 k id h h1) hk
  exact .inr h1
 have agt:∀k id c,cK k=some id->k≠0->μ c=some id->False:=fun k id c h hk h1=>by
  rcases bD k id h hk with h2|h2
  ·have:=hc.lt h1;omega
  exact(hy id h2).1 c h1
 have ni:∀k,k<w.heap.size->¬X0 k->w'.heap[k]?=w.heap[k]?:=fun k hk hx=>hr.bB.block k hk hx;have cJ:Frame Z μ w w':=by
  refine⟨fun id h=>ni id (hc.iD id h) (fun e=>e.elim (fun e=>(hb id e).2 h) (fun e=>(hy id e).2.1 h)),fun c id h cc T fz rp=>?_⟩;by_cases e:X0 id
  ·exact hr.bB.qm id e cc T fz rp
  exact⟨cc,(ni id (hc.lt h) e).trans rp,rfl⟩
 have hX:∀k,k<W.heap.size->¬X k->¬X0 k:=fun k hk hx e=>by
  rcases e with e|e
  ·rcases hc.own (σ 0) k (hb k e).1 with h|h
   ·omega
   exact hx h
  rcases(hy k e).2.2 with h|h
  ·omega
  exact hx (.inr h)
 refine⟨⟨?_,hr.iD,fun id h=>hr.fZ id (hc.fZ id h),?_,?_,?_,?_,hc.kQ,fun id h=>ad5 0 id (hc.x1 id h),?_,?_,?_⟩,ad5,cJ,gJ⟩
 ·refine⟨hr.bB.os.trans hc.bB.os,hr.bB.tape.trans hc.bB.tape,hr.bB.output.trans hc.bB.output,bW hc.bB.size hr.bB.size,fun k hk hx=>?_,fun k hx c T fz h=>?_⟩
  ·exact(ni k (by have:=hc.bB.size;omega) (hX k hk hx)).trans (hc.bB.block k hk hx)
  obtain⟨c',g1,g2⟩:=hc.bB.qm k hx c T fz h;by_cases e:X0 k
  ·obtain⟨c2,g3,g4⟩:=hr.bB.qm k e c' T fz g1;exact⟨c2,g3,g4.trans g2⟩
  exact⟨c',(ni k (fY.1 g1).1 e).trans g1,g2⟩
 ·intro id h;rcases hr.g9 id h with h|h|h
  ·exact hc.g9 id h
  ·exact .inr (.inl (bW hc.bB.size h))
  exact .inr (hy id h).2.2
 ·intro c c' id h h';rcases hinv c id h with⟨k,k0,rfl,h1⟩|h1<;>rcases hinv c' id h' with⟨k',k0',rfl,h2⟩|h2
  ·rw[hr.inj k k' id h1 h2]
  ·exact(agt k id _ h1 k0 h2).elim
  ·exact(agt k' id _ h2 k0' h1).elim
  exact hc.inj c c' id h1 h2
 ·intro c id h;rcases hinv c id h with⟨k,k0,rfl,h1⟩|h1
  ·rcases bD k id h1 k0 with h2|h2
   ·exact .inl (bW hc.bB.size h2)
   exact(hy id h2).2.2.imp (fun h=>h) .inr
  exact hc.own c id h1
 ·intro c id h hx;rcases hinv c id h with⟨k,k0,rfl,h1⟩|h1
  ·exact(agt k id 0 h1 k0 (hc.x1 id hx)).elim
  exact hc.x0 c id h1 hx
 all_goals
  have agi:∀c id,rj μ cK d c=some id->(∃k blk,c=σ k/\cK k=some id/\Hr k=some blk/\pK Zr cK w' blk id)\/(¬X0 id/\μ c=some id):=fun c id h=>by
   rcases hinv c id h with⟨k,k0,rfl,h1⟩|h1
   ·obtain⟨blk,g1,g2⟩:=hr.heap k id h1;exact .inl ⟨k,blk,(hσ k id h1 k0).2.1.symm,h1,g1,g2⟩
   by_cases e:X0 id
   ·have e:X0.x id:=e.resolve_right (fun e=>(hy id e).1 c h1);have wG:=hc.inj c (σ 0) id h1 (hb id e).1;have h2:=hr.x1 id e;obtain⟨blk,g1,g2⟩:=hr.heap 0 id h2;exact .inl ⟨0,blk,wG,h2,g1,g2⟩
   exact .inr ⟨e,h1⟩
 ·intro c id blk h g dW hz;rcases agi c id h with⟨k,b0,rfl,h1,g1,g2⟩|⟨e,h1⟩
  ·rw[hH k id b0 h1 g1]at g;cases g;exact hr.gL k id b0 h1 g1 dW hz
  rw[hold c id h1 e]at g;rcases hr.g9 id hz with hz|hz|hz
  ·exact hc.gL c id blk h1 g dW hz
  ·have:=hc.lt h1;omega
  exact(e (.inr hz)).elim
 ·intro c id blk h g dW;rcases agi c id h with⟨k,b0,rfl,h1,g1,g2⟩|⟨e,h1⟩
  ·rw[hH k id b0 h1 g1]at g;cases g;exact hr.bo k id b0 h1 g1 dW
  rw[hold c id h1 e]at g;exact hr.fZ id (hc.bo c id blk h1 g dW)
 intro c id h;rcases agi c id h with⟨k,b0,rfl,h1,g1,cc,T,part,rest,q1,q2,q3⟩|⟨e,h1⟩
 ·exact⟨_,hH k id b0 h1 g1,cc,T,part,rest,q1,q2,aw.bl σ gJ _ _ _ q3⟩
 obtain⟨bk,g1,g2⟩:=hc.heap c id h1;exact⟨bk,by rw[hold c id h1 e];exact g1,g2.mono hr.fZ ad5 cJ (ni id (hc.lt h1) e)⟩
def zq(blk:aL)(bs:List aL):bn:=fun n=>if n=0 then some blk else bs[n-1]?
def abt(P:Program)(f:FuncId)(blk:aL)(args:List LV)(r:LV)(blk':aL)(bs:List aL):Prop :=
 adR P f/\∀(W:World) (Z0:Nat->Prop) (vs:List Value) (i0:Nat),(∀id,Z0 id->id<W.heap.size)->¬Z0 i0->pK Z0 (jr i0) W blk i0->dQ Z0 (jr i0) W args vs ->
  Calls P f vs.toArray W fun e w'=>∃v μ Z,e=.returned v/\Core W (XS.one i0) Z0 μ Z (zq blk' bs) w'/\aC Z μ w' r v
def ob(σ:Nat->Nat):Nat->List aL->St->St
 |_,[],L=>L
 |k,b::bs,L=>ob σ (k+1) bs (L.a5 (σ k) (some ⟨b.sz,eO σ b.vals,b.mt⟩))
theorem aqs:∀(bs:List aL) (k:Nat) (L:St),(ob σ k bs L).slot=L.slot
 | [],_,_=>rfl
 |b::bs,k,L=>by rw[ob,aqs bs];rfl
theorem acK:∀(bs:List aL) (k:Nat) (L:St) (c:Nat),(∀j,k<=j->j<k+bs.length->c≠σ j)->(ob σ k bs L).heap c=L.heap c
 | [],_,_,_,_=>rfl
 |b::bs,k,L,c,h=>by
   rw[ob,acK bs (k+1) _ c (fun j h1 h2=>h j aa (by simp only[dO];omega))];show (if c=σ k then _ else L.heap c)=_;rw[if_neg (h k (bA _) (by simp only[dO];omega))]
theorem alf:∀(bs:List aL) (k:Nat) (L:St) (i:Nat) (b:aL),(∀j j',k<=j->j<j'->j'<k+bs.length->σ j≠σ j')->bs[i]?=some b->(ob σ k bs L).heap (σ (k+i))=some ⟨b.sz,eO σ b.vals,b.mt⟩
 | [],_,_,i,_,_,h=>by simp at h
 |x::xs,k,L,0,b,hi,h=>by
   simp only[List.getElem?_cons_zero,dN]at h;subst h;show (ob σ k (x::xs) L).heap (σ k)=_;rw[ob,acK xs (k+1) _ _ (fun j h1 h2=>hi k j (bA _) aa (by simp only[dO];omega))];simp[St.a5]
 |x::xs,k,L,i+1,b,hi,h=>by
   rw[ob];have:=alf xs (k+1) (L.a5 (σ k) (some ⟨x.sz,eO σ x.vals,x.mt⟩)) i b (fun j j' h1 h2 h3=>hi j j' aa h2 (by simp only[dO];omega)) ga;rwa[show k+1+i=k+(i+1) by omega]at this
def ma(b d:Nat):Nat->Nat:=fun k=>if k=0 then b else cQ d k
theorem aok{o:Oper}{f:FuncId}{args:List LV}{r:LV}{b:Nat}{blk blk':aL}{bs:List aL}(d:Nat)(vs:Act->Array Value)(hg:cI ops L o true)
  (de:∀(a:Act) (w:World) (W:World) (X:XS) (Z0:Nat->Prop) (μ:Nat->Option Nat) (Z:Nat->Prop),Core W X Z0 μ Z L.heap w->(∀t,aC Z μ w (L.slot t) (a.tmps.getD t undef))->(execOp a.eval o).run P w=.ok (.enter f (vs a)) w)
  (hargs:∀(a:Act) (w:World) (W:World) (X:XS) (Z0:Nat->Prop) (μ:Nat->Option Nat) (Z:Nat->Prop),Core W X Z0 μ Z L.heap w->(∀t,aC Z μ w (L.slot t) (a.tmps.getD t undef))->∀i0,μ b=some i0->dQ Z (jr i0) w args (vs a).toList)
  (hb:L.heap b=some blk) (hm:blk.mt=true) (hp:aN blk.vals=true) {ys:List Operand} (hn:Names b (ys.map L.ev))
  (hk:abt P f blk args r blk' bs) (fy:aN blk'.vals=true) (hlen:bs.length<16) (hf:∀k,k<16->L.heap (cQ d k)=none) :
  uq P ops o L ((ob (ma b d) 1 bs (L.a5 b (some blk'))).put o.dst (r.bl (ma b d))):=by
 intro n W X Z0 a w K Q ⟨cZ,vA,μ,Z,hc,hr⟩ hd hK;rw[uz hr hg];simp only[if_true];have eJ:∀t,o.dst=some t->t<a.tmps.size:=fun t h=>by rw[vA];exact hd t h
 obtain⟨i0,iY⟩:=Names.mu (μ:=μ) (Z:=Z) (w:=w) (a:=a) ys hn (fun x _=>fS (L:=L) hr x);unfold Oper.wp;rw[de a w W X Z0 μ Z hc hr,Oper.upon_enter];obtain⟨ahf,g1,g2⟩:=hc.heap b i0 iY;rw[hb]at g1;cases g1;have iC:pK Z (jr i0) w blk i0:=by
  obtain⟨c,T,part,rest,q1,q2,q3⟩:=g2;exact⟨c,T,part,rest,q1,q2,aw.fE (fun _ h=>h) (fun _ _=>rfl) _ _ _ hp q3⟩
 have km:=hc.gL b i0 blk iY hb hm;have:=hk.2 w Z (vs a).toList i0 hc.iD km iC (hargs a w W X Z0 μ Z hc hr i0 iY);rw[Array.toArray_toList]at this;refine this.mono ?_;rintro e w' ⟨v,cK,Zr,rfl,zr,hv⟩;have asl:∀j j',1<=j->j<j'->j'<1+bs.length->ma b d j≠ma b d j':=fun j j' h1 h2 _ e=>by
  unfold ma at e;rw[if_neg aa,if_neg aa]at e;unfold cQ at e;omega
 have apn:∀k id,cK k=some id->k≠0->k<16/\∃blk,bs[k-1]?=some blk:=fun k id h h0=>by
  obtain⟨bk,q1,_⟩:=zr.heap k id h;simp only[zq,if_neg h0]at q1;have:=(lg.1 q1).1;exact⟨aa,bk,q1⟩
 obtain⟨h1,h2,h3,h4⟩:=hc.aAp (d:=d) (σ:=ma b d) (H':=(ob (ma b d) 1 bs (L.a5 b (some blk'))).heap) zr
  (fun k id h h0=>⟨(apn k id h h0).1,by unfold ma;rw[if_neg h0],rP hc (hf k (apn k id h h0).1)⟩)
  (fun id e=>by rw[show id=i0 from e];exact⟨iY,km⟩)
  (fun id e=>e.elim)
  (fun id h=>by have:=zr.x1 i0 rfl;rw[h]at this;cases this;rfl)
  (fun k id bk h g=>by
   by_cases h0:k=0
   ·subst h0;simp only[zq,if_true,dN]at g;subst g;rw[acK _ _ _ _ (fun j h1 h2 e=>by
     unfold ma at e;rw[if_pos rfl,if_neg aa]at e;have:=hf j aa;rw[<-e,hb]at this;cases this),vp _ _ fy]
    simp[St.a5,ma]
   simp only[zq,if_neg h0]at g;have:=alf (σ:=ma b d) bs 1 (L.a5 b (some blk')) (k-1) bk asl g;rwa[show 1+(k-1)=k by omega]at this)
  (fun c id h e=>by
   have il:c≠b:=by rintro rfl;rw[iY]at h;cases h;exact e (.inl rfl)
   rw[acK _ _ _ _ (fun j h1 h2 ej=>by
    have hj:=hf j aa;unfold ma at ej;rw[if_neg aa]at ej;subst ej;rw[rP hc hj]at h;cases h)]
   simp[St.a5,il])
 refine hK _ _ ⟨by rw[put_defers];exact cZ,by rw[lG];exact vA,_,Zr,by rw[gD];exact h1,?_⟩;refine lI (L:=ob (ma b d) 1 bs (L.a5 b (some blk'))) eJ (fun t=>?_) (hv.bl _ h4);rw[aqs];exact(hr t).mono zr.fZ h2 h3
theorem asP{f:FuncId}{xs:Array Operand}{mh:Array TypeId}{args:List LV}{r:LV}{b:Nat}{blk blk':aL}{bs:List aL}{dst:Option Tmp}{ty:TypeId}{pos:String}{af:Array Edge}{g:Option (Nat×Bool)}(d:Nat)
  (hg:cI ops L ⟨dst,.call ⟨.value (.func f),xs,mh⟩,ty,pos,af,g⟩ true) (hb:L.heap b=some blk) (hm:blk.mt=true) (hp:aN blk.vals=true) (ha:p9 L.heap b (xs.toList.map L.ev) args) {ys:List Operand} (hn:Names b (ys.map L.ev))
  (hk:abt P f blk args r blk' bs) (fy:aN blk'.vals=true) (hlen:bs.length<16) (hf:∀k,k<16->L.heap (cQ d k)=none) :
  uq P ops ⟨dst,.call ⟨.value (.func f),xs,mh⟩,ty,pos,af,g⟩ L ((ob (ma b d) 1 bs (L.a5 b (some blk'))).put dst (r.bl (ma b d))) :=
 aok (o:=⟨dst,.call ⟨.value (.func f),xs,mh⟩,ty,pos,af,g⟩) d (fun a=>xs.map a.eval) hg
  (fun a w W X Z0 μ Z hc hr=>by
   have:=zX (P:=P) (w:=w) (args:=xs.map a.eval) hk.1;simp only[execOp,resolve,Act.eval,Deferred.ofValue,Sem.run_bind,Sem.run_pure,Result.andThen_ok,invoke];simpa using this)
  (fun a w W X Z0 μ Z hc hr i0 iY=>by
   have:=adu (a:=a) hc iY xs.toList args ha (fun x _=>fS (L:=L) hr x);simpa using this) hb hm hp hn hk fy hlen hf
def ah0:Value->Array Value
 | .func _ _ cv=>cv
 |_=>#[]
inductive ahu (H:bn) (b:Nat):LV->LV->Prop
 |m {x y} (h:qo H b x y):ahu H b x y
 |any {x} (h:x≠.any) (h2:∀l,x≠.aQ l):ahu H b x .any
inductive acg (H:bn) (b:Nat):List LV->List LV->Prop
 |nil:acg H b [] []
 |cons {x y xs ys} (h:ahu H b x y) (t:acg H b xs ys):acg H b (x::xs) (y::ys)
theorem aiW{W w:World}{X:XS}{Z0 Z:Nat->Prop}{μ:Nat->Option Nat}{H:bn}{b i0:Nat}(hc:Core W X Z0 μ Z H w)(hb:μ b=some i0):∀(cap ys:List LV) (cv:List Value),acg H b cap ys->(∀x∈cap,x.aj=1/\x.isAgg=false/\∀l,x≠.aQ l)->aw Z μ w 1 cap cv->dQ Z (jr i0) w ys cv
 | [],_,cv,h,_,hr=>by cases h;simp only[aw]at hr;subst hr;rfl
 |x::xs,_,cv,h,hx,hr=>by
   cases h with
   | @cons _ y _ ys h t =>
    simp only[aw]at hr;obtain⟨c1,c2,rfl,l1,r1,r2⟩:=hr
    match c1,l1 with
    | [u],_ =>
     refine⟨u,c2,rfl,?_,aiW hc hb xs ys c2 t (fun z hz=>hx z (by simp[hz])) r2⟩;obtain⟨h1,h2,h3⟩:=hx x az
     cases h with
     |m h=>exact h.sound hc hb (aC.nZ h3 ⟨fun e=>(by rw[h2]at e;cases e),fun _=>r1⟩)
     |any _ _=>exact⟨fun e=>(by simp[LV.isAgg]at e),fun _=>(by simp only[ao];exact ao.one x [u] r1)⟩
theorem atI{f:FuncId}{t:Nat}{cap:List LV}{xs:Array Operand}{mh:Array TypeId}{args ys:List LV}{r:LV}{b:Nat}{blk blk':aL}{bs:List aL}{dst:Option Tmp}{ty:TypeId}{pos:String}{af:Array Edge}{g:Option (Nat×Bool)}(d:Nat)
  (hg:cI ops L ⟨dst,.call ⟨.value (.tmp t),xs,mh⟩,ty,pos,af,g⟩ true) (ht:L.slot t=.gZ f cap) (hb:L.heap b=some blk) (hm:blk.mt=true) (hp:aN blk.vals=true) (ha:p9 L.heap b (xs.toList.map L.ev) args) (hy:acg L.heap b cap ys) (hcs:∀x∈cap,x.aj=1/\x.isAgg=false/\∀l,x≠.aQ l)
  {zs:List Operand} (hn:Names b (zs.map L.ev)) (hk:abt P f blk (args++ys) r blk' bs) (fy:aN blk'.vals=true) (hlen:bs.length<16) (hf:∀k,k<16->L.heap (cQ d k)=none) :
  uq P ops ⟨dst,.call ⟨.value (.tmp t),xs,mh⟩,ty,pos,af,g⟩ L ((ob (ma b d) 1 bs (L.a5 b (some blk'))).put dst (r.bl (ma b d))):=by
 have fL:∀(a:Act) (w:World) (μ:Nat->Option Nat) (Z:Nat->Prop),(∀t,aC Z μ w (L.slot t) (a.tmps.getD t undef))->∃cv,a.eval (.tmp t)=.func (.func f) #[] cv/\aw Z μ w 1 cap cv.toList:=by
  intro a w μ Z hr;have e1:aC Z μ w (L.ev (.tmp t)) (a.eval (.tmp t)):=fS (L:=L) hr (.tmp t);have e0:L.ev (.tmp t)=.gZ f cap:=ht;rw[e0]at e1;have e2:=e1.2 rfl;simp only[ao]at e2;obtain⟨cv,q1,q2⟩:=e2;simp only[dq,and_true]at q1;exact⟨cv,q1,q2⟩
 refine aok (o:=⟨dst,.call ⟨.value (.tmp t),xs,mh⟩,ty,pos,af,g⟩) d (fun a=>xs.map a.eval++ah0 (a.eval (.tmp t))) hg ?_ ?_ hb hm hp hn hk fy hlen hf
 ·intro a w W X Z0 μ Z hc hr;obtain⟨cv,q1,q2⟩:=fL a w μ Z hr;have:=zX (P:=P) (w:=w) (args:=xs.map a.eval++cv) hk.1;simp only[execOp,resolve,q1,ah0,Deferred.ofValue,Sem.run_bind,Sem.run_pure,Result.andThen_ok,invoke];simpa using this
 intro a w W X Z0 μ Z hc hr i0 iY;obtain⟨cv,q1,q2⟩:=fL a w μ Z hr;have h1:=adu (a:=a) hc iY xs.toList args ha (fun x _=>fS (L:=L) hr x);have h2:=aiW hc iY cap ys cv.toList hy hcs q2;simpa[q1,ah0]using dQ.append _ _ _ _ h1 h2
theorem ayB{f:FuncId}{xs:Array Operand}{dst:Option Tmp}{ty:TypeId}{pos:String}{af:Array Edge}{g:Option (Nat×Bool)}
  (hg:cI ops L ⟨dst,.makeFunc (.func f) #[] xs,ty,pos,af,g⟩ true) (hcs:∀x∈xs.toList.map L.ev,x.aj=1/\x.isAgg=false/\x≠.any/\∀l,x≠.aQ l) :
  uq P ops ⟨dst,.makeFunc (.func f) #[] xs,ty,pos,af,g⟩ L (L.put dst (.gZ f (xs.toList.map L.ev))):=by
 intro n W X Z0 a w K Q ⟨cZ,vA,μ,Z,hc,hr⟩ hd hK;rw[uz hr hg];simp only[if_true];have eJ:∀t,dst=some t->t<a.tmps.size:=fun t h=>by rw[vA];exact hd t h
 have de:(execOp a.eval ⟨dst,.makeFunc (.func f) #[] xs,ty,pos,af,g⟩).run P w=.ok (.value (.func (.func f) #[] (xs.map a.eval))) w:=by
  simp[execOp,Instr.makeFunc]
 unfold Oper.wp;rw[de,Oper.upon_value];have dz:∀(l:List Operand),(∀x∈l.map L.ev,x.aj=1/\x.isAgg=false/\x≠.any/\∀l,x≠.aQ l)->aw Z μ w 1 (l.map L.ev) (l.map a.eval):=by
  intro l
  induction l with
  |nil=>intro _;simp only[nK,aw]
  |cons x l ih =>
   intro h;simp only[jh,aw];obtain⟨h1,h2,h3,h4⟩:=h (L.ev x) az;have hx:=aC.qY h4 h3 (fS (L:=L) hr x);exact⟨[a.eval x],l.map a.eval,rfl,rfl,hx.2 h2,ih fun y hy=>h y (by simp only[jh,fJ];exact .inr hy)⟩
 refine hK _ _ ⟨by rw[put_defers];exact cZ,by rw[lG];exact vA,μ,Z,by rw[gD];exact hc,?_⟩;refine lI eJ hr ?_;refine⟨fun e=>(by simp[LV.isAgg]at e),fun _=>?_⟩;simp only[ao];exact⟨_,rfl,by simpa using dz xs.toList hcs⟩
end
end Go.Lg
namespace Go.Lg
section
variable {P:Program} {W w w':World} {X X0:XS} {Z0 Z Zr:Nat->Prop} {μ cK:Nat->Option Nat} {H H' Hr:bn} {a:Act} {L L':St} {n d:Nat} {ops:Array Oper} {σ:Nat->Nat}
def gj(b b':Nat):Nat->Nat:=fun k=>if k=b then b' else k
def St.move(L:St)(b b':Nat):St :=
 ⟨fun t=>(L.slot t).bl (gj b b'),fun c=>if c=b' then(L.heap b).map fun x=>⟨x.sz,eO (gj b b') x.vals,x.mt⟩else if c=b then none else(L.heap c).map fun x=>⟨x.sz,eO (gj b b') x.vals,x.mt⟩⟩
theorem av.au7{L:St}{b b':Nat}(hb:b≠0)(l6:b'≠0)(aG:b≠b')(hf:L.heap b'=none):av L (L.move b b'):=by
 rintro n W X Z0 a w ⟨cZ,a6,μ,Z,hc,hr⟩;have oN:μ b'=none:=rP hc hf
 let aF:Nat->Option Nat:=fun c=>if c=b' then μ b else if c=b then none else μ c
 have hm:∀c id,μ c=some id->aF (gj b b' c)=some id:=fun c id h=>by
  by_cases e:c=b
  ·subst e;simp[aF,gj,h]
  have e':c≠b':=by rintro rfl;rw[oN]at h;cases h
  simp[aF,gj,e,e',h]
 have hinv:∀c id,aF c=some id->∃c0,μ c0=some id/\c=gj b b' c0:=fun c id h=>by
  simp only[aF]at h;split at h
  ·rename_i e;exact⟨b,h,by simp[gj,e]⟩
  split at h
  ·cases h
  rename_i e1 e2;exact⟨c,h,by simp[gj,e2]⟩
 have y8:∀c c' id id',μ c=some id->μ c'=some id'->gj b b' c=gj b b' c'->c=c':=fun c c' id id' h h' e=>by
  have e1:c≠b':=by rintro rfl;rw[oN]at h;cases h
  have e2:c'≠b':=by rintro rfl;rw[oN]at h';cases h'
  unfold gj at e;split at e<;>split at e<;>first|omega|(subst_vars;first|rfl|(exact absurd rfl (by assumption))|(exfalso;apply e2;exact e.symm)|(exfalso;apply e1;exact e))
 have hH:∀c id blk,μ c=some id->L.heap c=some blk->(L.move b b').heap (gj b b' c)=some ⟨blk.sz,eO (gj b b') blk.vals,blk.mt⟩:=fun c id blk h g=>by
  by_cases e:c=b
  ·subst e;simp[St.move,gj,g]
  have e':c≠b':=by rintro rfl;rw[oN]at h;cases h
  simp[St.move,gj,e,e',g]
 refine⟨cZ,a6,aF,Z,⟨hc.bB,hc.iD,hc.fZ,hc.g9,?_,?_,?_,hc.kQ,?_,?_,?_,?_⟩,fun t=>aC.bl _ hm (hr t)⟩
 ·intro c c' id h h';obtain⟨d,g1,rfl⟩:=hinv c id h;obtain⟨d',g2,rfl⟩:=hinv c' id h';rw[hc.inj d d' id g1 g2]
 ·intro c id h;obtain⟨d,g1,rfl⟩:=hinv c id h;exact hc.own d id g1
 ·intro c id h hx;obtain⟨d,g1,rfl⟩:=hinv c id h;have:=hc.x0 d id g1 hx;subst this;simp[gj,Ne.symm hb]
 ·intro id h;have:=hm 0 id (hc.x1 id h);simpa[gj,Ne.symm hb]using this
 ·intro c id blk h g dW;obtain⟨d,g1,rfl⟩:=hinv c id h;obtain⟨b0,j1,j2⟩:=hc.heap d id g1;rw[hH d id b0 g1 j1]at g;cases g;exact hc.gL d id b0 g1 j1 dW
 ·intro c id blk h g dW;obtain⟨d,g1,rfl⟩:=hinv c id h;obtain⟨b0,j1,j2⟩:=hc.heap d id g1;rw[hH d id b0 g1 j1]at g;cases g;exact hc.bo d id b0 g1 j1 dW
 intro c id h;obtain⟨d,g1,rfl⟩:=hinv c id h;obtain⟨b0,j1,cc,T,part,rest,q1,q2,q3⟩:=hc.heap d id g1;exact⟨_,hH d id b0 g1 j1,cc,T,part,rest,q1,q2,aw.bl _ hm _ _ _ q3⟩
theorem aqb{b b':Nat}(f:aL->aL)(aG:b≠b'):∀(l:List (Nat×aL)),(∀p∈l,p.1≠b')->∀c,hp (l.map fun p=>(gj b b' p.1,f p.2)) c=if c=b' then(hp l b).map f else if c=b then none else(hp l c).map f
 | [],_,c=>by simp[hp]
 |(d,y)::t,hl,c=>by
   have ih:=aqb f aG t (fun p hp=>hl p (by simp[hp])) c;have hd:d≠b':=hl (d,y) az;have hpc:∀(e:Nat) (z:aL) (u:List (Nat×aL)) (x:Nat),hp ((e,z)::u) x=if x=e then some z else hp u x:=fun e z u x=>by
    simp only[hp];by_cases h:x=e
    ·simp[h]
    have:Nat.beq x e=false:=by rw[<-yO,sR];exact h
    rw[this,if_neg h];rfl
   simp only[jh,hpc,ih];by_cases h1:d=b
   ·subst h1;simp only[gj,if_true];by_cases h2:c=b'
    ·simp[h2]
    by_cases h3:c=d
    ·subst h3;simp[h2]
    simp[h2,h3]
   have e1:gj b b' d=d:=by simp[gj,h1]
   rw[e1];by_cases h2:c=b'
   ·subst h2;have:c≠d:=fun e=>hd e.symm;simp[this,Ne.symm h1]
   by_cases h3:c=b
   ·subst h3;simp[h2,Ne.symm h1]
   by_cases h4:c=d
   ·subst h4;simp[h2,h3]
   simp[h2,h3,h4]
theorem av.aAI{L:St}{b b':Nat}{l:List (Nat×aL)}(hl:L.heap=hp l)(hb:b≠0)(l6:b'≠0)(aG:b≠b'):
  av L ⟨fun t=>((L.slot t).kill b').bl (gj b b'),hp ((kI b' l).map fun p=>(gj b b' p.1,(⟨p.2.sz,eO (gj b b') p.2.vals,p.2.mt⟩:aL)))⟩:=by
 have hk:(L.kill b').heap=hp (kI b' l):=by
  funext c;rw[ach];simp only[St.kill,hl]
 have hn:∀p∈kI b' l,p.1≠b':=by
  clear hk hl
  induction l with
  |nil=>simp[kI]
  |cons q t ih =>
   obtain⟨d,y⟩:=q;simp only[kI];by_cases h:d=b'
   ·subst h;simpa using ih
   have:Nat.beq d b'=false:=by rw[<-yO,sR];exact h
   rw[this];simp only[cond_false,fJ];rintro p (rfl|hp)
   ·exact h
   exact ih p hp
 refine(av.kill L b' l6).trans ((av.au7 (b:=b) (b':=b') hb l6 aG (by simp[St.kill])).trans (av.of_eq ?_));simp only[St.move,St.mk.injEq];refine⟨rfl,?_⟩;funext c;rw[aqb (fun x=>⟨x.sz,eO (gj b b') x.vals,x.mt⟩) aG _ hn c,hk]
end
section
variable {Z Z':Nat->Prop} {μ aF:Nat->Option Nat} {w:World}
mutual
theorem LV.afd(f:Nat->Nat):∀(x:LV),(x.bl f).pure=x.pure
 | .any=>rfl
 | .v _=>rfl
 | .list sz l=>by simp only[LV.bl,LV.pure,aag f l]
 | .agg l=>by simp only[LV.bl,LV.pure,aag f l]
 | .ref ..=>rfl
 | .gm ..=>rfl
 | .ax ..=>rfl
 | .bg c=>by simp only[LV.bl,LV.pure,LV.afd f c]
 | .bQ g l=>by simp only[LV.bl,LV.pure,aag f l]
 | .gZ g l=>rfl
 | .aQ l=>by simp[LV.bl,LV.pure]
theorem aag(f:Nat->Nat):∀(l:List LV),aN (eO f l)=aN l
 | []=>rfl
 |x::xs=>by simp only[eO,aN,LV.afd f x,aag f xs]
end
mutual
theorem ao.unren(f:Nat->Nat)(hm:∀b id,μ (f b)=some id->aF b=some id):∀(lv:LV) (cs:List Value),ao Z μ w (lv.bl f) cs->ao Z aF w lv cs
 | .any,_,h=>by simpa[ao,LV.bl]using h
 | .v x,cs,h=>by simpa[ao,LV.bl]using h
 | .list sz l,cs,h=>by
   have h9:aN l=true:=by
    simp only[ao,LV.bl]at h;obtain⟨a,len,cap,h1,h2,h3,h4,h9⟩:=h;rwa[aag]at h9
   rw[LV.dF f (.list sz l) (by simpa[LV.pure]using h9)]at h;exact ao.fE (fun _ h=>h) (fun _ _=>rfl) _ _ (by simpa[LV.pure]using h9) h
 | .agg l,cs,h=>by
   simp only[ao,LV.bl]at h ⊢;exact a8.unren f hm l cs h
 | .ref b sz off len,cs,h=>by
   simp only[ao,LV.bl]at h ⊢;rcases h with h|⟨id,cap,c,T,fz,h1,h2,h3⟩
   ·exact lp
   exact .inr ⟨id,cap,c,T,fz,h1,hm _ _ h2,h3⟩
 | .gm b sz off len cap,cs,h=>by
   simp only[ao,LV.bl]at h ⊢;obtain⟨id,c,T,fz,h1,h2,h3⟩:=h;exact⟨id,c,T,fz,h1,hm _ _ h2,h3⟩
 | .ax b sz i o,cs,h=>by
   simp only[ao,LV.bl]at h ⊢;obtain⟨id,h1,h2⟩:=h;exact⟨id,h1,hm _ _ h2⟩
 | .bg c,cs,h=>by
   have h9:c.pure=true:=by
    simp only[ao,LV.bl]at h;obtain⟨blk,off,cc,T,fz,part,rest,h1,h2,h3,h4,h5,h6,h7⟩:=h;rwa[LV.afd]at h7
   rw[LV.dF f (.bg c) (by simpa[LV.pure]using h9)]at h;exact ao.fE (fun _ h=>h) (fun _ _=>rfl) _ _ (by simpa[LV.pure]using h9) h
 | .bQ g cap,cs,h=>by
   have h9:aN cap=true:=by
    simp only[ao,LV.bl]at h;obtain⟨vs,h1,h2,h3⟩:=h;rwa[aag]at h3
   rw[LV.dF f (.bQ g cap) (by simpa[LV.pure]using h9)]at h;exact ao.fE (fun _ h=>h) (fun _ _=>rfl) _ _ (by simpa[LV.pure]using h9) h
 | .gZ g cap,cs,h=>by
   simp only[ao,LV.bl]at h ⊢;obtain⟨vs,h1,h2⟩:=h;exact⟨vs,h1,aw.unren f hm 1 cap vs.toList h2⟩
 | .aQ _,_,h=>by simp[ao,LV.bl]at h
theorem aw.unren(f:Nat->Nat)(hm:∀b id,μ (f b)=some id->aF b=some id)(sz:Nat):∀(l:List LV) (cs:List Value),aw Z μ w sz (eO f l) cs->aw Z aF w sz l cs
 | [],cs,h=>by simpa[aw,eO]using h
 |x::xs,cs,h=>by
   simp only[aw,eO]at h ⊢;obtain⟨c1,c2,h1,h2,h3,h4⟩:=h;exact⟨c1,c2,h1,h2,ao.unren f hm x c1 h3,aw.unren f hm sz xs c2 h4⟩
theorem a8.unren(f:Nat->Nat)(hm:∀b id,μ (f b)=some id->aF b=some id):∀(l:List LV) (cs:List Value),a8 Z μ w (eO f l) cs->a8 Z aF w l cs
 | [],cs,h=>by simpa[a8,eO]using h
 |x::xs,cs,h=>by
   simp only[a8,eO]at h ⊢;obtain⟨c1,c2,h1,h2,h3,h4⟩:=h;exact⟨c1,c2,h1,by rw[<-LV.aet f];exact h2,ao.unren f hm x c1 h3,a8.unren f hm xs c2 h4⟩
end
theorem dD.unren(f:Nat->Nat)(hm:∀b id,μ (f b)=some id->aF b=some id){lv:LV}{v:Value}(h:dD Z μ w (lv.bl f) v):dD Z aF w lv v :=
 ⟨fun e=>let ⟨cs,h1,h2⟩:=h.1 (by rwa[LV.acF]);⟨cs,h1,ao.unren f hm _ _ h2⟩,fun e=>ao.unren f hm _ _ (h.2 (by rwa[LV.acF]))⟩
end
section
variable {P:Program} {W w w':World} {X X0:XS} {Z0 Z Zr:Nat->Prop} {μ cK:Nat->Option Nat} {H H' Hr:bn} {a:Act} {L L':St} {n d:Nat} {ops:Array Oper} {σ:Nat->Nat}
inductive aew (H:bn) (σ:Nat->Nat):LV->LV->Prop
 |cC {x y} (h:bR H x y):aew H σ x y
 |bl {y} (h:y≠.any/\∀l,y≠.aQ l):aew H σ (y.bl σ) y
theorem aew.sound(hc:Core W X Z0 μ Z H w){x y:LV}{v:Value}(h:aew H σ x y)(hr:aC Z μ w x v):dD Z (fun k=>μ (σ k)) w y v:=by
 cases h with
 |cC h=>exact bR.aaK hc h hr
 |bl hn =>
  refine dD.unren σ (fun _ _ h=>h) ?_
  cases y with
  |any=>exact absurd rfl hn.1
  |aQ l=>exact absurd rfl (hn.2 l)
  |_=>exact hr
end
end Go.Lg
namespace Go.Lg
end Go.Lg
end
section
set_option linter.unusedVariables false
set_option linter.unusedSimpArgs false
set_option maxHeartbeats 8000000
set_option maxRecDepth 100000
attribute [local irreducible] Go.Lg.opsL Go.Lg.bM Go.Lg.lq Go.Lg.nJ
namespace Go.Proofs.YtbgmjcnjbhhljaaGreat
open Go.Lg
end Go.Proofs.YtbgmjcnjbhhljaaGreat
namespace Go.Lg
section
variable {P:Program} {ops:Array Oper} {L:St}
theorem a8.alN{Z:Nat->Prop}{μ:Nat->Option Nat}{w:World}{sz:Nat}:∀(l:List LV) (cs:List Value),a8 Z μ w l cs->(∀v∈l,v.aj=sz)->aw Z μ w sz l cs
 | [],cs,h,_=>by simpa only[a8,aw]using h
 |x::xs,cs,h,hs=>by
   simp only[a8,aw]at h ⊢;obtain⟨c1,c2,e,l1,r1,r2⟩:=h;exact⟨c1,c2,e,by rw[l1];exact hs x az,r1,a8.alN xs c2 r2 (fun v hv=>hs v (by simp[hv]))⟩
theorem akQ{T E:TypeId}{x:Operand}{vals:List LV}{sz h:Nat}{ag:Bool}{ha:Option Operand}{dst:Option Tmp}{ty:TypeId}{pos:String}{af:Array Edge}{g:Option (Nat×Bool)}
  (hg:cI ops L ⟨dst,.slice T x none ha none,ty,pos,af,g⟩ true) (hx:L.ev x=.bg (.agg vals)) (hT:P.underlying T=some (.array vals.length E)) (hE:aX P E sz ag) (hs:∀v∈vals,v.aj=sz) (h0:0<vals.length) (hh:h<=vals.length)
  (hha:∀y,ha=some y->∃k,L.ev y=.v (.int k (h:Nat))) (hh0:ha=none->h=vals.length) :
  uq P ops ⟨dst,.slice T x none ha none,ty,pos,af,g⟩ L (L.put dst (.list sz (vals.take h))):=by
 intro n W X Z0 a w K Q ⟨cZ,vA,μ,Z,hc,hr⟩ hd hK;rw[uz hr hg];simp only[if_true];have eJ:∀t,dst=some t->t<a.tmps.size:=fun t h=>by rw[vA];exact hd t h
 have e:=fS hr x;rw[hx]at e;have e2:=e.2 rfl;simp only[ao]at e2;obtain⟨blk,off,cc,T',fz,part,rest,h1,hz,h2,h3,h4,h5,hp⟩:=e2;simp only[dq,and_true]at h1;have hb:=ab2 (P:=P) (w:=w) false vals.length vals.length none (ha.map a.eval) 0 h (fun y hy=>by cases hy) (fun _=>rfl) (fun y hy=>by
   cases ha with
   |none=>cases hy
   |some z =>
    simp only[kj,dN]at hy;obtain⟨k,hk⟩:=hha z rfl;have:=fS hr z;rw[hk]at this;exact⟨k,by rw[<-hy];exact this.cV⟩) (fun e=>hh0 (by simpa using e)) aa hh
 have de:(execOp a.eval ⟨dst,.slice T x none ha none,ty,pos,af,g⟩).run P w=.ok (.value (.slice (some ⟨blk,off,none⟩) h vals.length)) w:=by
  simp only[execOp,h1,Option.map_none,Instr.sliceAt,Sem.run_bind,run_underlying hT,Result.andThen_ok,Instr.sureAddr,hb,run_sizeOf hE,Sem.run_pure,if_neg (show vals.length≠0 by omega)];simp[Addr.add]
 unfold Oper.wp;rw[de,Oper.upon_value];refine hK _ _ ⟨by rw[put_defers];exact cZ,by rw[lG];exact vA,μ,Z,by rw[gD];exact hc,?_⟩;refine lI eJ hr (show dD Z μ w (.list sz (vals.take h)) _ from ⟨fun e=>by simp[LV.isAgg]at e,fun _=>?_⟩);simp only[LV.pure]at hp;have hq:=(qZ _).1 hp;simp only[ao]at h5 ⊢;have hA:=a8.alN _ _ h5 hs;obtain⟨c1,c2,d1,d2,d3⟩:=aw.split (vals.take h) (vals.drop h) part (by rw[mP];exact hA);refine⟨_,_,_,rfl,by rw[eE];omega,hh,.inr ⟨blk,off,cc,T',fz,c1,c2++rest,rfl,hz,h2,by rw[h3,d1,wC],d2⟩,(qZ _).2 fun v hv=>hq v (List.mem_of_mem_take hv)⟩
end
end Go.Lg
namespace Go.Proofs.YtbgmjcnjbhhljaaGreat
open Go.Lg
theorem z7{α:Type}{l:List α}{j:Nat}{d:α}(h:j<l.length):l.getD j d∈l:=by
 rw[bf,bO h];exact rA h
theorem apT(G:List (List V3))(j:Nat):∀t,oM G (t++[j])=oM G t+bY (gH (G.getD j []))
 | []=>by simp[oM]
 |a::t=>by simp only[rq,oM,apT G j t];omega
theorem azh{G:List (List V3)}{i n m:Nat}(h:m<(jb G i n).length):∃j,j<n/\(jb G i n).getD m 0=(j:Int)/\(lS G i n).take (m+1)=(lS G i n).take m++[j]:=by
 have hm:m<(lS G i n).length:=by unfold jb at h;rwa[bF]at h
 refine⟨(lS G i n)[m],?_,?_,?_⟩
 ·have:=rA hm;unfold lS at this;exact xL.1 (List.mem_filter.1 this).1
 ·unfold jb;rw[bf,iT,bO hm];rfl
 rw[tt,bO hm];rfl
noncomputable def oI(G:List (List V3)):Int:=if G.length=0 then 1 else @ite _ (xK G) (uJ _) 0 8
theorem ahT{G:List (List V3)}(h:¬G.length=0)(k:xK G):oI G=0:=by unfold oI;rw[if_neg h,if_pos k]
theorem aaQ{G:List (List V3)}(h:¬G.length=0)(k:¬xK G):oI G=8:=by unfold oI;rw[if_neg h,if_neg k]
theorem afl(a b:Int):(if b<a then b else a)=min a b:=aa
theorem ase(a b:Int):(if b > a then b else a)=max a b:=aa
instance (G:List (List V3)) (i:Nat):Decidable (sk G i):=inferInstanceAs (Decidable (_/\_))
theorem aww{p:Prop}[Decidable p](h:¬p):true=!decide p:=by rw[decide_eq_false h];rfl
theorem anM{l:List V3}{R:Nat}(hl:l.length<=64)(hR:R<=1000000)(hb:∀q∈l,bE R q):rl (gH l)<=1099511627776:=by
 by_cases h:0<l.length
 ·have:=aeb (fun i=>vo hb h i) l.length;have g:l.length*(4*R+4)<=64*4000004:=rF hl aa;unfold gH;omega
 have:l=[]:=by cases l<;>simp_all
 subst this;decide
theorem dfI:(default:Int)=0:=rfl
theorem bnf{b:Bool}(h:(!b)=false):b=true:=by cases b<;>simp_all
theorem azg{l:List V3}:v7 l=true↔ti l:=⟨fun h=>@of_decide_eq_true _ (uJ _) h,ag7⟩
theorem awq{l m:List V3}:zE l m=true↔sj l m:=⟨fun h=>@of_decide_eq_true _ (uJ _) h,agz⟩
namespace agE
theorem aD{p q:Prop}(k:q)(e:p=q:=by simp only[bc,aZ,aW,aS,dc,bF,cw,cd,cy,reduceIte,if_true,if_false,cS,LV.kill,a9];exact rfl):p:=e.mpr k
end agE
open agE in
theorem asd(p:List Rat)(f:Nat)(hl:p.length<=1000)(hf:∀x∈p,ar ae f [ab x] (bL false)):ar ae 158 [.list 3 (p.map ab),.bQ f []] (iL (-1)):=by
 refine aE Tryz.func158 ?_;refine dx ?_;refine da (fun(k:Nat) L=>(mS L [] [(8,ak k),(7,ak p.length),(1,.bQ f []),(0,.list 3 (p.map ab))])) (fun k=>k<=p.length) (fun k=>p.length-k) 0 (bJ _) ?_;rintro k L1 hk;refine aA ?_;refine au rfl ?_ ?_<;>intro sB h9
 ·have eQ:k<p.length:=aa;have oR:=hf _ (df eQ);refine jX ?_;simp only[t1,dc];refine jA [] rfl rfl (.bQ (f:=f) (cap:=[]) (args:=[ab (p.getD k 0)]) rfl (.cons dv .nil) ⟨rfl,fun _ h=>by cases h⟩ oR.1 an (fun _ h=>by cases h)) (oR.2 _) ?_;refine aP ?_;refine c9 ?_;exact fj (k+1) aa
 obtain rfl:k=p.length:=aa;refine cg ?_;exact dg
open H0 in
theorem arZ(p:List Rat)(f:Nat)(hl:p.length<=1000)(hf:∀x∈p,ar ae f [ab x] (bL false)):ar ae 69 [.list 3 (p.map ab),.bQ f []] (bL false):=by
 refine aE Tryz.func69 ?_;refine bC (asd p f hl hf) ?_;refine aV ?_;exact dg
open af3 in
theorem auT(G:List (List V3))(f:Nat)(hl:G.length<=1000)(hf:∀x∈G,ar ae f [b9 x] (bL false)):ar ae 160 [.list 1 (G.map b9),.bQ f []] (iL (-1)):=by
 refine aE Tryz.func160 ?_;refine dx ?_;refine da (fun(k:Nat) L=>(mS L [] [(8,ak k),(7,ak G.length),(1,.bQ f []),(0,.list 1 (G.map b9))])) (fun k=>k<=G.length) (fun k=>G.length-k) 0 (bJ _) ?_;rintro k L1 hk;refine aA ?_;refine au rfl ?_ ?_<;>intro sB h9
 ·have eQ:k<G.length:=aa;have oR:=hf (G.getD k []) (by rw[bf,bO eQ];exact rA eQ);refine jX ?_
  try refine aD ?_
  refine jA [] rfl rfl (.bQ (f:=f) (cap:=[]) (args:=[b9 (G.getD k [])]) rfl (.cons (.pure (fM.pure _)) .nil) ⟨rfl,fun _ h=>by cases h⟩ oR.1 an (fun _ h=>by cases h)) (oR.2 _) ?_;refine aP ?_;refine c9 ?_;exact fj (k+1) aa
 obtain rfl:k=G.length:=aa;refine cg ?_;exact dg
open H0 in
theorem aAV(G:List (List V3))(f:Nat)(hl:G.length<=1000)(hf:∀x∈G,ar ae f [b9 x] (bL false)):ar ae 72 [.list 1 (G.map b9),.bQ f []] (bL false):=by
 refine aE Tryz.func72 ?_;refine bx ?_;refine cF rfl (.cons (.pure (bN fM 1 _)) (.cons (.pure rfl) .nil)) (auT G f hl hf) ?_;refine aV ?_;exact dg
open H0 in
theorem ahM(q:Rat)(h:rl q<=1099511627776):ar ae 70 [ab q] (bL false):=by
 refine aE Tryz.func70 ?_;refine cO (auh q h) ?_;refine aV ?_;exact dg
open zB in
theorem avj(l:List V3)(h:l.length<=64):ar ae 73 [b9 l] (bL false):=by
 unfold b9;refine aE Tryz.func73 ?_;refine dx ?_;refine cm (x:=bL (decide ((l.length:Int) > 64))) rfl ?_;rw[show (decide ((l.length:Int) > 64))=false from decide_eq_false aa];exact .pure rfl
namespace aqU
theorem aD{p q:Prop}(k:q)(e:p=q:=by simp only[bc,aZ,aW,aS,jH,eln,dfI,ej,Int.toNat_natCast,afl,ase,List.drop_zero,cT m8,aee,cT fM,rZ,dfL,bF,ij,iG,cw,cd,cy,reduceIte,if_true,if_false,cS,LV.kill,a9];exact rfl):p:=e.mpr k
end aqU
open aqU in
theorem aqG(G:List (List V3))(R:Nat)(hR:R<=1000000)(h:yH G R)(hz:∀l∈G,∀p∈l,p.z=0):ar ae 21 [.list 1 (G.map b9)] (iL (oI G)):=by
 have rZ:(LV.agg [ab 0,ab 0,ab 0]).aj=9:=wL;have hn:=h.n;have hCL:ar ae 72 [.list 1 (G.map b9),.bQ 73 []] (bL false):=aAV G _ aa (fun l hl=>avj l (h.l l hl));refine aE Tryz.func21 ?_;have jH:True:=trivial;have eln:True:=trivial;have ej:True:=trivial;refine dk ?_;refine au rfl ?_ ?_<;>intro yN uv
 ·have hE:oI G=1:=if_pos aa;refine aP ?_;rw[hE];exact dg
 have lY:¬G.length=0:=aa;refine cg ?_;refine da (fun(i:Nat) L=>(mS L [] [(22,ak i),(21,ak G.length),(20,.list 1 (G.map b9)),(2,iL 0),(0,.list 1 (G.map b9))])) (fun i=>i<=G.length) (fun i=>G.length-i) 0 (bJ _) ?_;rintro i L1 hi;refine aA ?_;refine au rfl ?_ ?_<;>intro mN mB
 ·have dS:i<G.length:=aa;have ha:=h.at i;have hgm:(G.getD i [])∈G:=z7 dS;refine nk ?_;refine da (fun(j:Nat) L=>(mS L [] [(28,ak j),(27,ak (G.getD i []).length),(26,b9 (G.getD i [])),(4,b9 (G.getD i [])),(22,ak i),(21,ak G.length),(20,.list 1 (G.map b9)),(2,iL 0),(0,.list 1 (G.map b9))])) (fun j=>j<=(G.getD i []).length) (fun j=>(G.getD i []).length-j) 0 (bJ _) ?_;rintro j L2 hj;refine aA ?_;refine au rfl ?_ ?_<;>intro tw ri
  ·have fA:j<(G.getD i []).length:=aa;have hpm:((G.getD i []).getD j default)∈(G.getD i []):=z7 fA;have ll:=ha.2 _ hpm;have hpz:((G.getD i []).getD j default).z=0:=hz _ hgm _ hpm;have hCR:ar ae 69 [.list 3 [ab ((G.getD i []).getD j default).x,ab ((G.getD i []).getD j default).y,ab ((G.getD i []).getD j default).z],.bQ 70 []] (bL false):=arZ [((G.getD i []).getD j default).x,((G.getD i []).getD j default).y,((G.getD i []).getD j default).z] _ az (fun q hq=>by simp only[fJ,jN,or_false]at hq;rcases hq with rfl|rfl|rfl;exact ahM _ (by have:=ll.1;omega);exact ahM _ (by have:=ll.2.1;omega);exact ahM _ (by have:=ll.2.2;omega));refine dk ?_;refine ah6 0 (av.bg (t:=6) (b:=6) rfl rfl cs rfl pu) ?_;simp only[sr,xa];refine abS rfl (akQ (vals:=[ab ((G.getD i []).getD j default).x,ab ((G.getD i []).getD j default).y,ab ((G.getD i []).getD j default).z]) (sz:=3) (h:=3) rfl rfl Tryz.underlying31 bZ (by simp[al.aj]) az az (fun y h=>by cases h) (fun _=>rfl)) ?_;simp only[aap,gX];refine cp aK (hCR) ?_;refine cO (mM ((G.getD i []).getD j default).z (by have:=ll.2.2;omega)) ?_;refine ay ?_;refine au rfl ?_ ?_<;>intro ady h39
   ·rw[hpz]at ady;exact absurd ady an
   refine ay ?_;refine c9 ?_;exact pR
  refine aP ?_;refine c9 ?_;exact mW
 refine bp ?_;refine ai mr (.move _) ?_;refine cF mr (.cons (.pure (bN fM 1 _)) (.cons (.pure rfl) .nil)) hCL ?_;refine ai rfl (.kO rfl ((decide_eq_false aa))) ?_;refine aR ?_;refine au rfl ?_ ?_<;>intro aqN h48
 ·cases aqN
 refine cg ?_;refine da (fun(k:Nat) L=>(mS L [] [(51,ak k),(50,ak G.length),(49,.list 1 (G.map b9)),(2,iL 0),(0,.list 1 (G.map b9))])) (fun k=>k<=G.length/\∀i,i<k->ti (G.getD i [])/\∀j,j<i->sj (G.getD i []) (G.getD j [])) (fun k=>G.length-k) 0 ⟨bJ _,fun _ h=>by omega⟩ ?_;rintro k L3 ⟨hk,jg⟩;refine aA ?_;refine au rfl ?_ ?_<;>intro aB1 h52
 ·have eQ:k<G.length:=aa;have ha:=h.at k;have jH:List.take k (fl b9 G)=(G.take k).map b9:=pU.symm;have eln:(G.take k).length=k:=by rw[eE];omega
  refine cO (au1 (G.getD k []) ha.1 R hR ha.2) ?_;refine bw ?_;refine au rfl ?_ ?_<;>intro tj ta
  ·have hE:oI G=8:=aaQ lY fun g=>by have:=ag7 (g.1 k eQ).1;rw[this]at tj;cases tj
   refine bp ?_;rw[hE];exact dg
  have oF:ti (G.getD k []):=azg.1 (bnf tj);refine aA ?_;refine ai rfl (by first|exact .adg (h:=k) fM rfl xW T42 rfl om|exact .vV rfl xW T42 rfl om om) ?_;refine aV ?_;refine da (fun(j:Nat) L=>(mS L [] [(63,ak j),(62,ak k),(61,.list 1 ((G.take k).map b9)),(8,b9 (G.getD k [])),(7,ak k),(51,ak k),(50,ak G.length),(49,.list 1 (G.map b9)),(2,iL 0),(0,.list 1 (G.map b9))])) (fun j=>j<=k/\∀m,m<j->sj (G.getD k []) (G.getD m [])) (fun j=>k-j) 0 ⟨bJ _,fun _ h=>by omega⟩ ?_;rintro j L4 ⟨hj,hap⟩;refine aA ?_;refine au rfl ?_ ?_<;>intro aCa h64
  ·have fA:j<k:=aa;have hb:=h.at j;have hgj:(G.take k).getD j []=G.getD j []:=by rw[bf,bf,List.getElem?_take_of_lt fA]
   have hAp:ar ae 75 [b9 (G.getD k []),b9 ((G.take k).getD j [])] (bL (zE (G.getD k []) (G.getD j []))):=by
    rw[hgj];exact azu (G.getD k []) (G.getD j []) ha.1 hb.1 R hR ha.2 hb.2
   refine bC (hAp) ?_;refine bw ?_;refine au rfl ?_ ?_<;>intro afv h70
   ·have hE:oI G=8:=aaQ lY fun g=>by have:=agz ((g.1 k eQ).2 j fA);rw[this]at afv;cases afv
    refine gA ?_;rw[hE];exact dg
   have hpj:sj (G.getD k []) (G.getD j []):=awq.1 (bnf afv);refine ay ?_;refine c9 ?_;exact fj (j+1) ⟨aa,fun m hm=>by rcases fH m j with h9|h9;exact hap m h9;obtain rfl:m=j:=aa;exact hpj⟩
  obtain rfl:k=j:=aa;refine aP ?_;refine c9 ?_;exact fj (k+1) ⟨aa,fun i hi=>by rcases fH i k with h9|h9;exact jg i h9;obtain rfl:i=k:=aa;exact⟨oF,hap⟩⟩
 obtain rfl:k=G.length:=aa;refine dx ?_;refine da (fun(k:Nat) L=>(mS L [] [(75,ak k),(74,ak G.length),(73,.list 1 (G.map b9)),(2,iL 0),(0,.list 1 (G.map b9))])) (fun k=>k<=G.length/\∀i,i<k->sk G i) (fun k=>G.length-k) 0 ⟨bJ _,fun _ h=>by omega⟩ ?_;rintro k L5 ⟨hk,aG⟩;refine aA ?_;refine au rfl ?_ ?_<;>intro apQ h76
 ·have eQ:k<G.length:=aa;have ha:=h.at k;have hlk:=(jg k eQ).1.1;have hAr:=aA5 G R hR h k eQ aa;have qH:=aro G k G.length;refine ur ?_;refine cF rfl (.cons (.pure (bN fM 1 _)) (.cons (.pure rfl) .nil)) hAr ?_;refine aV ?_;refine iy (fun(m:Nat) (s:Int) L=>(mS L [] [(13,iL s),(84,ak m),(83,ak (jb G k G.length).length),(82,.list 1 ((jb G k G.length).map jx)),(12,b9 (G.getD k [])),(11,ak k),(75,ak k),(74,ak G.length),(73,.list 1 (G.map b9)),(2,iL 0),(0,.list 1 (G.map b9))])) (fun m s=>m<=(jb G k G.length).length/\s=oM G ((lS G k G.length).take m)/\-(m:Int)<=s/\s<=m) (fun m s=>(jb G k G.length).length-m) 0 0 ⟨bJ _,rfl,by decide,by decide⟩ ?_;rintro m s L6 ⟨hm,hs,fV,jq⟩;refine aA ?_;refine au rfl ?_ ?_<;>intro aBR h85
  ·have fh:m<(jb G k G.length).length:=aa;obtain⟨j,hj,ej,atn⟩:=azh fh;have hb:=h.at j;have hsb:=aeH (gH (G.getD j []));refine cO (aep (G.getD j []) hb.1 R hR hb.2) ?_;refine cp bK (mM (gH (G.getD j [])) (anM hb.1 hR hb.2)) ?_;refine ai rfl pn ?_;refine aV ?_;refine c9 ?_;exact fC (m+1) (s+bY (gH (G.getD j []))) ⟨aa,by rw[atn,apT,hs],aa,aa⟩
  obtain rfl:m=(jb G k G.length).length:=aa;have hs3:s=oM G (lS G k G.length):=by rw[hs];congr 1;exact cW (by unfold jb;rw[bF];exact bA _)
  have hsb:=aeH (gH (G.getD k []));have hnP:sk G k↔min (s+bY (gH (G.getD k []))) s=0/\max (s+bY (gH (G.getD k []))) s=1:=by unfold sk;rw[<-hs3]
  refine cO (aep (G.getD k []) ha.1 R hR ha.2) ?_;refine cp bK (mM (gH (G.getD k [])) (anM ha.1 hR ha.2)) ?_;refine ai rfl pn ?_;refine ay ?_;refine fk (fun L=>∃(q:Bool) (L1:St),(q=!decide (sk G k))/\L=(mS L1 [] [(111,bL q),(12,b9 (G.getD k [])),(11,ak k),(75,ak k),(74,ak G.length),(73,.list 1 (G.map b9)),(2,iL 0),(0,.list 1 (G.map b9))])) ?_ ?_
  ·refine aA ?_;refine cz 106 rfl ?_ ?_<;>intro ar7 yl
   ·refine aP ?_;exact⟨true,_,aww fun g=>by have h9:=(hnP.1 g).1;first|exact yl h9|(rw[afl]at yl;exact yl h9),ca⟩
   refine aP ?_;exact⟨(max (s+bY (gH (G.getD k []))) s != 1),_,by have e:decide (sk G k)=decide (max (s+bY (gH (G.getD k []))) s=1):=decide_eq_decide.2 ⟨fun g=>(hnP.1 g).2,fun g=>hnP.2 ⟨(by first|exact yl|exact(afl _ _).symm.trans yl),g⟩⟩;rw[e];rfl,ca⟩
  rintro _ ⟨q,aB6,hq,rfl⟩;refine aT ?_;refine au rfl ?_ ?_<;>intro ac5 aCM
  ·have hE:oI G=8:=aaQ lY fun g=>by have:=g.2 k eQ;rw[hq,decide_eq_true this]at ac5;cases ac5
   refine cg ?_;rw[hE];exact dg
  have hnk:sk G k:=of_decide_eq_true (bnf (by rw[hq]at ac5;exact ac5));refine ay ?_;refine c9 ?_;exact fj (k+1) ⟨aa,fun i hi=>by rcases fH i k with h9|h9;exact aG i h9;obtain rfl:i=k:=aa;exact hnk⟩
 obtain rfl:k=G.length:=aa;refine cg ?_;rw[ahT lY ⟨jg,aG⟩];exact dg
def lZ(p:Int×Int):LV:=.agg [.v (.int .i64 p.1),.v (.int .i64 p.2)]
def mD:List (Int×Int):=[(2,0),(2,1),(1,2),(-1,2),(-2,0),(-2,-1),(0,-2),(1,-1)]
theorem atx:(LV.agg (mD.map lZ)).pure=true:=rfl
theorem aoP:∀k,-2<=(mD.getD k (0,0)).1/\(mD.getD k (0,0)).1<=2/\-2<=(mD.getD k (0,0)).2/\(mD.getD k (0,0)).2<=2
 |0|1|2|3|4|5|6|7=>by decide
 |_+8=>by simp[mD]
theorem anQ{k:Nat}(h:k<8):(mD.map lZ)[k]?=some (lZ (mD.getD k (0,0))):=by
 obtain rfl|rfl|rfl|rfl|rfl|rfl|rfl|rfl:k=0\/k=1\/k=2\/k=3\/k=4\/k=5\/k=6\/k=7:=aa<;>rfl
def lpT(x y r:Int)(k:Nat):V3:=⟨((x+r*(mD.getD k (0,0)).1:Int):Rat),((y+r*(mD.getD k (0,0)).2:Int):Rat),0⟩
def lpk(tn:Bool)(i:Nat):Nat:=if tn then 7-i else i
def si(l:List Int)(x y r:Int)(tn:Bool):Nat->Nat->List V3
 |0,_=>[]
 |c+1,j=>if iO l j 4=3 then si l x y r tn c (cE l j)else lpT x y r (lpk tn (7-c))::si l x y r tn c (cE l j)
def lpJ(l:List Int):Nat->Nat->Nat
 |0,j=>j
 |c+1,j=>lpJ l c (cE l j)
def rk(l:List Int)(k:Nat):Int:=iO l k 9-4
def rE(l:List Int)(k:Nat):Int:=iO l (cE l k) 9-4
def qF(l:List Int)(k:Nat):Int:=1+iO l (cE l (cE l k)) 5
def lpN(l:List Int)(k:Nat):Bool:=iO l (cE l (cE l (cE l k))) 3==2
def lpS(l:List Int)(k:Nat):Nat:=cE l (cE l (cE l (cE l k)))
def jU(l:List Int)(k:Nat):List V3:=si l (rk l k) (rE l k) (qF l k) (lpN l k) 8 (lpS l k)
def uu(l:List Int)(k:Nat):Nat:=lpJ l 8 (lpS l k)
def vg(o:List V3):List V3:=(o.set 0 (o.getD 1 default)).set 1 (o.getD 0 default)
def sd(l:List Int)(k:Nat):List V3:=if iO l (uu l k) 7=6/\1<(jU l k).length then vg (jU l k)else jU l k
def uh(l:List Int)(k:Nat):Nat:=cE l (uu l k)
theorem ak0{l:List Int}(hl:l.length<=500):∀(c:Nat) {j:Nat},j<=500->lpJ l c j<=500
 |0,_,h=>h
 |c+1,_,h=>ak0 hl c (lU hl h)
theorem aoM{l:List Int}{k:Nat}(hl:l.length<=500)(hk:k<=500):lpS l k<=500:=lU hl (lU hl (lU hl (lU hl hk)))
theorem ama{l:List Int}{k:Nat}(hl:l.length<=500)(hk:k<=500):uu l k<=500:=ak0 hl 8 (aoM hl hk)
theorem aAe{l:List Int}{k:Nat}(hl:l.length<=500)(hk:k<=500):uh l k<=500:=lU hl (ama hl hk)
theorem agq(l:List Int)(x y r:Int)(tn:Bool):∀c j,(si l x y r tn c j).length<=c
 |0,_=>bA _
 |c+1,j=>by
   unfold si;split
   ·exact Nat.le_succ_of_le (agq l x y r tn c _)
   exact Nat.succ_le_succ (agq l x y r tn c _)
def uc(p:V3):Prop:=bE 1 p/\p.z=0
theorem lpB{x r g:Int}(hx:-4<=x/\x<=4)(hr:1<=r/\r<=5)(hg:-2<=g/\g<=2):-14<=x+r*g/\x+r*g<=14/\-10<=r*g/\r*g<=10:=by
 have h1:r*g<=10:=by
  obtain rfl|rfl|rfl|rfl|rfl:g=-2\/g=-1\/g=0\/g=1\/g=2:=aa<;>omega
 have h2:-10<=r*g:=by
  obtain rfl|rfl|rfl|rfl|rfl:g=-2\/g=-1\/g=0\/g=1\/g=2:=aa<;>omega
 omega
theorem atZ{x y r:Int}(hx:-4<=x/\x<=4)(hy:-4<=y/\y<=4)(hr:1<=r/\r<=5)(k:Nat):uc (lpT x y r k):=by
 obtain⟨g1,g2,g3,g4⟩:=aoP k;have h1:=lpB hx hr ⟨g1,g2⟩;have h2:=lpB hy hr ⟨g3,g4⟩;exact⟨⟨aal aa,aal aa,show rl 0<=1 by decide⟩,rfl⟩
theorem afM{l:List Int}{x y r:Int}{tn:Bool}(hx:-4<=x/\x<=4)(hy:-4<=y/\y<=4)(hr:1<=r/\r<=5):∀c j,∀p∈si l x y r tn c j,uc p
 |0,_,_,h=>by cases h
 |c+1,j,p,h=>by
   unfold si at h;split at h
   ·exact afM hx hy hr c _ p h
   rcases fJ.1 h with rfl|h
   ·exact atZ hx hy hr _
   exact afM hx hy hr c _ p h
theorem anq(l:List Int)(k:Nat):-4<=rk l k/\rk l k<=4:=by have:=qG (l:=l) (k:=k) (n:=9) an;unfold rk;omega
theorem apx(l:List Int)(k:Nat):-4<=rE l k/\rE l k<=4:=by have:=qG (l:=l) (k:=cE l k) (n:=9) an;unfold rE;omega
theorem akB(l:List Int)(k:Nat):1<=qF l k/\qF l k<=5:=by have:=qG (l:=l) (k:=cE l (cE l k)) (n:=5) an;unfold qF;omega
theorem ayE{o:List V3}(h:1<o.length){p:V3}(hp:p∈vg o):p∈o:=by
 unfold vg at hp;rcases abX hp with hp|rfl
 ·rcases abX hp with hp|rfl
  ·exact hp
  exact z7 h
 exact z7 aa
theorem ast(l:List Int)(k:Nat):(sd l k).length<=8/\∀p∈sd l k,uc p:=by
 have h1:(jU l k).length<=8:=agq _ _ _ _ _ _ _;have h2:∀p∈jU l k,uc p:=afM (anq l k) (apx l k) (akB l k) _ _;unfold sd;split
 ·next h=>exact⟨by simpa[vg]using h1,fun p hp=>h2 p (ayE h.2 hp)⟩
 exact⟨h1,h2⟩
namespace aqh
theorem aD{p q:Prop}(k:q)(e:p=q:=by simp only[bc,aZ,aW,aS,l1,jW,cT a7,oW,ij,iG,cw,cd,cy,reduceIte,if_true,if_false,cS,LV.kill,a9];exact rfl):p:=e.mpr k
end aqh
open aqh in
theorem awE(l:List Int)(k:Nat)(hl:l.length<=500)(hk:k<=500):jt ae 52 ⟨2,[jD l k],true⟩ [.ax 0 2 0 0] (b9 (sd l k)) ⟨2,[jD l (uh l k)],true⟩:=by
 have k1:=lU (l:=l) hl hk;have k2:=lU (l:=l) hl k1;have k3:=lU (l:=l) hl k2;have hS5:=aoM (l:=l) hl hk;have hE5:=ama (l:=l) hl hk;obtain⟨x1,x2⟩:=anq l k;obtain⟨y1,y2⟩:=apx l k;obtain⟨r1,r2⟩:=akB l k;have b1:=qG (l:=l) (k:=k) (n:=9) an;have b2:=qG (l:=l) (k:=cE l k) (n:=9) an;have b3:=qG (l:=l) (k:=cE l (cE l k)) (n:=5) an;have pa:cj .sub .i64 (iO l k 9) 4=some (.int .i64 (rk l k)):=o5 aa aa;have qb:cj .sub .i64 (iO l (cE l k) 9) 4=some (.int .i64 (rE l k)):=o5 aa aa;have tg:cj .add .i64 1 (iO l (cE l (cE l k)) 5)=some (.int .i64 (qF l k)):=qD aa aa;refine tr Tryz.func52 ?_;refine bu ?_;refine og 0 rfl rfl rfl (dX l _) (.cons .ptr (.cons (.cC (.pure rfl)) .nil)) .ptr (sW l k 9 aa aa aa aa) rfl (dX l _) rfl ?_;refine ai rfl (.bin rfl rfl (pa)) ?_;refine aT ?_;refine og 0 rfl rfl rfl (dX l _) (.cons .ptr (.cons (.cC (.pure rfl)) .nil)) .ptr (sW l (cE l k) 9 aa aa aa aa) rfl (dX l _) rfl ?_;refine ai rfl (.bin rfl rfl (qb)) ?_;refine aP ?_;refine og 0 rfl rfl rfl (dX l _) (.cons .ptr (.cons (.cC (.pure rfl)) .nil)) .ptr (sW l (cE l (cE l k)) 5 aa aa aa aa) rfl (dX l _) rfl ?_;refine ai rfl (.bin rfl rfl (tg)) ?_;refine aV ?_
 refine ai rfl (r:=lZ (2,0)) (aq.iK (zs:=[iL 0,iL 0]) an wy) ?_;refine ai rfl (r:=lZ (2,1)) (aq.iK (zs:=[iL 0,iL 0]) an wy) ?_;refine ai rfl (r:=lZ (1,2)) (aq.iK (zs:=[iL 0,iL 0]) an wy) ?_;refine ai rfl (r:=lZ (-1,2)) (aq.iK (zs:=[iL 0,iL 0]) an wy) ?_;refine ai rfl (r:=lZ (-2,0)) (aq.iK (zs:=[iL 0,iL 0]) an wy) ?_;refine ai rfl (r:=lZ (-2,-1)) (aq.iK (zs:=[iL 0,iL 0]) an wy) ?_;refine ai rfl (r:=lZ (0,-2)) (aq.iK (zs:=[iL 0,iL 0]) an wy) ?_;refine ai rfl (r:=lZ (1,-1)) (aq.iK (zs:=[iL 0,iL 0]) an wy) ?_;refine ai rfl (r:=.agg (mD.map lZ)) (aq.iK (zs:=aJ 8 (lZ (0,0))) an (by intro q hq;simp only[fJ,jN,or_false]at hq;rcases hq with rfl|rfl|rfl|rfl|rfl|rfl|rfl|rfl<;>exact⟨_,rfl,rfl,ic⟩)) ?_;refine bp ?_;refine og 0 rfl rfl rfl (dX l _) (.cons .ptr (.cons (.cC (.pure rfl)) .nil)) .ptr (sW l (cE l (cE l (cE l k))) 3 aa aa aa aa) rfl (dX l _) rfl ?_;refine cg ?_;refine kD ((av.bg (t:=6) (b:=6) rfl rfl rfl rfl atx).trans (av.own (t:=7) 64 9 rfl rfl)) ?_
 refine lp4 (fun(i c j:Nat) (o:List V3) L=>(mS L [(0,⟨2,[jD l j],true⟩),(64,⟨9,(o).map aB,true⟩)] [(9,ak i),(7,.ref 64 9 0 o.length),(8,bL (lpN l k)),(6,(LV.bg (.agg (mD.map lZ)))),(5,iL (qF l k)),(4,iL (rE l k)),(3,iL (rk l k)),(0,.ax 0 2 0 0)])) (fun i c j o=>j<=500/\i+c=8/\o.length<=i/\o++si l (rk l k) (rE l k) (qF l k) (lpN l k) c j=jU l k/\lpJ l c j=uu l k) (fun i c j o=>c) 0 8 (lpS l k) ([]) ⟨hS5,rfl,bA _,rfl,rfl⟩ ?_;rintro i c j o L1 ⟨hj5,hic,cf,hV,hK⟩;refine aP ?_;refine au rfl ?_ ?_<;>intro yJ h33
 ·obtain⟨e,rfl⟩:∃e,c=e+1:=⟨c-1,aa⟩;have hj6:=lU (l:=l) hl hj5;have hce:7-e=i:=aa;refine bu ?_;refine og 0 rfl rfl rfl (dX l _) (.cons .ptr (.cons (.cC (.pure rfl)) .nil)) .ptr (sW l j 4 aa aa aa aa) rfl (dX l _) rfl ?_;refine bw ?_;refine au rfl ?_ ?_<;>intro avo h38
  ·refine ay ?_;refine bX (av.kill _ 63) ?_;refine aT ?_;refine c9 ?_;exact nx4 (i+1) e (cE l j) o ⟨hj6,aa,aa,by rw[si,if_pos (by simpa using h38)]at hV;exact hV,hK⟩
  refine dx ?_;refine fk (fun L=>∃(q:Nat) (L1:St),(q=lpk (lpN l k) i)/\L=(mS L1 [(0,⟨2,[jD l (cE l j)],true⟩),(64,⟨9,(o).map aB,true⟩)] [(10,ak q),(9,ak i),(7,.ref 64 9 0 o.length),(8,bL (lpN l k)),(6,(LV.bg (.agg (mD.map lZ)))),(5,iL (qF l k)),(4,iL (rE l k)),(3,iL (rk l k)),(0,.ax 0 2 0 0)])) ?_ ?_
  ·refine au rfl ?_ ?_<;>intro abr h40
   ·refine aR ?_;refine ai rfl nv ?_;refine bw ?_;exact⟨(7-i),_,by unfold lpk;rw[abr];rfl,ca⟩
   refine aR ?_;exact⟨i,_,by unfold lpk;rw[abr];rfl,ca⟩
  rintro _ ⟨q,aCr,hqe,rfl⟩;refine aR ?_;have hq8:q<8:=by rw[hqe];unfold lpk;split<;>omega
  obtain⟨g1,g2,g3,g4⟩:=aoP q;have pF:=lpB ⟨x1,x2⟩ ⟨r1,r2⟩ ⟨g1,g2⟩;have fh:=lpB ⟨y1,y2⟩ ⟨r1,r2⟩ ⟨g3,g4⟩;refine ay ?_;refine ai rfl (.tf (r:=lZ (mD.getD q (0,0))) rfl abJ ahz an rfl aa (by rw[akR];exact anQ hq8)) ?_;refine aR ?_;refine ai rfl abl ?_;refine ai rfl pn ?_;refine cp bK (aav (rk l k+qF l k*(mD.getD q (0,0)).1) aa aa) ?_;refine bw ?_;refine ai rfl (.tf (r:=lZ (mD.getD q (0,0))) rfl abJ ahz an rfl aa (by rw[akR];exact anQ hq8)) ?_;refine aR ?_;refine ai rfl abl ?_;refine ai rfl pn ?_;refine cp bK (aav (rE l k+qF l k*(mD.getD q (0,0)).2) aa aa) ?_;refine vd (aeI rfl rfl) ?_;refine aT ?_;refine dH rfl (.iJ (d:=64) (news:=[aB (lpT (rk l k) (rE l k) (qF l k) q)]) rfl rfl rfl rfl az (.inl rfl) an wR wR Z31 kt cs B31 (.inl ⟨63,0,_,rfl,by decide,rfl,rfl,by simp,rfl,by simp[aN,a7.pure]⟩) bm bm an) ?_;refine ay ?_;refine bX (av.kill _ 63) ?_;refine aT ?_;refine c9 ?_;exact nx4 (i+1) e (cE l j) (o++[lpT (rk l k) (rE l k) (qF l k) q]) ⟨hj6,aa,by simp;omega,by rw[wC,hqe];rw[si,if_neg (by simpa using h38),hce]at hV;exact hV,hK⟩
 obtain rfl:c=0:=aa;rw[si,eX]at hV;rw[lpJ]at hK;subst hV hK;have hE6:=lU (l:=l) hl hE5;refine bx ?_;refine og 0 rfl rfl rfl (dX l _) (.cons .ptr (.cons (.cC (.pure rfl)) .nil)) .ptr (sW l (uu l k) 7 aa aa aa aa) rfl (dX l _) rfl ?_;refine aR ?_;refine cz 68 rfl ?_ ?_<;>intro aBP h68
 ·refine aA ?_;refine au rfl ?_ ?_<;>intro aCh h72
  ·refine auA ?_;refine zp 0 rfl rfl bj (.move _) ?_;refine zp 1 rfl rfl bj (.move _) ?_;refine zp 2 rfl rfl bj (.move _) ?_;refine zp 3 rfl rfl bj sa ?_;refine zp 5 rfl rfl bj (.move _) ?_;refine zp 6 rfl rfl bj sa ?_;refine mZ 4 7 _ _ bj rfl rfl ?_ ?_
   ·refine ai rfl (.ldE (e:=aB) (l:=jU l k) (i:=1) rfl rfl aa) ?_;refine kv ?_;refine jk 7 _ bj rfl ?_;refine ai rfl (.ldE (e:=aB) (l:=jU l k) (i:=0) rfl rfl aa) ?_;refine kv ?_;refine jk 8 _ bj rfl ?_;refine aT ?_;refine kv ?_;refine jk 9 _ bj rfl ?_;refine dH rfl (.stE (e:=aB) (l:=jU l k) (i:=0) (a:=(jU l k).getD 1 default) rfl rfl rfl aa) ?_;refine aoG ?_;refine kv ?_;refine adM bj ?_;refine bu ?_;rw[show uh l k=cE l (uu l k) from rfl,show sd l k=vg (jU l k) from if_pos ⟨h68,aa⟩];unfold b9 vg;exact acy
   refine ai rfl (.ldE (e:=aB) (l:=jU l k) (i:=0) rfl rfl aa) ?_;refine kv ?_;refine jk 4 _ bj rfl ?_;refine ai rfl (.ldE (e:=aB) (l:=jU l k) (i:=1) rfl rfl aa) ?_;refine kv ?_;refine jk 8 _ bj rfl ?_;refine aT ?_;refine kv ?_;refine jk 9 _ bj rfl ?_;refine dH rfl (.stE (e:=aB) (l:=jU l k) (i:=0) (a:=(jU l k).getD 1 default) rfl rfl rfl aa) ?_;refine aoG ?_;refine kv ?_;refine adM bj ?_;refine bu ?_;rw[show uh l k=cE l (uu l k) from rfl,show sd l k=vg (jU l k) from if_pos ⟨h68,aa⟩];unfold b9 vg;exact acy
  refine bx ?_;rw[show uh l k=cE l (uu l k) from rfl,show sd l k=jU l k from if_neg fun h=>h72 aa];unfold b9;exact acy
 refine nB ?_;rw[show uh l k=cE l (uu l k) from rfl,show sd l k=jU l k from if_neg fun h=>h68 h.1];unfold b9;exact acy
def wF(l:List Int):Nat->Nat->List (List V3)
 |0,_=>[]
 |c+1,j=>sd l j::wF l c (uh l j)
def lsJ(l:List Int):Nat->Nat->Nat
 |0,j=>j
 |c+1,j=>lsJ l c (uh l j)
def zy(l:List Int)(k:Nat):Nat:=(1+iO l k 3).toNat
def lsV(l:List Int)(k:Nat):List (List V3):=wF l (zy l k) (cE l k)
def lsK(l:List Int)(k:Nat):Nat:=lsJ l (zy l k) (cE l k)
theorem aoK(l:List Int)(k:Nat):1+iO l k 3=((zy l k:Nat):Int)/\zy l k<=3:=by
 have:=qG (l:=l) (k:=k) (n:=3) an;unfold zy;omega
theorem aql(l:List Int):∀c j,(wF l c j).length=c
 |0,_=>rfl
 |c+1,j=>by rw[wF,dO,aql l c]
theorem ala(l:List Int):∀c j,∀o∈wF l c j,o.length<=8/\∀p∈o,uc p
 |0,_,_,h=>by cases h
 |c+1,j,o,h=>by
   rw[wF]at h;rcases fJ.1 h with rfl|h
   ·exact ast l j
   exact ala l c _ o h
namespace aiY
theorem aD{p q:Prop}(k:q)(e:p=q:=by simp only[bc,aZ,aW,aS,l1,ek,hNe,jW,cT fM,ij,iG,cw,cd,cy,reduceIte,if_true,if_false,cS,LV.kill,a9];exact rfl):p:=e.mpr k
end aiY
open aiY in
theorem aAw(l:List Int)(k:Nat)(hl:l.length<=500)(hk:k<=500):jt ae 12 ⟨2,[jD l k],true⟩ [.ax 0 2 0 0] (.list 1 ((lsV l k).map b9)) ⟨2,[jD l (lsK l k)],true⟩:=by
 have k1:=lU (l:=l) hl hk;have b1:=qG (l:=l) (k:=k) (n:=3) an;obtain⟨hNe,hN3⟩:=aoK l k;refine tr Tryz.func12 ?_;have ek:True:=trivial;refine dx ?_;refine og 0 rfl rfl rfl (dX l _) (.cons .ptr (.cons (.cC (.pure rfl)) .nil)) .ptr (sW l k 3 aa aa aa aa) rfl (dX l _) rfl ?_;refine ai rfl pn ?_;refine ay ?_;refine kD (av.own (t:=3) 16 1 rfl rfl) ?_;refine ow (fun(c j:Nat) (G:List (List V3)) L=>(mS L [(0,⟨2,[jD l j],true⟩),(16,⟨1,G.map b9,true⟩)] [(4,ak c),(3,.ref 16 1 0 G.length),(0,.ax 0 2 0 0)])) (fun c j G=>j<=500/\G.length+c<=3/\G++wF l c j=lsV l k/\lsJ l c j=lsK l k) (fun c j G=>c) (zy l k) (cE l k) ([]) ⟨k1,by simpa using hN3,rfl,rfl⟩ ?_;rintro c j G L1 ⟨hj5,hgl,hV,hK⟩;refine aP ?_;refine au rfl ?_ ?_<;>intro sB h9
 ·obtain⟨e,rfl⟩:∃e,c=e+1:=⟨c-1,aa⟩;have ek:(((e+1:Nat):Int)-1)=(e:Int):=aa;refine aP ?_;refine og 0 rfl rfl rfl (dX l _) (.cons .ptr .nil) .ptr (awE l j aa aa) rfl (dX l _) (fM.pure _) ?_;refine aT ?_;refine dH rfl (.iJ (d:=16) (news:=[b9 (sd l j)]) rfl rfl rfl rfl az (.inl rfl) an xW xW loZ T42 rfl B42 (.inl ⟨15,0,_,rfl,by decide,rfl,rfl,by simp,rfl,by simp[aN,fM.pure]⟩) bm bm an) ?_;refine ay ?_;refine bX (av.kill _ 15) ?_;refine aT ?_;refine ai rfl nv ?_;refine bw ?_;exact nN e (uh l j) (G++[sd l j]) ⟨aAe hl hj5,by simp;omega,by rw[wC];exact hV,hK⟩
 obtain rfl:c=0:=aa;rw[wF,eX]at hV;rw[lsJ]at hK;subst hV hK;refine bp ?_;exact ai4 [16] rfl rfl (eM fM rfl rfl az) rfl rfl (dX l _)
end Go.Proofs.YtbgmjcnjbhhljaaGreat
end
