/- Texts E1, E3, K1, K4, H1, V1, P1, H2, TW, K3, E2, G1, S1, S2, K5, K8, K9, K13, K2, K10, K7, K11, K14, K16, P3, P4, K17, K18, P5, K20, LgS, LgT, LgU, LgV, LgW, K21, K22, K25, K26, Y1 of this proof, joined. -/
import Derived.Test.YtlipjipfpkbppaaGreatQV4
set_option linter.unusedVariables false
set_option linter.unusedSimpArgs false
open And renaming intro->aF
open Array renaming ext_getElem?->y8,getD_eq_getD_getElem?->aM,getElem?_eq_some_iff->eB,getElem?_setIfInBounds_ne->bR,getElem?_setIfInBounds_self_of_lt->eh,mem_toList_iff->rN,replicate->gX
open Bool renaming and_eq_true->dG,not_eq_true->so,not_eq_true'->nH,or_eq_true->iy
open Classical renaming byContradiction->im
open Go.Proofs.Tryz renaming func211->adh,func28->aeu,prog->aa,underlying163->tF,underlying26->aV,underlying27->jG,underlying59->eI
open Int renaming emod_lt_of_pos->nB,emod_nonneg->nL,toNat_natCast->pQ
open List renaming all_eq_true->ie,append_assoc->nR,append_nil->aS,contains_iff_mem->gk,drop_zero->dY,foldl->lM,getD_cons_succ->acD,getD_cons_zero->aaB,getD_eq_getElem?_getD->ao,getElem?_eq_getElem->aB,getElem?_eq_none->px,getElem?_map->bU,getElem_mem->fY,length_cons->aQ,length_map->aA,length_nil->bc,length_replicate->mj,length_take->bZ,map->jt,map_congr_left->nS,map_nil->bh,map_take->lY,mem_append->eF,mem_cons->bp,mem_filterMap->nC,mem_map->bS,mem_range->my,mem_replicate->jE,mem_singleton->bD,mem_toArray->adN,nil_append->aR,not_mem_nil->cN,range->b9,replicate->ai,replicate_succ'->qO,replicate_zero->yu,set->lZ,set_cons_succ->aK,set_cons_zero->aN,take_add_one->nV,take_length->eZ,take_nil->aZ,take_of_length_le->aH
open Nat renaming add_assoc->fT,add_le_add->ace,add_sub_cancel->df,le_refl->an,le_trans->aw,lt_or_ge->cu,mul_le_mul->cx,mul_le_mul_right->bw,pow_le_pow_right->gg,pow_succ->dz,pow_zero->nI,reduceAdd->au,reduceBEq->aq,reduceEqDiff->aO,reduceMul->ar,sub_self->jy,sub_zero->adp,zero_add->cJ,zero_le->az
open Option renaming isNone_iff_eq_none->lT
open Option.some renaming injEq->bF
open Rat renaming add_nonneg->aa5,add_zero->fw,div_def->cj,intCast_add->yk,intCast_eq_zero_iff->ad6,intCast_le_intCast->tu,intCast_nonneg->rq,intCast_pos->ou,inv_mul_cancel->abI,inv_pos->vD,le_of_lt->dp,le_refl->dD,le_total->zL,le_trans->cA,mul_assoc->lU,mul_comm->iF,mul_inv_cancel->r8,mul_le_mul_of_nonneg_left->lS,mul_le_mul_of_nonneg_right->fM,mul_nonneg->cO,mul_one->iX,mul_pos->oL,mul_zero->pY,ne_of_gt->aea,not_lt->vd,one_mul->fN,zero_add->qG,zero_mul->fZ
section
set_option linter.unusedVariables false
set_option linter.unusedSimpArgs false
set_option maxHeartbeats 8000000
set_option maxRecDepth 100000
attribute [local irreducible] Go.Lg.opsL Go.Lg.wpL Go.Lg.thenL Go.Lg.blockL
namespace Go.Proofs.YtlipjipfpkbppaaGreat
open Go.Lg
end Go.Proofs.YtlipjipfpkbppaaGreat
namespace Go.Lg
theorem Weak.imm {L:St} {t:Nat} {x y:LV} (bs:List Nat) (h0:bs.contains 0=false) (h:L.slot t=x) (hi:Imm (L.frz bs).heap x y):Weak L ((L.frz bs).put (some t) y):=by
 rintro n W X Z0 a w ⟨bj,hsz,μ,Z,hc,hr⟩;obtain⟨Z1,k1,k2⟩:=hc.widen (frz_le bs h0);refine⟨bj,hsz,μ,Z1,by rw [put_heap];exact k1,fun s=>?_⟩;have aY:Frame Z μ w w:=⟨fun _ _=>rfl,fun _ id _ c _ _ hh=>⟨c,hh,rfl⟩⟩;have hs:=(hr s).mono k2 (fun _ _ h=>h) aY;rw [put_slot];split
 ·rename_i ba;subst ba;rw [h] at hs;exact RepV.of1 (LV.pure_ne_tup hi.lay.2.2) (hi.soundV k1 hs)
 exact hs
end Go.Lg
namespace Go.Proofs.YtlipjipfpkbppaaGreat
open Go.Lg
theorem sgn_pos {a:Rat} (h:0<a):sgnR a=1:=by unfold sgnR;rw [if_neg ay,if_neg ay]
theorem sgn_neg {a:Rat} (h:a<0):sgnR a=-1:=by unfold sgnR;rw [if_neg ay,if_pos h]
theorem sgn_cases (a:Rat):(a=0/\sgnR a=0)\/(0<a/\sgnR a=1)\/(a<0/\sgnR a=-1):=by
 by_cases h:a=0
 ·exact .inl ⟨h,by rw [h];rfl⟩
 by_cases h1:a<0
 ·exact .inr (.inr ⟨h1,sgn_neg h1⟩)
 have:0<a:=ay;exact .inr (.inl ⟨this,sgn_pos this⟩)
theorem quo64 {a b:Int} (h:b≠0) (h1:-9223372036854775808<=a.tdiv b) (h2:a.tdiv b<=9223372036854775807):binI .quo .i64 a b=some (.int .i64 (a.tdiv b)):=by
 simp only [binI];rw [if_neg h,IntWalk.i64_in _ ⟨h1,h2⟩]
def fE (a b:Rat):Nat->(Nat->Rat)->Rat
 | 0,f=>f 0
 | n+1,f=>fE a b n (fun i=>a*f i+b*f (i+1))
theorem fE_congr (a b:Rat):∀ (n:Nat) (f g:Nat->Rat),(∀ i,i<=n->f i=g i)->fE a b n f=fE a b n g
 | 0,f,g,h=>h 0 (an _)
 | n+1,f,g,h=>fE_congr a b n _ _ fun i hi=>by rw [h i J,h (i+1) J]
theorem fE_lin (a b c d:Rat):∀ (n:Nat) (f g:Nat->Rat),fE a b n (fun i=>c*f i+d*g i)=c*fE a b n f+d*fE a b n g
 | 0,f,g=>rfl
 | n+1,f,g=>by
  rw [fE,fE,fE,<-fE_lin a b c d n];congr 1;funext i;grind
theorem fE_step (a b:Rat) (n:Nat) (f:Nat->Rat):fE a b (n+1) f=a*fE a b n f+b*fE a b n (fun i=>f (i+1)):=fE_lin a b a b n f (fun i=>f (i+1))
theorem lo_fE (t:Rat):∀ (k:Nat) (q:List Rat),k<q.length->(loF t q.length q).getD k 0=fE (1-t) t k (fun i=>q.getD i 0)
 | 0,q,h=>by
  obtain⟨m,hm⟩:∃ m,q.length=m+1:=⟨q.length-1,J⟩;rw [hm];rfl
 | k+1,q,h=>by
  obtain⟨m,hm⟩:∃ m,q.length=m+1:=⟨q.length-1,J⟩;have hs:(stp t q).length=m:=by rw [stp_len];omega
  have:=lo_fE t k (stp t q) J;rw [hs] at this;rw [hm,loF,acD,this,fE];exact fE_congr _ _ _ _ _ fun i hi=>stp_get t q i J
theorem ev_fE {p:List Rat} {t:Rat} (h:0<p.length):evP p t=fE (1-t) t (p.length-1) (fun i=>p.getD i 0):=lo_fE t _ p J
theorem lo_sz {t:Rat} {C M:Nat} (hC:rl (1-t)+rl t+1<=C):∀ (k:Nat) (q:List Rat),q.length=k->(∀ x∈q,(rl x+C)*2 ^ k<=M)->∀ x∈loF t k q,rl x+C<=M
 | 0,q,_,_,x,hx=>by cases hx
 | k+1,q,hq,h,x,hx=>by
  rw [loF,bp] at hx;rcases hx with rfl | hx
  ·exact sz_rl (h _ (getD_mem J))
  exact lo_sz hC k (stp t q) (by rw [stp_len];omega) (stp_sz hC h) x hx
theorem hi_sz {t:Rat} {C M:Nat} (hC:rl (1-t)+rl t+1<=C):∀ (k:Nat) (q tl:List Rat),q.length=k->(∀ x∈q,(rl x+C)*2 ^ k<=M)->(∀ x∈tl,rl x+C<=M)->∀ x∈hiF t k q tl,rl x+C<=M
 | 0,q,tl,hq,_,h2,x,hx=>by
  obtain rfl:q=[]:=List.eq_nil_of_length_eq_zero hq;exact h2 x hx
 | k+1,q,tl,hq,h,h2,x,hx=>by
  refine hi_sz hC k (stp t q) _ (by rw [stp_len];omega) (stp_sz hC h) (fun y hy=>?_) x hx;rcases bp.1 hy with rfl | hy
  ·exact sz_rl (h _ (getD_mem J))
  exact h2 y hy
theorem HS.lo {p:List Rat} {t:Rat} (h:HS p t):∀ x∈loP p t,Go.Lg.rl x<=1073741824:=fun x hx=>by
 obtain⟨cc,h1,h2,h3⟩:=h;have:=lo_sz h1 p.length p rfl h3 x hx;omega
theorem HS.hi {p:List Rat} {t:Rat} (h:HS p t):∀ x∈hiP p t,Go.Lg.rl x<=1073741824:=fun x hx=>by
 obtain⟨cc,h1,h2,h3⟩:=h;have:=hi_sz h1 p.length p [] rfl h3 (fun y hy=>by cases hy) x hx;omega
theorem HS.ev {p:List Rat} {t:Rat} (h:HS p t):Go.Lg.rl (evP p t)<=1073741824:=getD_rl ae h.lo _
def partF (p:List Rat) (a b:Rat):List Rat:=if a=1 then loP (hiP p.reverse 0) ((1-b-0)/(1-0)) else loP (hiP p a) ((b-a)/(1-a))
def mnR (a b:Rat):Rat:=if b<a then b else a
def mxR (a b:Rat):Rat:=if a<b then b else a
def hulP (s:Rat × Rat) (t:Rat × Rat):Rat × Rat:=(mnR s.1 t.1,mxR s.2 t.2)
def bkP (p:List Rat):Nat->Rat × Rat
 | 0=>(0,0)
 | k+1=>hulP (if k=0 then(p.getD k 0,p.getD k 0) else bkP p k) (p.getD k 0,p.getD k 0)
def bndP (p:List Rat):Rat × Rat:=bkP p p.length
theorem mn_self (a:Rat):mnR a a=a:=by unfold mnR;split<;>rfl
theorem mx_self (a:Rat):mxR a a=a:=by unfold mxR;split<;>rfl
theorem mn_le (a b:Rat):mnR a b<=a/\mnR a b<=b/\(mnR a b=a\/mnR a b=b):=by unfold mnR;split<;>grind
theorem mx_ge (a b:Rat):a<=mxR a b/\b<=mxR a b/\(mxR a b=a\/mxR a b=b):=by unfold mxR;split<;>grind
theorem bk_spec (p:List Rat):∀ k,(∀ i,i<k->(bkP p k).1<=p.getD i 0/\p.getD i 0<=(bkP p k).2)/\(0<k->(∃ i,i<k/\(bkP p k).1=p.getD i 0)/\∃ i,i<k/\(bkP p k).2=p.getD i 0)
 | 0=>⟨fun i h=>by omega,fun h=>by omega⟩
 | k+1=>by
  obtain⟨h1,h2⟩:=bk_spec p k;rw [bkP];by_cases hk:k=0
  ·subst hk;rw [if_pos rfl];simp only [hulP,mn_self,mx_self];refine⟨fun i hi=>?_,fun _=>⟨⟨0,J,rfl⟩,⟨0,J,rfl⟩⟩⟩;obtain rfl:i=0:=J;exact⟨dD,dD⟩
  rw [if_neg hk];obtain⟨⟨i,hi,ei⟩,⟨j,hj,ej⟩⟩:=h2 J;have a:=mn_le (bkP p k).1 (p.getD k 0);have b:=mx_ge (bkP p k).2 (p.getD k 0);simp only [hulP];refine⟨fun x hx=>?_,fun _=>⟨?_,?_⟩⟩
  ·by_cases kL:x=k
   ·subst kL;exact⟨a.2.1,b.2.1⟩
   have:=h1 x J;exact⟨cA a.1 this.1,cA this.2 b.1⟩
  ·rcases a.2.2 with e | e
   ·exact⟨i,J,by rw [e,ei]⟩
   exact⟨k,J,e⟩
  rcases b.2.2 with e | e
  ·exact⟨j,J,by rw [e,ej]⟩
  exact⟨k,J,e⟩
theorem bk_rl {p:List Rat} {R:Nat} (hR:1<=R) (h:∀ k,rl (p.getD k 0)<=R):∀ k,rl (bkP p k).1<=R/\rl (bkP p k).2<=R
 | 0=>⟨hR,hR⟩
 | k+1=>by
  obtain⟨⟨i,_,ei⟩,⟨j,_,ej⟩⟩:=(bk_spec p (k+1)).2 J;rw [ei,ej];exact⟨h i,h j⟩
theorem getD_rl' {p:List Rat} {R:Nat} (hR:1<=R) (h:∀ x∈p,rl x<=R) (k:Nat):rl (p.getD k 0)<=R:=getD_rl hR h k
theorem cmpR_le {a b:Rat}:cmpR a b<=0↔a<=b:=by
 unfold cmpR;split
 ·rename_i h;exact⟨fun _=>dp h,fun _=>by decide⟩
 split
 ·rename_i h;exact⟨fun e=>absurd e ae,fun e=>absurd h (vd.2 e)⟩
 rename_i h;exact⟨fun _=>vd.1 h,fun _=>by decide⟩
def hasR (s:Rat × Rat) (x:Rat):Bool:=decide (s.1<=x) && decide (x<=s.2)
theorem has1 {s:Rat × Rat} {x:Rat} (h:decide (cmpR s.1 x<=0)=true):decide (cmpR x s.2<=0)=hasR s x:=by
 unfold hasR;rw [decide_eq_true (cmpR_le.1 (of_decide_eq_true h)),Bool.true_and,decide_eq_decide,cmpR_le]
theorem has2 {s:Rat × Rat} {x:Rat} (h:decide (cmpR s.1 x<=0)=false):false=hasR s x:=by
 unfold hasR;rw [decide_eq_false (fun e=>of_decide_eq_false h (cmpR_le.2 e)),Bool.false_and]
def ptD (n:Int):Int:=1+(n.tdiv 17) % 12
def ptV (n:Int):Rat:=((n % (ptD n+1):Int):Rat)/((ptD n:Int):Rat)
theorem ptD_bd (n:Int):1<=ptD n/\ptD n<=12:=by
 unfold ptD;have h1:=nL (n.tdiv 17) (show (12:Int)≠0 by decide);have h2:=nB (n.tdiv 17) (show (0:Int)<12 by decide);omega
theorem frac_ge {a b:Int} (ha:0<=a) (hb:0<b):(0:Rat)<=(a:Rat)/(b:Rat):=by
 rw [cj];exact cO (rq.2 ha) (dp (vD.2 (ou.2 hb)))
theorem frac_one {a b c:Int} (hc:0<c) (h:a+b=c):(a:Rat)/(c:Rat)+(b:Rat)/(c:Rat)=1:=by
 have h1:(c:Rat)≠0:=fun e=>by have:=ad6.1 e;omega
 rw [cj,cj,<-Rat.add_mul,<-yk,h,r8 _ h1]
theorem mix_in {m M a b x y:Rat} (ha:0<=a) (hb:0<=b) (aW:a+b=1) (hx:m<=x/\x<=M) (hy:m<=y/\y<=M):m<=a*x+b*y/\a*x+b*y<=M:=by
 have h1:=cO ha (show 0<=x-m by grind);have h2:=cO hb (show 0<=y-m by grind);have h3:=cO ha (show 0<=M-x by grind);have h4:=cO hb (show 0<=M-y by grind);have e1:b=1-a:=ay;subst e1;constructor<;>grind
def inR (m M:Rat) (l:List Rat):Prop:=∀ i,i<l.length->m<=l.getD i 0/\l.getD i 0<=M
theorem inR_stp {t m M:Rat} (h0:0<=t) (h1:t<=1) {p:List Rat} (h:inR m M p):inR m M (stp t p):=fun i hi=>by
 rw [stp_len] at hi;rw [stp_get t p i J];exact mix_in ay h0 ay (h i J) (h (i+1) J)
theorem inR_cons {m M x:Rat} {l:List Rat} (hx:m<=x/\x<=M) (h:inR m M l):inR m M (x :: l)
 | 0,_=>hx
 | i+1,hi=>h i (by simpa using hi)
theorem inR_lo {t m M:Rat} (h0:0<=t) (h1:t<=1):∀ (k:Nat) (p:List Rat),p.length=k->inR m M p->inR m M (loF t k p)
 | 0,_,_,_=>fun i hi=>by simp [loF] at hi
 | k+1,p,hp,h=>inR_cons (h 0 J) (inR_lo h0 h1 k (stp t p) (by rw [stp_len];omega) (inR_stp h0 h1 h))
theorem inR_bnd (p:List Rat):inR (bndP p).1 (bndP p).2 p:=fun i hi=>(bk_spec p p.length).1 i hi
theorem has_bnd {p:List Rat} {x:Rat} (h:(bndP p).1<=x/\x<=(bndP p).2):hasR (bndP p) x=true:=by
 unfold hasR;rw [decide_eq_true h.1,decide_eq_true h.2];rfl
theorem ptV_in (n:Int):0<=ptV n/\ptV n<=1:=by
 have hd:=ptD_bd n;have h1:=nL n (show ptD n+1≠0 by omega);have h2:=nB n (show (0:Int)<ptD n+1 by omega);have h3:=frac_ge (a:=n % (ptD n+1)) (b:=ptD n) h1 J;have h4:=frac_ge (a:=ptD n-n % (ptD n+1)) (b:=ptD n) J J;have h5:=frac_one (a:=n % (ptD n+1)) (b:=ptD n-n % (ptD n+1)) (c:=ptD n) J J;unfold ptV;exact⟨h3,by grind⟩
theorem ptV_rl (n:Int):rl (ptV n)<=1:=by
 have hd:=ptD_bd n;have h1:=nL n (show ptD n+1≠0 by omega);have h2:=nB n (show (0:Int)<ptD n+1 by omega);exact rl_ints J J
theorem ev_bnd {p:List Rat} {t:Rat} (h0:0<=t) (h1:t<=1) (h:0<p.length):hasR (bndP p) (evP p t)=true :=
 has_bnd (inR_lo h0 h1 _ p rfl (inR_bnd p) _ (by rw [loF_len];omega))
theorem bnd_rl {p:List Rat} {R:Nat} (hR:1<=R) (h:∀ x∈p,rl x<=R):rl (bndP p).1<=R/\rl (bndP p).2<=R:=bk_rl hR (getD_rl' hR h) p.length
open H0 in
theorem c_SOf (a b:Rat) (h:rl a+rl b<=549755813888):CallP aa 76 [ratL a,ratL b] (spL (mnR a b,mxR a b)):=by
 refine fnP Tryz.func76 ?_;refine zg8 ?_;refine wl_regD 7 ah ?_;refine zg2 ?_;refine cp am2 (c_RMin _ _ J) ?_;refine zg2 ?_;refine cp am2 (c_RMax _ _ J) ?_;refine zg5 ?_;exact iW
namespace H_c_SPoint
theorem zSm {p q:Prop} (k:q) (e:p=q:=by simp only [sNF,ar,au,aq,mn_self,mx_self];exact rfl):p:=e.mpr k
end H_c_SPoint
open H_c_SPoint in
theorem c_SPoint (a:Rat) (h:rl a+rl a<=549755813888):CallP aa 160 [ratL a] (spL (a,a)):=by
 refine fnP Tryz.func160 ?_;refine zg10 ?_;refine cp am2 (c_SOf _ _ J) ?_;refine zg4 ?_;exact iW
open H0 in
theorem c_SHull (s t:Rat × Rat) (h1:rl s.1+rl t.1<=549755813888) (h2:rl s.2+rl t.2<=549755813888):CallP aa 161 [spL s,spL t] (spL (hulP s t)):=by
 refine fnP Tryz.func161 ?_;refine zg8 ?_;refine wl_regD 11 ah ?_;refine zg4 ?_;refine cp am2 (c_RMin _ _ J) ?_;refine zg4 ?_;refine cp am2 (c_RMax _ _ J) ?_;refine zg5 ?_;exact iW
open H0 in
theorem c_FHas (s:Rat × Rat) (x:Rat) (h1:rl s.1+rl x<=34359738368) (h2:rl x+rl s.2<=34359738368):CallP aa 11 [spL s,ratL x] (bL (hasR s x)):=by
 refine fnP Tryz.func11 ?_;refine zg12 ?_;refine cp am2 (c_FRCmp _ _ J) ?_;refine zg2 ?_;refine op_if 10 rfl ?_ ?_<;>intro fB iN
 ·refine zg3 ?_;refine cp am2 (c_FRCmp _ _ J) ?_;refine zg6 ?_;rw [<-has1 fB];exact bf
 refine zg10 ?_;rw [<-has2 fB];exact bf
open H0 in
theorem c_MPart (n:Int) (hn:-9223372036854775808<=n/\n<=9223372036854775807):CallP aa 43 [iL n] (ratL (ptV n)):=by
 have hd:=ptD_bd n;have hq:(n.tdiv 17).natAbs=n.natAbs/17:=Int.natAbs_tdiv _ _;have hpd:ptD n=1+(n.tdiv 17) % 12:=rfl;have h1:=nL n (show ptD n+1≠0 by omega);have h2:=nB n (show (0:Int)<ptD n+1 by omega);refine fnP Tryz.func43 ?_;refine zg8 ?_;refine st_pure rfl (.bin rfl rfl (quo64 (a:=n) (b:=17) ae J J)) ?_;refine cp am2 (c_Mod (n.tdiv 17) 12 ae ae) ?_;refine st_pure rfl mo ?_;refine zg7 ?_;refine st_pure rfl (.bin rfl rfl (add64 (a:=ptD n) J J)) ?_;refine cp am2 (c_Mod n (ptD n+1) J J) ?_;refine zg1 ?_;refine cp am2 (c_FFrac (n % (ptD n+1)) (ptD n) J J J J J) ?_;refine zg4 ?_;exact cy
def v3a (p q:V3):V3:=⟨p.x+q.x,p.y+q.y,p.z+q.z⟩
def v3s (p q:V3):V3:=⟨p.x-q.x,p.y-q.y,p.z-q.z⟩
def v3m (r:Rat) (p:V3):V3:=⟨r*p.x,r*p.y,r*p.z⟩
def v3d (p q:V3):Rat:=0+p.x*q.x+p.y*q.y+p.z*q.z
def bd3 (R:Nat) (p:V3):Prop:=rl p.x<=R/\rl p.y<=R/\rl p.z<=R
theorem bd3.le {R S:Nat} {p:V3} (h:bd3 R p) (tv:R<=S):bd3 S p:=⟨aw h.1 tv,aw h.2.1 tv,aw h.2.2 tv⟩
theorem v3d_rl {R S:Nat} {p q:V3} (hp:bd3 R p) (hq:bd3 S q):rl (v3d p q)<=3*(R+S)+4:=by
 obtain⟨a1,a2,a3⟩:=hp;obtain⟨b1,b2,b3⟩:=hq;have h1:=rl_mul p.x q.x;have h2:=rl_mul p.y q.y;have h3:=rl_mul p.z q.z;have h4:=rl_add 0 (p.x*q.x);have h5:=rl_add (0+p.x*q.x) (p.y*q.y);have h6:=rl_add (0+p.x*q.x+p.y*q.y) (p.z*q.z);have h0:rl 0=1:=rfl;unfold v3d;omega
def okP (R:Nat) (q:PoR):Prop:=bd3 R q.p/\rl q.w<=R/\0<q.w
theorem ptL_kill (q:V3) (b:Nat):(ptL q).kill b=ptL q:=LV.kill_pure b _ (ptE.pure q)
theorem poL_kill (q:PoR) (b:Nat):(poL q).kill b=poL q:=LV.kill_pure b _ (poE.pure q)
theorem aX:type_of% (aF (@ptL_kill) (aF (@poL_kill) (aF (kills_map ptE) (aF (kills_map poE) (aF (kills_map ratE) (aF (@ratL_kill) (@spL_kill))))))):=aF (@ptL_kill) (aF (@poL_kill) (aF (kills_map ptE) (aF (kills_map poE) (aF (kills_map ratE) (aF (@ratL_kill) (@spL_kill))))))
namespace H_c_each
theorem zSm {p q:Prop} (k:q) (e:p=q:=by simp only [sNF,ar,au,aq,frz_nil];exact rfl):p:=e.mpr k
end H_c_each
open H_c_each in
theorem c_each (f:Nat) (g:Rat->Rat->Rat) (p q:V3) (h1:CallP aa f [ratL p.x,ratL q.x] (ratL (g p.x q.x))) (h2:CallP aa f [ratL p.y,ratL q.y] (ratL (g p.y q.y))) (h3:CallP aa f [ratL p.z,ratL q.z] (ratL (g p.z q.z))):CallP aa 253 [ptL p,ptL q,.clo f []] (ptL ⟨g p.x q.x,g p.y q.y,g p.z q.z⟩):=by
 refine fnP Tryz.func253 (ht:=(fun r=>LV.ren_pure r _ (ptE.pure _))) ?_;refine zg19 ?_;refine iR ?_;refine wl_regD 10 ah ?_;refine zg8 ?_;refine st_opc [] rfl rfl (.clo (f:=f) (cap:=[]) (args:=[ratL p.x,ratL q.x]) rfl (.cons im0 (.cons im0 .nil)) ⟨rfl,fun _ h=>by cases h⟩ h1.1 ae (fun _ h=>by cases h)) (h1.2 _) ?_;refine zg10 ?_;refine iR ?_;refine wl_regD 10 ah ?_;refine zg8 ?_;refine st_opc [] rfl rfl (.clo (f:=f) (cap:=[]) (args:=[ratL p.y,ratL q.y]) rfl (.cons im0 (.cons im0 .nil)) ⟨rfl,fun _ h=>by cases h⟩ h2.1 ae (fun _ h=>by cases h)) (h2.2 _) ?_;refine zg10 ?_;refine iR ?_;refine wl_regD 10 ah ?_;refine zg8 ?_;refine st_opc [] rfl rfl (.clo (f:=f) (cap:=[]) (args:=[ratL p.z,ratL q.z]) rfl (.cons im0 (.cons im0 .nil)) ⟨rfl,fun _ h=>by cases h⟩ h3.1 ae (fun _ h=>by cases h)) (h3.2 _) ?_;refine zg10 ?_;refine km ?_;refine zg12 ?_;exact nh
open H0 in
theorem c_VAdd (p q:V3) (R:Nat) (hR:R<=100000000000) (hp:bd3 R p) (hq:bd3 R q):CallP aa 227 [ptL p,ptL q] (ptL (v3a p q)):=by
 obtain⟨a1,a2,a3⟩:=hp;obtain⟨b1,b2,b3⟩:=hq;refine fnP Tryz.func227 (ht:=(fun r=>LV.ren_pure r _ (ptE.pure _))) ?_;refine zg11 ?_;refine cp am3 (c_each 113 (·+·) p q (c_RAdd _ _ J) (c_RAdd _ _ J) (c_RAdd _ _ J)) ?_;refine zg4 ?_;exact nh
open H0 in
theorem c_FDot (p q:V3) (R:Nat) (hR:R<=1000000000) (hp:bd3 R p) (hq:bd3 R q):CallP aa 275 [ptL p,ptL q] (ratL (v3d p q)):=by
 obtain⟨a1,a2,a3⟩:=hp;obtain⟨b1,b2,b3⟩:=hq;have m1:=rl_mul p.x q.x;have m2:=rl_mul p.y q.y;have m3:=rl_mul p.z q.z;have s1:=rl_add 0 (p.x*q.x);have s2:=rl_add (0+p.x*q.x) (p.y*q.y);have hz0:rl 0=1:=rfl;refine fnP Tryz.func275 ?_;refine zg19 ?_;refine oW ?_;refine cp am2 (c_FRMul p.x q.x J) ?_;refine cp am2 (c_FRAdd 0 (p.x*q.x) J) ?_;refine zg10 ?_;refine oW ?_;refine cp am2 (c_FRMul p.y q.y J) ?_;refine cp am2 (c_FRAdd (0+p.x*q.x) (p.y*q.y) J) ?_;refine zg10 ?_;refine oW ?_;refine cp am2 (c_FRMul p.z q.z J) ?_;refine cp am2 (c_FRAdd (0+p.x*q.x+p.y*q.y) (p.z*q.z) J) ?_;refine zg10 ?_;refine qS ?_;refine zg12 ?_;exact cy
open H0 in
theorem c_FVSub (p q:V3) (R:Nat) (hR:R<=1000000000) (hp:bd3 R p) (hq:bd3 R q):CallP aa 71 [ptL p,ptL q] (ptL (v3s p q)):=by
 obtain⟨a1,a2,a3⟩:=hp;obtain⟨b1,b2,b3⟩:=hq;refine fnP Tryz.func71 (ht:=(fun r=>LV.ren_pure r _ (ptE.pure _))) ?_;refine zg14 ?_;refine oW ?_;refine cp am2 (c_FRSub p.x q.x J) ?_;refine zg11 ?_;refine oW ?_;refine cp am2 (c_FRSub p.y q.y J) ?_;refine zg11 ?_;refine oW ?_;refine cp am2 (c_FRSub p.z q.z J) ?_;refine zg11 ?_;refine qS ?_;refine zg12 ?_;exact nh
open H0 in
theorem c_FVAdd (p q:V3) (R:Nat) (hR:R<=1000000000) (hp:bd3 R p) (hq:bd3 R q):CallP aa 65 [ptL p,ptL q] (ptL (v3a p q)):=by
 obtain⟨a1,a2,a3⟩:=hp;obtain⟨b1,b2,b3⟩:=hq;refine fnP Tryz.func65 (ht:=(fun r=>LV.ren_pure r _ (ptE.pure _))) ?_;refine zg14 ?_;refine oW ?_;refine cp am2 (c_FRAdd p.x q.x J) ?_;refine zg11 ?_;refine oW ?_;refine cp am2 (c_FRAdd p.y q.y J) ?_;refine zg11 ?_;refine oW ?_;refine cp am2 (c_FRAdd p.z q.z J) ?_;refine zg11 ?_;refine qS ?_;refine zg12 ?_;exact nh
open H0 in
theorem c_FVScale (r:Rat) (p:V3) (R:Nat) (hR:R<=1000000000) (hr:rl r<=R) (hp:bd3 R p):CallP aa 126 [ratL r,ptL p] (ptL (v3m r p)):=by
 obtain⟨a1,a2,a3⟩:=hp;refine fnP Tryz.func126 (ht:=(fun r=>LV.ren_pure r _ (ptE.pure _))) ?_;refine zg14 ?_;refine lK ?_;refine wl_regD 7 ah ?_;refine zg5 ?_;refine cp am2 (c_FRMul r p.x J) ?_;refine zg11 ?_;refine lK ?_;refine wl_regD 7 ah ?_;refine zg5 ?_;refine cp am2 (c_FRMul r p.y J) ?_;refine zg11 ?_;refine lK ?_;refine wl_regD 7 ah ?_;refine zg5 ?_;refine cp am2 (c_FRMul r p.z J) ?_;refine zg11 ?_;refine qS ?_;refine zg12 ?_;exact nh
theorem cmpR_ge {a b:Rat}:0<=cmpR a b↔b<=a:=by
 unfold cmpR;constructor
 ·intro h;split at h
  ·exact absurd h ae
  grind
 intro h;split
 ·exfalso;grind
 split<;>decide
end Go.Proofs.YtlipjipfpkbppaaGreat
namespace Go.Lg
theorem callP_own {P:Program} {f:FuncId} {args:List LV} {sz n:Nat} {vals:List LV} {mt:Bool} (h:CallOK P f args (.ref 1 sz 0 n) [⟨sz,vals,mt⟩]) (hp:pures vals=true) (hn:vals.length=n):CallP P f args (.list sz vals):=by
 refine⟨⟨h.1,fun W Z0 vs hz hr=>Calls.mono (h.2 W Z0 vs hz hr) (fun e w'=>?_)⟩,fun g=>LV.ren_pure g _ (by simp [LV.pure,hp])⟩;rintro⟨v,μ,Z,he,hc,hv⟩;have hle:Heap.le (outHeap [⟨sz,vals,mt⟩]) (outHeap [⟨sz,vals,false⟩]):=fun b blk hb=>by
  unfold outHeap at hb ⊢;by_cases h0:b=0
  ·rw [if_pos h0] at hb;cases hb
  rw [if_neg h0] at hb;rcases cu (b-1) 1 with h1 | h1
  ·have e:b-1=0:=J;rw [e] at hb;simp only [List.getElem?_cons_zero,bF] at hb;subst hb;exact⟨false,by rw [if_neg h0,e];rfl,fun _=>rfl,fun _ _=>h0⟩
  rw [px (by simpa using h1)] at hb;cases hb
 obtain⟨Z1,k1,k2⟩:=hc.widen hle;have aY:Frame Z μ w' w':=⟨fun _ _=>rfl,fun _ id _ c _ _ hh=>⟨c,hh,rfl⟩⟩;have kI:=hv.mono k2 (fun _ _ h=>h) aY;have hi:Imm (outHeap [⟨sz,vals,false⟩]) (.ref 1 sz 0 n) (.list sz vals):=by
  have:=Imm.ref (H:=outHeap [⟨sz,vals,false⟩]) (b:=1) (off:=0) (len:=n) (blk:=⟨sz,vals,false⟩) rfl rfl hp (by simp [hn]) rfl;simpa [<-hn] using this
 refine⟨v,drop1 μ 1,Z1,he,?_,RepV.of1 (fun l h=>by cases h) (hi.soundV k1 kI)⟩;have kk:=Core.kill (L:=⟨fun _=>.any,outHeap [⟨sz,vals,false⟩]⟩) 1 ae k1;refine kk.reheap fun b id hb=>?_;have mT:b≠1:=fun e=>by rw [e] at hb;simp [drop1] at hb
 have nN:μ b=some id:=by unfold drop1 at hb;split at hb<;>first | exact hb | cases hb
 obtain⟨blk,g1,_⟩:=k1.heap b id nN;unfold outHeap at g1;split at g1
 ·cases g1
 rw [px al] at g1;cases g1
end Go.Lg
namespace Go.Proofs.YtlipjipfpkbppaaGreat
open Go.Lg
theorem c_copiedP (p:List Rat) (hl:p.length<=1048576) (dC:∀ x∈p,rl x<=274877906944):CallP aa 193 [.list 3 (p.map ratL)] (.list 3 (p.map ratL)) :=
 callP_own (c_copiedO p hl dC) (pures_map ratE _) aj
def lifV (p:List Rat) (i:Nat):Rat:=(if 0<i then((i:Int):Rat)/((p.length:Int):Rat)*p.getD (i-1) 0 else 0)+(if i<p.length then(((p.length:Int)-(i:Int):Int):Rat)/((p.length:Int):Rat)*p.getD i 0 else 0)
def lifP (p:List Rat):List Rat:=(b9 (p.length+1)).map (lifV p)
def itL:Nat->List Rat->List Rat
 | 0,p=>p
 | k+1,p=>itL k (lifP p)
def upP (p:List Rat) (n:Nat):List Rat:=itL (n+1-p.length) p
theorem lifP_len (p:List Rat):(lifP p).length=p.length+1:=by simp [lifP]
theorem lifP_get {p:List Rat} {i:Nat} (h:i<p.length+1):(lifP p).getD i 0=lifV p i:=by
 rw [ao,aB (by rw [lifP_len];exact h)];simp [lifP]
theorem itL_len:∀ (k:Nat) (p:List Rat),(itL k p).length=p.length+k
 | 0,p=>rfl
 | k+1,p=>by rw [itL,itL_len k,lifP_len];omega
theorem upP_len {p:List Rat} {n:Nat} (h:p.length<=n+1):(upP p n).length=n+1:=by rw [upP,itL_len];omega
theorem lifV_tt {p:List Rat} {i:Nat} (h0:0<i) (h1:i<p.length):lifV p i=((i:Int):Rat)/((p.length:Int):Rat)*p.getD (i-1) 0+(((p.length:Int)-(i:Int):Int):Rat)/((p.length:Int):Rat)*p.getD i 0:=by
 rw [lifV,if_pos h0,if_pos h1]
theorem lifV_tf {p:List Rat} {i:Nat} (h0:0<i) (h1:¬ i<p.length):lifV p i=((i:Int):Rat)/((p.length:Int):Rat)*p.getD (i-1) 0:=by
 rw [lifV,if_pos h0,if_neg h1,fw]
theorem lifV_ft {p:List Rat} {i:Nat} (h0:¬ 0<i) (h1:i<p.length):lifV p i=(((p.length:Int)-(i:Int):Int):Rat)/((p.length:Int):Rat)*p.getD i 0:=by
 rw [lifV,if_neg h0,if_pos h1,qG]
def upS (p:List Rat) (n:Nat):Prop:=(∀ x∈p,rl x<=1073741824)/\∀ k,p.length+k<=n+1->∀ x∈itL k p,rl x<=1073741824
theorem upS_rl {p:List Rat} {n:Nat} (h:upS p n) (k:Nat):rl (p.getD k 0)<=1073741824:=getD_rl ae h.1 k
theorem upS_step {p:List Rat} {n:Nat} (hl:p.length<=n) (h:upS p n):upS (lifP p) n:=⟨h.2 1 J,fun k hk=>h.2 (k+1) (by rw [lifP_len] at hk;omega)⟩
theorem upP_self {p:List Rat} {n:Nat} (h:n+1<=p.length):upP p n=p:=by rw [upP,show n+1-p.length=0 by omega];rfl
theorem itL_step {p:List Rat} {n:Nat} (h:p.length<=n):itL (n+1-(lifP p).length) (lifP p)=itL (n+1-p.length) p:=by
 rw [show n+1-p.length=(n+1-(lifP p).length)+1 by rw [lifP_len];omega];rfl
def zipG (g:Rat->Rat->Rat) (a b:List Rat):List Rat:=(b9 a.length).map fun i=>g (a.getD i 0) (b.getD i 0)
theorem zipG_len (g:Rat->Rat->Rat) (a b:List Rat):(zipG g a b).length=a.length:=by simp [zipG]
theorem zipG_get {g:Rat->Rat->Rat} {a b:List Rat} {i:Nat} (h:i<a.length):(zipG g a b).getD i 0=g (a.getD i 0) (b.getD i 0):=by
 rw [ao,aB (by rw [zipG_len];exact h)];simp [zipG]
namespace H_c_up
theorem zSm {p q:Prop} (k:q) (e:p=q:=by simp only [sNF,ar,au,aq,dfq,List.length_set,List.set_set,w7,xF,yH,Rat.zero_add,kills_map ratE,ratL_kill,LV.kill,kills];exact rfl):p:=e.mpr k
end H_c_up
open H_c_up in
theorem c_up (p:List Rat) (n:Nat) (rJ:0<p.length) (hn:n<=1000) (hl:p.length<=1001) (hs:upS p n):CallP aa 287 [.list 3 (p.map ratL),nI64 n] (.list 3 ((upP p n).map ratL)):=by
 refine fnP Tryz.func287 ?_;have w7:True:=trivial;have xF:True:=trivial;have yH:True:=trivial;refine zg8 ?_;refine cp am1 (c_copiedP p J (fun x hx=>by have:=upS_rl hs;have h9:=List.getElem_of_mem hx;obtain⟨k,hk,rfl⟩:=h9;have h8:=this k;rw [ao,aB hk] at h8;exact aw h8 ae)) ?_;refine zg5 ?_;refine lp1 (fun(o:List Rat) L=>(mS L [] [(5,.list 3 (o.map ratL)),(1,nI64 n)])) (fun o=>0<o.length/\o.length<=1001/\upS o n/\itL (n+1-o.length) o=upP p n) (fun o=>n+1-o.length) p ⟨rJ,hl,hs,rfl⟩ ?_;rintro o L1 ⟨zw,aP,yV,hit⟩;refine zg7 ?_;refine op_if 18 rfl ?_ ?_<;>intro jU kg
 ·refine zg7 ?_;refine wl_if rfl ?_ ?_<;>intro lC kt
  ·have hon:o.length<=n:=J;refine zg13 ?_;refine cG ?_;refine st_alloc rfl rfl (.mkE (n:=(o.length+1)) (m:=(o.length+1)) ml ml om om om) ?_;refine zg12 ?_;refine lp2 (fun(i:Nat) (w:List Rat) L=>(mS L [(28,⟨3,w.map ratL,true⟩)] [(31,nI64 i),(30,nI64 (o.length+1)),(29,.ref 28 3 0 (o.length+1)),(7,.ref 28 3 0 (o.length+1)),(6,nI64 o.length),(5,.list 3 (o.map ratL)),(1,nI64 n)])) (fun i w=>i<=o.length+1/\w.length=o.length+1/\w.take i=(lifP o).take i/\∀ x,i<=x->w.getD x 0=0) (fun i w=>o.length+1-i) 0 (ai (o.length+1) 0) ⟨az _,by simp,rfl,fun x _=>by simp [ao,List.getElem?_replicate];split<;>rfl⟩ ?_;rintro i w L2 ⟨hi,cS,iM,hz⟩;refine zg6 ?_;refine wl_if rfl ?_ ?_<;>intro uB h32
   ·have hi2:i<o.length+1:=J;have nA:=rl_ints (n:=(i:Int)) (d:=(o.length:Int)) J J;have gD:=rl_ints (n:=(o.length:Int)-(i:Int)) (d:=(o.length:Int)) J J;have bG:=upS_rl yV (i-1);have ir:=upS_rl yV i;have ja:=rl_mul (((i:Int):Rat)/((o.length:Int):Rat)) (o.getD (i-1) 0);have cL:=rl_mul ((((o.length:Int)-(i:Int):Int):Rat)/((o.length:Int):Rat)) (o.getD i 0);have w7:=fun v=>set_get_self (o:=w) (i:=i) (v:=v) J;have xF:=hz i (an _);have yH:((i:Int)-1).toNat=i-1:=J;have fH:rl 0=1:=rfl;refine zg17 ?_;refine wl_if rfl ?_ ?_<;>intro nx nT
    ·have jY:0<i:=J;refine zg4 ?_;refine cp am2 (c_RMake (i:Int) (o.length:Int) J J J J J) ?_;refine zg8 ?_;refine wl_regD 10 ah ?_;refine zg8 ?_
     try simp only [t1,dfq,yH]
     refine cp am2 (c_RMul _ _ J) ?_;refine zg12 ?_;refine wl_if rfl ?_ ?_<;>intro ae0 h55
     ·have kG:i<o.length:=J;refine zg4 ?_;refine st_pure rfl kA ?_;refine zg1 ?_;refine cp am2 (c_RMake ((o.length:Int)-(i:Int)) (o.length:Int) J J J J J) ?_;refine zg8 ?_;refine wl_regD 14 ah ?_;refine zg11 ?_
      try simp only [t1,dfq]
      refine cp am2 (c_RMul _ _ J) ?_
      try simp only [t1,dfq,cJ,w7,xF]
      refine cp am2 (c_RAdd _ _ J) ?_;refine zg5 ?_;refine wl_regW ((Weak.kill _ 9).trans (Weak.kill _ 11)) ?_;refine zg4 ?_;exact nx2 (i+1) (w.set i (((i:Int):Rat)/((o.length:Int):Rat)*o.getD (i-1) 0+(((o.length:Int)-(i:Int):Int):Rat)/((o.length:Int):Rat)*o.getD i 0)) ⟨J,by simp [cS],set_takeR (by rw [lifP_len];omega) (by rw [lifP_len];omega) iM (by rw [lifP_get J,lifV_tt jY kG]),fun x hx=>by rw [set_getD _ _ _ _ J,if_neg J];exact hz x J⟩
     have kG:¬ i<o.length:=J;refine zg3 ?_;refine wl_regW ((Weak.kill _ 9).trans (Weak.kill _ 11)) ?_;refine zg4 ?_;exact nx2 (i+1) (w.set i (((i:Int):Rat)/((o.length:Int):Rat)*o.getD (i-1) 0)) ⟨J,by simp [cS],set_takeR (by rw [lifP_len];omega) (by rw [lifP_len];omega) iM (by rw [lifP_get J,lifV_tf jY kG]),fun x hx=>by rw [set_getD _ _ _ _ J,if_neg J];exact hz x J⟩
    have jY:¬ 0<i:=J;refine zg10 ?_;refine wl_if rfl ?_ ?_<;>intro ae0 h55
    ·have kG:i<o.length:=J;refine zg4 ?_;refine st_pure rfl kA ?_;refine zg1 ?_;refine cp am2 (c_RMake ((o.length:Int)-(i:Int)) (o.length:Int) J J J J J) ?_;refine zg8 ?_;refine wl_regD 14 ah ?_;refine zg11 ?_
     try simp only [t1,dfq]
     refine cp am2 (c_RMul _ _ J) ?_
     try simp only [t1,dfq,cJ,w7,xF]
     refine cp am2 (c_RAdd _ _ J) ?_;refine zg5 ?_;refine wl_regW ((Weak.kill _ 9).trans (Weak.kill _ 11)) ?_;refine zg4 ?_;exact nx2 (i+1) (w.set i ((((o.length:Int)-(i:Int):Int):Rat)/((o.length:Int):Rat)*o.getD i 0)) ⟨J,by simp [cS],set_takeR (by rw [lifP_len];omega) (by rw [lifP_len];omega) iM (by rw [lifP_get J,lifV_ft jY kG]),fun x hx=>by rw [set_getD _ _ _ _ J,if_neg J];exact hz x J⟩
    have kG:¬ i<o.length:=J;refine zg3 ?_;refine wl_regW ((Weak.kill _ 9).trans (Weak.kill _ 11)) ?_;refine zg4 ?_;exact nx2 (i+1) w (False.elim J)
   obtain rfl:i=o.length+1:=J;have hE:w=lifP o:=by
    rw [aH J,aH (by rw [lifP_len];omega)] at iM;exact iM
   subst hE;refine zg5 ?_;refine wl_regW ((Weak.imm (t:=7) [28] rfl rfl (imm_refm ratE rfl rfl (by rw [lifP_len]))).trans (Weak.kill _ 28)) ?_;refine zg5 ?_;exact nx1 (lifP o) ⟨by rw [lifP_len];omega,by rw [lifP_len];omega,upS_step J yV,by rw [itL_step J];exact hit⟩ (hm:=by rw [lifP_len];omega)
  refine zg12 ?_;have hE:upP p n=o:=by rw [<-hit,show n+1-o.length=0 by omega];rfl
  rw [hE];exact bf
 refine zg20 ?_;have hE:upP p n=o:=by rw [<-hit,show n+1-o.length=0 by omega];rfl
 rw [hE];exact bf
def gH (a b:Rat):Nat->(Nat->Rat)->Rat
 | 0,f=>f 0
 | n+1,f=>f 0*a ^ (n+1)+b*gH a b n (fun k=>f (k+1))
theorem gH_add (a b:Rat):∀ (n:Nat) (f g:Nat->Rat),gH a b n (fun k=>f k+g k)=gH a b n f+gH a b n g
 | 0,f,g=>rfl
 | n+1,f,g=>by rw [gH,gH,gH,gH_add a b n];grind
theorem gH_mul (a b c:Rat):∀ (n:Nat) (f:Nat->Rat),gH a b n (fun k=>c*f k)=c*gH a b n f
 | 0,f=>rfl
 | n+1,f=>by rw [gH,gH,gH_mul a b c n];grind
theorem gH_tail (a b:Rat):∀ (n:Nat) (f:Nat->Rat),f (n+1)=0->gH a b (n+1) f=a*gH a b n f
 | 0,f,h=>by
  show f 0*a ^ 1+b*f 1=a*f 0;rw [h];grind
 | n+1,f,h=>by
  rw [gH,gH_tail a b n (fun k=>f (k+1)) h,gH];grind
theorem gH_tails (a b:Rat) (f:Nat->Rat) (m:Nat) (h:∀ k,m<k->f k=0):∀ n,gH a b (m+n) f=a ^ n*gH a b m f
 | 0=>by simp
 | n+1=>by
  rw [<-fT,gH_tail a b (m+n) f (h _ J),gH_tails a b f m h n];grind
theorem gH_sr (a b:Rat) (n:Nat) (f:Nat->Rat):gH a b (n+1) (fun k=>if k=0 then 0 else f (k-1))=b*gH a b n f:=by
 rw [gH,if_pos rfl];have:(fun k=>if k+1=0 then 0 else f (k+1-1))=f:=by funext k;rw [if_neg J];rfl
 rw [this];grind
def cR (n k:Nat):Rat:=((chs n k:Nat):Int)
theorem cR_pas (n k:Nat):cR (n+1) k=cR n k+(if k=0 then 0 else cR n (k-1)):=by
 unfold cR
 cases k with
 | zero=>rw [chs_zero,chs_zero,if_pos rfl,fw]
 | succ k =>
  rw [if_neg J,chs,<-yk];congr 1;rw [show k+1-1=k from rfl];omega
theorem fE_gH (a b:Rat):∀ (n:Nat) (f:Nat->Rat),fE a b n f=gH a b n (fun k=>cR n k*f k)
 | 0,f=>by
  show f 0=cR 0 0*f 0;rw [show cR 0 0=1 from rfl,fN]
 | n+1,f=>by
  have e:(fun k=>cR (n+1) k*f k)=fun k=>(fun k=>cR n k*f k) k+(fun k=>if k=0 then 0 else(fun j=>cR n j*f (j+1)) (k-1)) k:=by
   funext k;show cR (n+1) k*f k=cR n k*f k+(if k=0 then 0 else cR n (k-1)*f (k-1+1));rw [cR_pas];by_cases h:k=0
   ·rw [if_pos h,if_pos h];grind
   rw [if_neg h,if_neg h,show k-1+1=k by omega];grind
  have hz:cR n (n+1)=0:=by unfold cR;rw [chs_gt J];rfl
  have h2:=gH_sr a b n (fun j=>cR n j*f (j+1));rw [e,gH_add,h2,gH_tail _ _ _ _ (by show cR n (n+1)*f (n+1)=0;rw [hz,fZ]),fE_step,fE_gH a b n f,fE_gH a b n (fun i=>f (i+1))]
def sq (p:List Rat) (k:Nat):Rat:=cR (p.length-1) k*p.getD k 0
theorem sq_gt {p:List Rat} {k:Nat} (h:p.length<=k):sq p k=0:=by unfold sq;rw [ge_zero h,pY]
theorem ev_gH {p:List Rat} {t:Rat} (h:0<p.length):evP p t=gH (1-t) t (p.length-1) (sq p):=by rw [ev_fE h,fE_gH];rfl
theorem cR_ne {n k:Nat} (h:k<=n):cR n k≠0:=by
 have:=chs_pos h;exact fun e=>by have:=ad6.1 e;omega
def sm:Nat->(Nat->Rat)->Rat
 | 0,_=>0
 | n+1,f=>sm n f+f n
theorem sm_congr:∀ (n:Nat) (f g:Nat->Rat),(∀ i,i<n->f i=g i)->sm n f=sm n g
 | 0,_,_,_=>rfl
 | n+1,f,g,h=>by rw [sm,sm,sm_congr n f g (fun i hi=>h i J),h n J]
theorem sm_add:∀ (n:Nat) (f g:Nat->Rat),sm n (fun i=>f i+g i)=sm n f+sm n g
 | 0,_,_=>by show (0:Rat)=0+0;grind
 | n+1,f,g=>by rw [sm,sm,sm,sm_add n];grind
theorem sm_head:∀ (n:Nat) (f:Nat->Rat),sm (n+1) f=f 0+sm n (fun i=>f (i+1))
 | 0,f=>by show 0+f 0=f 0+0;grind
 | n+1,f=>by rw [sm,sm_head n f,sm];grind
theorem sm_zero (n:Nat) (f:Nat->Rat) (h:∀ i,i<n->f i=0):sm n f=0:=by
 induction n with
 | zero=>rfl
 | succ n ih=>rw [sm,ih (fun i hi=>h i J),h n J];exact fw 0
theorem sm_ext (n:Nat) (f:Nat->Rat) (h:∀ i,n<=i->f i=0):∀ m,sm (n+m) f=sm n f
 | 0=>rfl
 | m+1=>by rw [<-fT,sm,sm_ext n f h m,h _ J];grind
def cf (f g:Nat->Rat) (k:Nat):Rat:=sm (k+1) fun i=>f i*g (k-i)
theorem cf_head (f g:Nat->Rat) (k:Nat):cf f g k=f 0*g k+(if k=0 then 0 else cf (fun i=>f (i+1)) g (k-1)):=by
 unfold cf;rw [sm_head,adp]
 cases k with
 | zero=>rfl
 | succ k =>
  rw [if_neg J];congr 1;refine sm_congr _ _ _ fun i hi=>?_;rw [show k+1-(i+1)=k+1-1-i by omega]
theorem gH_cf (a b:Rat) (g:Nat->Rat) (m:Nat) (hg:∀ k,m<k->g k=0):∀ (n:Nat) (f:Nat->Rat),(∀ k,n<k->f k=0)->gH a b (m+n) (cf f g)=gH a b n f*gH a b m g
 | 0,f,hf=>by
  have e:cf f g=fun k=>f 0*g k:=by
   funext k;rw [cf,sm_head,sm_zero _ _ (fun i _=>by rw [hf (i+1) J,fZ]),fw,adp]
  rw [e,gH_mul];rfl
 | n+1,f,hf=>by
  have e:cf f g=fun k=>(fun k=>f 0*g k) k+(fun k=>if k=0 then 0 else cf (fun i=>f (i+1)) g (k-1)) k:=by funext k;exact cf_head f g k
  rw [e,gH_add,gH_mul,<-fT,gH_sr,gH_cf a b g m hg n _ (fun k hk=>hf _ J),fT,gH_tails a b g m hg (n+1),gH];grind
theorem arch (x:Rat):∃ n:Nat,x<((n:Int):Rat):=by
 refine⟨(x.floor+1).toNat,?_⟩;have h:=Rat.lt_floor_add_one x;have h2:x.floor+1<=(((x.floor+1).toNat:Nat):Int):=J;have h3:((x.floor+1:Int):Rat)<=((((x.floor+1).toNat:Nat):Int):Rat):=tu.2 h2;have h4:((x.floor+1:Int):Rat)=(x.floor:Rat)+1:=by rw [yk];rfl
 grind
theorem mvi {g:Rat->Rat} {a b m C:Rat} (aW:a<=b) (h:∀ s d,a<=s->0<=d->s+d<=b->g s+(m*d-C*(d*d))<=g (s+d)):g a+m*(b-a)<=g b:=by
 have steps:∀ n:Nat,0<n->g a+m*(b-a)-C*((b-a)*(b-a))/((n:Int):Rat)<=g b:=by
  intro n hn;have tN:(0:Rat)<((n:Int):Rat):=ou.2 J;obtain⟨N,hN⟩:∃ N:Rat,N=((n:Int):Rat):=⟨_,rfl⟩;rw [<-hN] at tN ⊢;obtain⟨d,hd⟩:∃ d:Rat,d=(b-a)/N:=⟨_,rfl⟩;have hdN:N*d=b-a:=by rw [hd];grind
  have dt:0<=d:=by
   rw [hd,cj];exact cO ay (dp (vD.2 tN))
  have key:∀ k:Nat,k<=n->g a+((k:Int):Rat)*(m*d-C*(d*d))<=g (a+((k:Int):Rat)*d):=by
   intro k
   induction k with
   | zero =>
    intro _;have e1:g a+(((0:Nat):Int):Rat)*(m*d-C*(d*d))=g a:=by simp [fw,fZ]
    have e2:a+(((0:Nat):Int):Rat)*d=a:=by simp [fw,fZ]
    rw [e1,e2];exact dD
   | succ k ih =>
    intro hk;have h1:=ih J;have hkc:(((k+1:Nat):Int):Rat)=((k:Int):Rat)+1:=by push_cast;rfl
    have ew:(0:Rat)<=((k:Int):Rat):=rq.2 J;have yl:(((k+1:Nat):Int):Rat)<=N:=by rw [hN];exact tu.2 J
    have h2:=h (a+((k:Int):Rat)*d) d (by have:=cO ew dt;grind) dt (by
     have:=fM yl dt;rw [hkc] at this;grind)
    rw [hkc];have e:a+((k:Int):Rat)*d+d=a+(((k:Int):Rat)+1)*d:=ay;rw [e] at h2;grind
  have:=key n (an _);rw [<-hN] at this;have e1:a+N*d=b:=ay;rw [e1] at this;have e2:C*((b-a)*(b-a))/N=N*(C*(d*d)):=by
   rw [<-hdN];grind
  rw [e2];have e3:N*(m*d-C*(d*d))=m*(b-a)-N*(C*(d*d)):=by rw [<-hdN];grind
  grind
 refine im fun hc=>?_;obtain⟨X,hX⟩:∃ X:Rat,X=g a+m*(b-a)-g b:=⟨_,rfl⟩;have hX0:0<X:=ay;obtain⟨n,hn⟩:=arch (C*((b-a)*(b-a))/X);have eW:=steps (n+1) J;obtain⟨K,hK⟩:∃ K:Rat,K=C*((b-a)*(b-a)):=⟨_,rfl⟩;rw [<-hK] at hn eW;obtain⟨N,hN⟩:∃ N:Rat,N=((((n+1:Nat)):Int):Rat):=⟨_,rfl⟩;have zH:0<N:=by rw [hN];exact ou.2 J
 have hnN:((n:Int):Rat)<=N:=by rw [hN];exact tu.2 J
 rw [<-hN] at eW;have h1:K<N*X:=by
  have h2:K/X<N:=ay;have h3:=Rat.mul_lt_mul_of_pos_right h2 hX0;have h4:K/X*X=K:=ay;grind
 have h2:K/N<X:=by
  have h3:K/N*N=K:=ay;refine im fun hc=>?_;have h4:X<=K/N:=ay;have h5:=fM h4 (dp zH);grind
 grind
def bnd (x y:Rat):Prop:=-y<=x/\x<=y
theorem bnd_add {x y a b:Rat} (h:bnd x a) (k:bnd y b):bnd (x+y) (a+b):=by unfold bnd at *;grind
theorem bnd_mul {x y a b:Rat} (h:bnd x a) (k:bnd y b):bnd (x*y) (a*b):=by
 have ha:0<=a:=by unfold bnd at h;grind
 have hb:0<=b:=by unfold bnd at k;grind
 obtain⟨h1,h2⟩:=h;obtain⟨k1,k2⟩:=k;constructor
 ·rcases zL (a:=0) (b:=y) with hy | hy
  ·have:=fM h1 hy;have:=lS k2 ha;grind
  have:=fM h2 (by grind:0<=-y);have:=lS k1 ha;grind
 rcases zL (a:=0) (b:=y) with hy | hy
 ·have:=fM h2 hy;have:=lS k2 ha;grind
 have:=fM h1 (by grind:0<=-y);have:=lS k1 ha;grind
theorem bnd_le {x a b:Rat} (h:bnd x a) (aW:a<=b):bnd x b:=by unfold bnd at *;grind
theorem bnd_nn {x a:Rat} (h:bnd x a):0<=a:=by unfold bnd at h;grind
theorem bnd_neg {x a:Rat} (h:bnd x a):bnd (-x) a:=by unfold bnd at *;grind
theorem fE_bnd {M t:Rat} (h0:0<=t) (h1:t<=1):∀ (n:Nat) (f:Nat->Rat),(∀ i,i<=n->bnd (f i) M)->bnd (fE (1-t) t n f) M
 | 0,f,h=>h 0 (an _)
 | n+1,f,h=>fE_bnd h0 h1 n _ fun i hi=>by
  have a1:=h i J;have a2:=h (i+1) J;have b1:bnd ((1-t)*f i) ((1-t)*M):=bnd_mul (by unfold bnd;grind) a1;have b2:bnd (t*f (i+1)) (t*M):=bnd_mul (by unfold bnd;grind) a2;exact bnd_le (bnd_add b1 b2) ay
def dF (f:Nat->Rat) (i:Nat):Rat:=f (i+1)-f i
def fD (t:Rat) (n:Nat) (f:Nat->Rat):Rat:=((n:Int):Rat)*fE (1-t) t (n-1) (dF f)
theorem fD_succ (t:Rat) (n:Nat) (f:Nat->Rat):fD t (n+1) f=fD t n (fun i=>(1-t)*f i+t*f (i+1))+fE (1-t) t n (dF f):=by
 unfold fD;rw [df];have hc:(((n+1:Nat):Int):Rat)=((n:Int):Rat)+1:=by push_cast;rfl
 cases n with
 | zero=>simp;grind
 | succ m =>
  rw [df];have e:fE (1-t) t m (dF fun i=>(1-t)*f i+t*f (i+1))=fE (1-t) t (m+1) (dF f):=by
   rw [fE];refine fE_congr _ _ _ _ _ fun i _=>?_;unfold dF;grind
  rw [e,hc];grind
theorem fD_bnd {M t:Rat} (h0:0<=t) (h1:t<=1) (n:Nat) (f:Nat->Rat) (h:∀ i,i<=n->bnd (f i) M) (hM:0<=M):bnd (fD t n f) (((n:Int):Rat)*(2*M)):=by
 unfold fD;have hn:(0:Rat)<=((n:Int):Rat):=rq.2 J
 cases n with
 | zero=>simp;unfold bnd;grind
 | succ m =>
  refine bnd_mul (by unfold bnd;grind) (fE_bnd h0 h1 _ _ fun i hi=>?_);have a1:=h i J;have a2:=h (i+1) J;unfold dF;unfold bnd at *;grind
theorem fE_taylor:∀ n:Nat,∃ C:Rat,0<=C/\∀ (f:Nat->Rat) (M t d:Rat),0<=M->(∀ i,i<=n->bnd (f i) M)->0<=t->0<=d->t+d<=1 ->
  bnd (fE (1-(t+d)) (t+d) n f-fE (1-t) t n f-d*fD t n f) (C*M*(d*d))
 | 0=>⟨0,dD,fun f M t d _ _ _ _ _=>by
   show bnd (f 0-f 0-d*(((0:Nat):Int)*_)) _;unfold bnd;simp;grind⟩
 | n+1=>by
  obtain⟨C,hC,ih⟩:=fE_taylor n;obtain⟨N,hN⟩:∃ N:Rat,N=((n:Int):Rat):=⟨_,rfl⟩;have zH:0<=N:=by rw [hN];exact rq.2 J
  refine⟨C+(N*4+C*2),by grind,fun f M t d hM hf ht hd m8=>?_⟩;have iB:t<=1:=ay;have dV:d<=1:=ay;have s1:∀ i,i<=n->bnd ((1-t)*f i+t*f (i+1)) M:=fun i hi=>by
   have b1:bnd ((1-t)*f i) ((1-t)*M):=bnd_mul (by unfold bnd;grind) (hf i J);have b2:bnd (t*f (i+1)) (t*M):=bnd_mul (by unfold bnd;grind) (hf (i+1) J);exact bnd_le (bnd_add b1 b2) ay
  have s2:∀ i,i<=n->bnd (dF f i) (2*M):=fun i hi=>by
   have a1:=hf i J;have a2:=hf (i+1) J;unfold dF;unfold bnd at *;grind
  have r1:=ih _ M t d hM s1 ht hd m8;have r2:=ih _ (2*M) t d ay s2 ht hd m8;have r3:=fD_bnd ht iB n (dF f) s2 ay;rw [<-hN] at r3;have e:fE (1-(t+d)) (t+d) (n+1) f=fE (1-(t+d)) (t+d) n (fun i=>(1-t)*f i+t*f (i+1))+d*fE (1-(t+d)) (t+d) n (dF f):=by
   rw [fE];have:=fE_lin (1-(t+d)) (t+d) 1 d n (fun i=>(1-t)*f i+t*f (i+1)) (dF f);rw [fN] at this;rw [<-this];refine fE_congr _ _ _ _ _ fun i _=>?_;unfold dF;grind
  have e0:fE (1-t) t (n+1) f=fE (1-t) t n (fun i=>(1-t)*f i+t*f (i+1)):=rfl;rw [e,fD_succ,e0];obtain⟨A,hA⟩:∃ A,A=fE (1-(t+d)) (t+d) n (fun i=>(1-t)*f i+t*f (i+1)):=⟨_,rfl⟩;obtain⟨A0,hA0⟩:∃ A,A=fE (1-t) t n (fun i=>(1-t)*f i+t*f (i+1)):=⟨_,rfl⟩;obtain⟨B,hB⟩:∃ A,A=fE (1-(t+d)) (t+d) n (dF f):=⟨_,rfl⟩;obtain⟨B0,lP⟩:∃ A,A=fE (1-t) t n (dF f):=⟨_,rfl⟩;obtain⟨D1,mz⟩:∃ A,A=fD t n (fun i=>(1-t)*f i+t*f (i+1)):=⟨_,rfl⟩;obtain⟨D2,lV⟩:∃ A,A=fD t n (dF f):=⟨_,rfl⟩;rw [<-hA,<-hA0,<-mz] at r1;rw [<-hB,<-lP,<-lV] at r2;rw [<-lV] at r3;rw [<-hA,<-hA0,<-hB,<-lP,<-mz];have jh:0<=d*d:=cO hd hd;have q1:bnd (d*(B-B0-d*D2)) (1*(C*(2*M)*(d*d))):=bnd_mul (by unfold bnd;grind) r2;have q2:bnd (d*d*D2) (d*d*(N*(2*(2*M)))):=bnd_mul (by unfold bnd;grind) r3;have q3:=bnd_add (bnd_add r1 q1) q2;refine bnd_le (x:=A+d*B-A0-d*(D1+B0)) ?_ (dD);have e2:A+d*B-A0-d*(D1+B0)=A-A0-d*D1+d*(B-B0-d*D2)+d*d*D2:=ay;have e3:(C+(N*4+C*2))*M*(d*d)=C*M*(d*d)+1*(C*(2*M)*(d*d))+d*d*(N*(2*(2*M))):=ay;rw [e2,e3];exact q3
theorem list_bnd:∀ p:List Rat,∃ M:Rat,0<=M/\∀ i,bnd (p.getD i 0) M
 | []=>⟨0,dD,fun i=>by simp [bnd]⟩
 | x :: l=>by
  obtain⟨M,h0,h⟩:=list_bnd l;refine⟨M+(if 0<=x then x else -x),by split<;>grind,fun i=>?_⟩
  cases i with
  | zero=>rw [aaB];unfold bnd;split<;>grind
  | succ i =>
   rw [acD];refine bnd_le (h i) ?_;split<;>grind
theorem ev_dif {p:List Rat} (h:0<p.length) (t:Rat):evP (difP p) t=fD t (p.length-1) (fun i=>p.getD i 0):=by
 have hl:=difP_len (p:=p);unfold fD;rcases cu p.length 2 with h2 | h2
 ·have h1:p.length-1=0:=J;rw [h1];unfold difP;rw [if_pos h2,ev_fE aj];simp [fE]
 rw [if_neg J] at hl;rw [ev_fE J,hl];obtain⟨N,hN⟩:∃ N:Rat,N=(((p.length-1:Nat):Int):Rat):=⟨_,rfl⟩;have e:=fE_lin (1-t) t N 0 (p.length-1-1) (dF fun i=>p.getD i 0) (dF fun i=>p.getD i 0);rw [<-hN];have e2:N*fE (1-t) t (p.length-1-1) (dF fun i=>p.getD i 0)=N*fE (1-t) t (p.length-1-1) (dF fun i=>p.getD i 0)+0*fE (1-t) t (p.length-1-1) (dF fun i=>p.getD i 0):=ay;rw [e2,<-e];refine fE_congr _ _ _ _ _ fun i hi=>?_;rw [difP_get J,<-hN];unfold dF;grind
theorem ev_M {p:List Rat} {M t:Rat} (h:0<p.length) (hM:∀ i,bnd (p.getD i 0) M) (h0:0<=t) (h1:t<=1):bnd (evP p t) M:=by
 rw [ev_fE h];exact fE_bnd h0 h1 _ _ fun i _=>hM i
theorem ev_taylor {p:List Rat} (h:0<p.length):∃ C:Rat,0<=C/\∀ t d,0<=t->0<=d->t+d<=1->bnd (evP p (t+d)-evP p t-d*evP (difP p) t) (C*(d*d)):=by
 obtain⟨M,hM0,hM⟩:=list_bnd p;obtain⟨C,hC,k⟩:=fE_taylor (p.length-1);refine⟨C*M,cO hC hM0,fun t d ht hd m8=>?_⟩;rw [ev_fE h,ev_fE h,ev_dif h];exact k _ M t d hM0 (fun i _=>hM i) ht hd m8
theorem lt_le {a b c:Rat} (h:a<b) (k:b<=c):a<c:=ay
theorem inv_mono {x y:Rat} (hx:0<x) (h:x<=y):0<1/y/\1/y<=1/x:=by
 have hy:0<y:=ay;have e1:1/x*x=1:=ay;have e2:1/y*y=1:=ay;have r0:0<1/x:=by rw [cj,fN];exact vD.2 hx
 have s0:0<1/y:=by rw [cj,fN];exact vD.2 hy
 revert e1 e2 r0 s0;generalize 1/x=r;generalize 1/y=s;intro e1 e2 r0 s0;refine⟨s0,?_⟩;have h1:=lS h (dp (oL s0 r0));have e3:s*r*x=s:=by rw [lU,e1,iX]
 have e4:s*r*y=r:=by rw [iF s r,lU,e2,iX]
 rwa [e3,e4] at h1
theorem div_inv1 {W r:Rat} (hr:r*W=1) (x:Rat):x/W=x*r:=by
 have h0:W≠0:=by rintro rfl;rw [pY] at hr;exact absurd hr ae
 have h1:=r8 W h0;have:W⁻¹=r:=by
  have e:r*(W*W⁻¹)=r:=by rw [h1,iX]
  rw [<-lU,hr,fN] at e;exact e
 rw [cj,this]
theorem quo_id {N N' x1 W W' x2 r r1 d N1 W1:Rat} (h1:N1=N+d*N'+x1) (h2:W1=W+d*W'+x2) (hr:r*W=1) (bG:r1*W1=1) :
  N1*r1-N*r-d*((N'*W-N*W')*(r*r))=(x1*W+-(N*x2))*(r*r1)+-((N'*W+-(N*W'))*(r*r*r1)*(d*(d*W'+x2))):=by
 have a1:N1*r1=N1*r1*(r*W):=by rw [hr,iX]
 have a2:N*r=N*r*(r1*W1):=by rw [bG,iX]
 have a3:r*r=r*r*(r1*W1):=by rw [bG,iX]
 have a4:r*r1=r*r1*(r*W):=by rw [hr,iX]
 have b1:N1*r1-N*r=(d*(N'*W-N*W')+(x1*W-N*x2))*(r*r1):=by
  rw [a1,a2,h1,h2];clear a1 a2 a3 a4 hr bG h1 h2;grind
 have b2:r*r=r*r1+r*r*r1*(d*W'+x2):=by
  have t1:r*r*(r1*(W+d*W'+x2))=r*r1*(r*W)+r*r*r1*(d*W'+x2):=by clear a1 a2 a3 a4 hr bG h1 h2 b1;grind
  rw [hr,iX,<-h2,bG,iX] at t1;exact t1
 rw [b1];have b3:d*((N'*W-N*W')*(r*r))=d*((N'*W-N*W')*(r*r1))+d*((N'*W-N*W')*(r*r*r1*(d*W'+x2))):=by
  have:d*((N'*W-N*W')*(r*r))=d*((N'*W-N*W')*(r*r1+r*r*r1*(d*W'+x2))):=by rw [<-b2]
  rw [this];clear a1 a2 a3 a4 hr bG h1 h2 b1 b2 this;grind
 rw [b3];clear a1 a2 a3 a4 hr bG h1 h2 b1 b2 b3;grind
theorem quo_bd {N N' x1 W W' x2 r r1 d B C c:Rat} (m1:bnd N B) (m2:bnd W B) (m3:bnd N' B) (m4:bnd W' B) (hd:0<=d) (dV:d<=1) (e1:bnd x1 (C*(d*d))) (e2:bnd x2 (C*(d*d))) (hC0:0<=C) (br:bnd r c) (yq:bnd r1 c) :
  bnd ((x1*W+-(N*x2))*(r*r1)+-((N'*W+-(N*W'))*(r*r*r1)*(d*(d*W'+x2)))) (((C*B+B*C)*(c*c)+(B*B+B*B)*(c*c*c)*(B+C))*(d*d)):=by
 have lP:=bnd_nn m1;have iI:=bnd_nn br;have jh:0<=d*d:=cO hd hd;have bd:bnd d d:=by unfold bnd;grind
 have p1:bnd ((x1*W+-(N*x2))*(r*r1)) ((C*(d*d)*B+B*(C*(d*d)))*(c*c)):=bnd_mul (bnd_add (bnd_mul e1 m2) (bnd_neg (bnd_mul m1 e2))) (bnd_mul br yq);have p2:bnd ((N'*W+-(N*W'))*(r*r*r1)*(d*(d*W'+x2))) ((B*B+B*B)*(c*c*c)*(d*(d*B+C*(d*d)))) :=
  bnd_mul (bnd_mul (bnd_add (bnd_mul m3 m2) (bnd_neg (bnd_mul m1 m4))) (bnd_mul (bnd_mul br br) yq)) (bnd_mul bd (bnd_add (bnd_mul bd m4) e2))
 have jv:0<=(B*B+B*B)*(c*c*c):=cO (aa5 (cO lP lP) (cO lP lP)) (cO (cO iI iI) iI);have p3:(B*B+B*B)*(c*c*c)*(d*(d*B+C*(d*d)))<=(B*B+B*B)*(c*c*c)*((d*d)*(B+C)):=by
  refine lS ?_ jv;have:C*(d*d)*d<=C*(d*d)*1:=lS dV (cO hC0 jh);clear p1 p2 jv bd m1 m2 m3 m4 e1 e2 br yq;grind
 have p4:=bnd_add p1 (bnd_neg (bnd_le p2 p3));have e:(C*(d*d)*B+B*(C*(d*d)))*(c*c)+(B*B+B*B)*(c*c*c)*((d*d)*(B+C))=((C*B+B*C)*(c*c)+(B*B+B*B)*(c*c*c)*(B+C))*(d*d):=by
  clear p1 p2 p3 p4 jv bd m1 m2 m3 m4 e1 e2 br yq jh;grind
 rwa [e] at p4
theorem quo_taylor {n w:List Rat} {w0:Rat} (hn:0<n.length) (hw:0<w.length) (qg:0<w0) (hW:∀ t,0<=t->t<=1->w0<=evP w t) :
  ∃ K:Rat,∀ t d,0<=t->0<=d->t+d<=1 ->
   bnd (evP n (t+d)/evP w (t+d)-evP n t/evP w t-d*((evP (difP n) t*evP w t-evP n t*evP (difP w) t)/(evP w t*evP w t))) (K*(d*d)):=by
 have er:0<(difP n).length:=by rw [difP_len];split<;>omega
 have vK:0<(difP w).length:=by rw [difP_len];split<;>omega
 obtain⟨B1,rM,b1⟩:=list_bnd n;obtain⟨B2,xZ,b2⟩:=list_bnd w;obtain⟨B3,hB3,b3⟩:=list_bnd (difP n);obtain⟨B4,hB4,b4⟩:=list_bnd (difP w);obtain⟨C1,yY,k1⟩:=ev_taylor hn;obtain⟨C2,hC2,k2⟩:=ev_taylor hw;have g1:B1<=B1+B2+B3+B4:=ob;have g2:B2<=B1+B2+B3+B4:=ob;have g3:B3<=B1+B2+B3+B4:=ob;have g4:B4<=B1+B2+B3+B4:=ob;have g5:C1<=C1+C2:=ob;have g6:C2<=C1+C2:=ob;refine⟨((C1+C2)*(B1+B2+B3+B4)+(B1+B2+B3+B4)*(C1+C2))*(1/w0*(1/w0))+((B1+B2+B3+B4)*(B1+B2+B3+B4)+(B1+B2+B3+B4)*(B1+B2+B3+B4))*(1/w0*(1/w0)*(1/w0))*((B1+B2+B3+B4)+(C1+C2)),fun t d ht hd m8=>?_⟩;have iB:t<=1:=ob;have dV:d<=1:=ob;have agC:0<=t+d:=ob;have jh:0<=d*d:=cO hd hd;have m1:=bnd_le (ev_M hn b1 ht iB) g1;have m2:=bnd_le (ev_M hw b2 ht iB) g2;have m3:=bnd_le (ev_M er b3 ht iB) g3;have m4:=bnd_le (ev_M vK b4 ht iB) g4;have e1:=bnd_le (k1 t d ht hd m8) (fM g5 jh);have e2:=bnd_le (k2 t d ht hd m8) (fM g6 jh);have w1:=hW t ht iB;have w2:=hW (t+d) agC m8;have i1:=inv_mono qg w1;have i2:=inv_mono qg w2;have p1:0<evP w t:=lt_le qg w1;have p2:0<evP w (t+d):=lt_le qg w2;have hr:1/evP w t*evP w t=1:=by rw [cj,fN];exact abI _ (aea p1)
 have bG:1/evP w (t+d)*evP w (t+d)=1:=by rw [cj,fN];exact abI _ (aea p2)
 have lG:1/evP w t*(1/evP w t)*(evP w t*evP w t)=1:=by
  rw [show 1/evP w t*(1/evP w t)*(evP w t*evP w t)=(1/evP w t*evP w t)*(1/evP w t*evP w t) by
   generalize 1/evP w t=r;generalize evP w t=W;clear b1 b2 b3 b4 k1 k2 hW m1 m2 m3 m4 e1 e2 w1 w2 i1 i2 p1 p2 hr bG;grind,hr,iX]
 rw [div_inv1 bG,div_inv1 hr,div_inv1 lG];have c1:bnd (1/evP w t) (1/w0):=⟨by have:=i1.1;have:=i1.2;clear b1 b2 b3 b4 k1 k2 hW m1 m2 m3 m4 e1 e2 hr bG lG i1 i2;generalize 1/evP w t=r at *;generalize 1/w0=c at *;grind,i1.2⟩;have c2:bnd (1/evP w (t+d)) (1/w0):=⟨by have:=i2.1;have:=i2.2;clear b1 b2 b3 b4 k1 k2 hW m1 m2 m3 m4 e1 e2 hr bG lG i1 i2;generalize 1/evP w (t+d)=r at *;generalize 1/w0=c at *;grind,i2.2⟩;have h1:evP n (t+d)=evP n t+d*evP (difP n) t+(evP n (t+d)-evP n t-d*evP (difP n) t):=by
  generalize evP n (t+d)=x;generalize evP n t=y;generalize evP (difP n) t=z;clear b1 b2 b3 b4 k1 k2 hW m1 m2 m3 m4 e1 e2 hr bG lG i1 i2 c1 c2;grind
 have h2:evP w (t+d)=evP w t+d*evP (difP w) t+(evP w (t+d)-evP w t-d*evP (difP w) t):=by
  generalize evP w (t+d)=x;generalize evP w t=y;generalize evP (difP w) t=z;clear b1 b2 b3 b4 k1 k2 hW m1 m2 m3 m4 e1 e2 hr bG lG i1 i2 c1 c2;grind
 rw [quo_id h1 h2 hr bG];exact quo_bd m1 m2 m3 m4 hd dV e1 e2 (aa5 yY hC2) c1 c2
theorem quo_mvi {n w:List Rat} {w0 m t u:Rat} (hn:0<n.length) (hw:0<w.length) (qg:0<w0) (hW:∀ t,0<=t->t<=1->w0<=evP w t) (ht:0<=t) (jC:t<=u) (hu:u<=1)
  (h:∀ s,t<=s->s<=u->m<=(evP (difP n) s*evP w s-evP n s*evP (difP w) s)/(evP w s*evP w s)):evP n t/evP w t+m*(u-t)<=evP n u/evP w u:=by
 obtain⟨K,k⟩:=quo_taylor hn hw qg hW;refine mvi (g:=fun x=>evP n x/evP w x) (C:=K) jC fun s d hs hd hsd=>?_;have h1:=(k s d (cA ht hs) hd (cA hsd hu)).1;have hsu:s<=u:=by clear h1 h k hW;grind
 have h2:=lS (h s hs hsu) hd;show evP n s/evP w s+_<=evP n (s+d)/evP w (s+d);clear h k hW;generalize (evP (difP n) s*evP w s-evP n s*evP (difP w) s)/(evP w s*evP w s)=q at *
 generalize evP n s/evP w s=x at *
 generalize evP n (s+d)/evP w (s+d)=y at *
 grind
open H0 in
theorem c_Elev (p:List Rat) (n:Nat) (rJ:0<p.length) (hn:n<=40) (qX:p.length<=n+1) (kE:upS p n):CallP aa 293 [.list 3 (p.map ratL),nI64 n] (.tup [.list 3 ((upP p n).map ratL),iL 0]):=by
 refine fnP Tryz.func293 ?_;refine zg12 ?_;refine st_pure rfl kA ?_;refine zg2 ?_;refine op_if 11 rfl ?_ ?_<;>intro wy qo
 ·refine zg14 ?_;exfalso;omega
 refine zg5 ?_;refine wl_if rfl ?_ ?_<;>intro jg gi
 ·omega
 refine zg6 ?_;refine cp am2 (c_up p n rJ J J kE) ?_;refine zg5 ?_;exact ret2 rfl (.pure (pure_lst ratE _ _)) rfl (.pure rfl)
end Go.Proofs.YtlipjipfpkbppaaGreat
namespace Go.Lg
theorem Weak.cell {L:St} (b:Nat) {sz:Nat} {x y:LV} {mt:Bool} (hb:L.heap b=some ⟨sz,[x],mt⟩) (h:∀ Z μ w cs,Rep Z μ w x cs->Rep Z μ w y cs):Weak L (L.setB b (some ⟨sz,[y],mt⟩)):=by
 rintro n W X Z0 a w ⟨bj,hsz,μ,Z,hc,hr⟩;refine⟨bj,hsz,μ,Z,?_,hr⟩;have hs:∀ c,(L.setB b (some ⟨sz,[y],mt⟩)).heap c=if c=b then some ⟨sz,[y],mt⟩ else L.heap c:=fun c=>rfl
 refine⟨hc.keep,hc.zone,hc.zsup,hc.zsub,hc.inj,hc.own,hc.x0,hc.xlt,hc.x1,fun c id blk g1 g2=>?_,fun c id blk g1 g2=>?_,fun c id g1=>?_⟩
 ·rw [hs] at g2;split at g2
  ·rename_i e;subst e;cases g2;exact hc.mutz c id ⟨sz,[x],mt⟩ g1 hb
  exact hc.mutz c id blk g1 g2
 ·rw [hs] at g2;split at g2
  ·rename_i e;subst e;cases g2;exact hc.frz c id ⟨sz,[x],mt⟩ g1 hb
  exact hc.frz c id blk g1 g2
 obtain⟨blk,k1,k2⟩:=hc.heap c id g1;rw [hs];by_cases e:c=b
 ·subst e;rw [if_pos rfl];rw [hb] at k1
  cases k1
  refine⟨_,rfl,?_⟩;obtain⟨cs,T,part,rest,e1,e2,e3⟩:=k2;refine⟨cs,T,part,rest,e1,e2,?_⟩;simp only [RepAll] at e3 ⊢;obtain⟨c1,c2,q1,q2,q3,q4⟩:=e3;exact⟨c1,c2,q1,q2,h _ _ _ _ q3,q4⟩
 rw [if_neg e];exact⟨blk,k1,k2⟩
theorem Weak.newB (L:St) (d sz:Nat) (hd:L.heap d=none):Weak L (L.setB d (some ⟨sz,[],true⟩)):=by
 rintro n W X Z0 a w ⟨bj,hsz,μ,Z,hc,hr⟩;refine⟨bj,hsz,μ,Z,?_,hr⟩;refine hc.reheap fun c id pO=>?_;have:c≠d:=by rintro rfl;rw [mu_none hc hd] at pO;cases pO
 simp [St.setB,this]
theorem rep_net (d sz:Nat) (x y:LV) (Z:Nat->Prop) (μ:Nat->Option Nat) (w:World) (cs:List Value) (h:Rep Z μ w (.agg [x,y,.v (.slice none 0 0)]) cs):Rep Z μ w (.agg [x,y,.ref d sz 0 0]) cs:=by
 simp only [Rep,RepFs] at h ⊢;obtain⟨c1,c2,e1,e2,e3,c3,c4,e4,e5,e6,c5,c6,e7,e8,e9,qP⟩:=h;exact⟨c1,c2,e1,e2,e3,c3,c4,e4,e5,e6,c5,c6,e7,e8,.inl ⟨e9.1,trivial⟩,qP⟩
end Go.Lg
namespace Go.Proofs.YtlipjipfpkbppaaGreat
open Go.Lg
def _root_.Go.Lg.V3.at (p:V3):Nat->Rat
 | 0=>p.x
 | 1=>p.y
 | _=>p.z
def nmP (po:List PoR) (k:Nat):List Rat:=po.map fun q=>q.w*q.p.at k
def wtP (po:List PoR):List Rat:=po.map fun q=>q.w
theorem nmP_len (po:List PoR) (k:Nat):(nmP po k).length=po.length:=by simp [nmP]
theorem wtP_len (po:List PoR):(wtP po).length=po.length:=by simp [wtP]
theorem at_rl {R:Nat} {p:V3} (h:bd3 R p):∀ k,rl (p.at k)<=R
 | 0=>h.1
 | 1=>h.2.1
 | _+2=>h.2.2
theorem nmP_rl {R:Nat} {po:List PoR} (h:∀ q∈po,okP R q) (k:Nat):∀ x∈nmP po k,rl x<=2*R:=fun x hx=>by
 obtain⟨q,hq,rfl⟩:=bS.1 hx;obtain⟨h1,h2,_⟩:=h q hq;have h3:=at_rl h1 k;have h4:=rl_mul q.w (q.p.at k);show rl (q.w*q.p.at k)<=_;omega
theorem wtP_rl {R:Nat} {po:List PoR} (h:∀ q∈po,okP R q):∀ x∈wtP po,rl x<=R:=fun x hx=>by
 obtain⟨q,hq,rfl⟩:=bS.1 hx;exact(h q hq).2.1
def trP (po:List PoR) (k:Nat):List Rat:=zipG (·-·) (mulP (difP (nmP po k)) (wtP po)) (mulP (nmP po k) (difP (wtP po)))
theorem mulP_rlK {p q:List Rat} {R:Nat} (h:p.length-1+(q.length-1)<=40) (dW:p.length<=41) (ey:q.length<=41) (cQ:1<=R) (hR:R<=100) (mY:∀ x∈p,rl x<=R) (vk:∀ x∈q,rl x<=R):∀ x∈mulP p q,rl x<=344700:=fun x hx=>by
 obtain⟨k,hk,rfl⟩:=bS.1 hx;have hS:=allM_rl dW ey cQ mY vk p.length;have cm:p.length*(q.length*(2*R+5))<=41*(41*205):=cx dW (cx ey J);have eH:=getD_rl J hS k;have lh:=getD_rl (S:=2) ae (chR_rl (n:=p.length-1+(q.length-1)) h) k;have h3:=rl_div ((allM p q p.length).getD k 0) ((chR (p.length-1+(q.length-1))).getD k 0);omega
theorem zipK_rl {R:Nat} {p q:List Rat} {g:Rat->Rat->Rat} (hg:∀ a b,rl (g a b)<=rl a+rl b+1) (hR:1<=R) (hp:∀ x∈p,rl x<=R) (hq:∀ x∈q,rl x<=R):∀ x∈zipG g p q,rl x<=2*R+1:=fun x hx=>by
 obtain⟨i,_,rfl⟩:=bS.1 hx;have h1:=getD_rl hR hp i;have h2:=getD_rl hR hq i;have h3:=hg (p.getD i 0) (q.getD i 0);omega
structure cvF (po:List PoR) (d:Nat):Prop where
 hl:po.length=d+1
 hd:1<=d
 h6:d<=6
 ok:∀ q∈po,okP 1 q
section
variable {po:List PoR} {d:Nat} (h:cvF po d)
theorem cvF.n (h:cvF po d) (k:Nat):(nmP po k).length=d+1/\∀ x∈nmP po k,rl x<=2:=⟨by rw [nmP_len,h.hl],nmP_rl h.ok k⟩
theorem cvF.w (h:cvF po d):(wtP po).length=d+1/\∀ x∈wtP po,rl x<=2:=⟨by rw [wtP_len,h.hl],fun x hx=>aw (wtP_rl h.ok x hx) ae⟩
theorem cvF.dn (h:cvF po d) (k:Nat):(difP (nmP po k)).length=d/\∀ x∈difP (nmP po k),rl x<=8:=by
 obtain⟨h1,h2⟩:=h.n k;have:=h.hd;have:=h.h6;exact⟨by rw [difP_len,h1,if_neg J];omega,difP_rl ae J h2⟩
theorem cvF.dw (h:cvF po d):(difP (wtP po)).length=d/\∀ x∈difP (wtP po),rl x<=8:=by
 obtain⟨h1,h2⟩:=h.w;have:=h.hd;have:=h.h6;exact⟨by rw [difP_len,h1,if_neg J];omega,difP_rl ae J h2⟩
theorem cvF.m1 (h:cvF po d) (k:Nat):(mulP (difP (nmP po k)) (wtP po)).length=2*d-1+1/\∀ x∈mulP (difP (nmP po k)) (wtP po),rl x<=344700:=by
 obtain⟨h1,h2⟩:=h.dn k;obtain⟨h3,h4⟩:=h.w;have:=h.hd;have:=h.h6;exact⟨by rw [mulP_len,h1,h3];omega,mulP_rlK (R:=8) J J J ae ae h2 (fun x hx=>aw (h4 x hx) ae)⟩
theorem cvF.m2 (h:cvF po d) (k:Nat):(mulP (nmP po k) (difP (wtP po))).length=2*d-1+1/\∀ x∈mulP (nmP po k) (difP (wtP po)),rl x<=344700:=by
 obtain⟨h1,h2⟩:=h.n k;obtain⟨h3,h4⟩:=h.dw;have:=h.hd;have:=h.h6;exact⟨by rw [mulP_len,h1,h3];omega,mulP_rlK (R:=8) J J J ae ae (fun x hx=>aw (h2 x hx) ae) h4⟩
theorem cvF.t (h:cvF po d) (k:Nat):(trP po k).length=2*d-1+1/\∀ x∈trP po k,rl x<=689401:=by
 obtain⟨h1,h2⟩:=h.m1 k;obtain⟨_,h4⟩:=h.m2 k;exact⟨by rw [trP,zipG_len,h1],fun x hx=>zipK_rl rl_sub ae h2 h4 x hx⟩
end
theorem rep_nr {Z:Nat->Prop} {μ:Nat->Option Nat} {w:World} {cs:List Value} (d sz:Nat) (h:Rep Z μ w (.v (.slice none 0 0)) cs):Rep Z μ w (.ref d sz 0 0) cs:=by
 simp only [Rep] at h ⊢;exact .inl ⟨h.1,trivial⟩
theorem rep_arr4 (a b c d:Nat) (sz:Nat) (Z:Nat->Prop) (μ:Nat->Option Nat) (w:World) (cs:List Value) (h:Rep Z μ w (.agg [.v (.slice none 0 0),.v (.slice none 0 0),.v (.slice none 0 0),.v (.slice none 0 0)]) cs) :
  Rep Z μ w (.agg [.ref a sz 0 0,.ref b sz 0 0,.ref c sz 0 0,.ref d sz 0 0]) cs:=by
 simp only [Rep.eq_4,RepFs] at h ⊢;obtain⟨c1,c2,e1,e2,e3,c3,c4,e4,e5,e6,c5,c6,e7,e8,e9,c7,c8,qP,e11,e12,e13⟩:=h;exact⟨c1,c2,e1,e2,rep_nr _ _ e3,c3,c4,e4,e5,rep_nr _ _ e6,c5,c6,e7,e8,rep_nr _ _ e9,c7,c8,qP,e11,rep_nr _ _ e12,e13⟩
theorem getD_memP {po:List PoR} {j:Nat} (h:j<po.length):po.getD j default∈po:=by
 rw [ao,aB h];exact fY h
theorem sgnR_z {a:Rat} (h:sgnR a=0):a=0:=by
 rcases sgn_cases a with⟨g,e⟩ | ⟨_,e⟩ | ⟨_,e⟩
 ·exact g
 ·rw [e] at h;cases h
 rw [e] at h;cases h
end Go.Proofs.YtlipjipfpkbppaaGreat
namespace Go.Lg
end Go.Lg
namespace Go.Proofs.YtlipjipfpkbppaaGreat
open Go.Lg
theorem chsQ_rl {n:Nat} (k:Nat) (hn:n<=40):rl (((chs n k:Nat):Int):Rat)<=2:=by
 rcases cu n k with h | h
 ·rw [chs_gt h];decide
 have h1:=chR_rl hn _ (getD_mem (i:=k) (by rw [chR_len];omega));rw [chR_get h] at h1;exact h1
def lin (α β:Rat):Rat->List Rat->List Rat
 | c,[]=>[β*c]
 | c,x :: l=>(β*c+α*x) :: lin α β x l
inductive KS:Nat->List Rat->Prop
 | z {s:Int} {l:List Rat}:l≠[]->s=1\/s=-1->(∀ x∈l,sgnR x=s)->KS 0 l
 | r {n:Nat} {l:List Rat} {a b:Rat}:KS n l->0<a->0<b->KS (n+1) (lin (-a) b 0 l)
theorem cmpR_lt {a b:Rat}:cmpR a b<0↔a<b:=by
 unfold cmpR;split
 ·simp [*]
 split<;>simp [*]
theorem retCC {P:Program} {L:St} {a u:Nat} {T U:TypeId} {b c sz sy:Nat} {x y x' y':LV} {m m':Bool} {n n':Nat} {ag ag':Bool} (bs:List Nat) (h0:bs.contains 0=false) (h:L.slot a=.eptr b sz 0 0) (hb:L.heap b=some ⟨sz,[x],m⟩)
  (hx:x.csize=sz) (gB:x.at 0 n ag=some x) (hT:TyIs P T n ag) (hi:Imm (L.frz bs).heap x y) (h':L.slot u=.eptr c sy 0 0) (hc:L.heap c=some ⟨sy,[x'],m'⟩)
  (yo:x'.csize=sy) (ae6:x'.at 0 n' ag'=some x') (sW:TyIs P U n' ag') (fv:Imm (L.frz bs).heap x' y'):RetL P [.cell a T,.cell u U] L (.tup [y,y']) [] :=
 ⟨[x,x'],[y,y'],(L.frz bs).heap,[],.cons ⟨b,sz,0,0,_,x,n,ag,h,hb,rfl,rfl,hx,gB,hT⟩ (.cons ⟨c,sy,0,0,_,x',n',ag',h',hc,rfl,rfl,yo,ae6,sW⟩ .nil),frz_le bs h0,.cons (.imm hi) (.cons (.imm fv) .nil),List.nodup_nil,rfl,fun k b h=>by simp at h,rfl⟩
section
variable {P:Program} {H:Heap} {ρ:Operand->LV} {T E:TypeId}
end
theorem ps_get (po:List PoR) (i:Nat):(po.map (·.p)).getD i default=(po.getD i default).p:=by
 rw [ao,ao,bU]
 cases po[i]?<;>rfl
def fIdx {α:Type} (pr:α->Bool) (l:List α):Int:=if l.any pr then(l.findIdx pr:Nat) else -1
theorem fIdx_hit {α:Type} [Inhabited α] {pr:α->Bool} {l:List α} {i:Nat} (hi:i<l.length) (h0:∀ j,j<i->pr (l.getD j default)=false) (h:pr (l.getD i default)=true):fIdx pr l=(i:Int):=by
 have hg:∀ j (hj:j<l.length),l.getD j default=l[j]:=fun j hj=>by rw [ao,aB hj];rfl
 have e:l.findIdx pr=i:=by
  rw [List.findIdx_eq hi];refine⟨by rw [<-hg i hi];exact h,fun j hj=>?_⟩;rw [<-hg j J];exact h0 j hj
 have ha:l.any pr=true:=List.any_eq_true.2 ⟨l[i],fY hi,by rw [<-hg i hi];exact h⟩;unfold fIdx;rw [if_pos ha,e]
theorem fIdx_none {α:Type} [Inhabited α] {pr:α->Bool} {l:List α} (h0:∀ j,j<l.length->pr (l.getD j default)=false):fIdx pr l=-1:=by
 have ha:l.any pr=false:=by
  rw [List.any_eq_false];intro x hx;obtain⟨i,hi,rfl⟩:=List.mem_iff_getElem.1 hx;have:=h0 i hi;rw [ao,aB hi] at this;simpa using this
 unfold fIdx;rw [if_neg (by rw [ha];decide)]
theorem fIdx_any {α:Type} (pr:α->Bool) (l:List α):decide (fIdx pr l>=0)=l.any pr:=by
 unfold fIdx;split
 ·rename_i h;rw [h];exact decide_eq_true J
 rename_i h;rw [so] at h;rw [h];rfl
theorem getD_memL {α:Type} [Inhabited α] {l:List α} {i:Nat} (h:i<l.length):l.getD i default∈l:=by
 rw [ao,aB h];exact fY h
theorem dig_inj {a b:Nat} (h:dig a=dig b):a=b:=by rw [<-val_dig a,h,val_dig]
section
variable {a b:Rat}
theorem rsm2 (h2:decide (dig a.num.natAbs=dig b.num.natAbs)=false):false=decide (a=b):=by
 symm;rw [decide_eq_false_iff_not];rintro rfl;simp at h2
theorem rsm3 (h:(decide (a<0)==decide (b<0))=true) (h2:decide (dig a.num.natAbs=dig b.num.natAbs)=true):decide (dig (denN a)=dig (denN b))=decide (a=b):=by
 rw [decide_eq_decide,rat_ext'];exact⟨fun h3=>⟨eq_of_beq h,dig_inj (of_decide_eq_true h2),dig_inj h3⟩,fun h3=>by rw [h3.2.2]⟩
end
def tmN (k:List Rat) (t:Rat):Nat->Nat
 | 0=>0
 | i+1=>tmN k t i+(if k.getD i 0=t then 1 else 0)
theorem tmN_le (k:List Rat) (t:Rat):∀ i,tmN k t i<=i
 | 0=>an _
 | i+1=>by have:=tmN_le k t i;rw [tmN];split<;>omega
def dsN (k:List Rat):Nat->List Rat
 | 0=>[]
 | i+1=>if i=0\/k.getD i 0≠k.getD (i-1) 0 then dsN k i++[k.getD i 0] else dsN k i
theorem dsN_le (k:List Rat):∀ i,(dsN k i).length<=i
 | 0=>an _
 | i+1=>by
  have:=dsN_le k i;rw [dsN];split
  ·simp;omega
  omega
theorem dsN_mem (k:List Rat):∀ i,i<=k.length->∀ x∈dsN k i,x∈k
 | 0,_,x,h=>by cases h
 | i+1,hi,x,h=>by
  rw [dsN] at h;split at h
  ·rcases eF.1 h with h | h
   ·exact dsN_mem k i J x h
   rw [bD.1 h];exact getD_mem J
  exact dsN_mem k i J x h
structure kOK (k:List Rat) (d:Nat):Prop where
 d1:1<=d
 d6:d<=6
 len:2*d+2<=k.length
 max:k.length<=d+41
 srt:∀ i,i+1<k.length->k.getD i 0<=k.getD (i+1) 0
 ne:k.getD 0 0≠k.getD (k.length-1) 0
 endk:∀ t∈k,(t=k.getD 0 0\/t=k.getD (k.length-1) 0)->tmN k t k.length=d+1
 ink:∀ t∈k,t≠k.getD 0 0->t≠k.getD (k.length-1) 0->tmN k t k.length<=d
 sz:∀ x∈k,rl x<=64
theorem ds_all {k:List Rat}:∀ i,i<=k.length->(∀ j,1<=j->j<i->k.getD j 0≠k.getD (j-1) 0)->dsN k i=k.take i
 | 0,_,_=>rfl
 | i+1,hi,h=>by
  rw [dsN,ds_all i J (fun j h1 h2=>h j h1 J),if_pos (by
   by_cases e:i=0
   ·exact .inl e
   exact .inr (h i J J)),nV,ao,aB J];rfl
theorem ds_y {k:List Rat} {i:Nat} (h0:0<i) (h:k.getD i 0≠k.getD (i-1) 0):dsN k (i+1)=dsN k i++[k.getD i 0]:=by rw [dsN,if_pos (.inr h)]
theorem ds_n {k:List Rat} {i:Nat} (h0:0<i) (h:k.getD i 0=k.getD (i-1) 0):dsN k (i+1)=dsN k i:=by rw [dsN,if_neg (fun e=>e.elim (fun e=>by omega) (fun e=>e h))]
theorem clr_eq {w:List Rat} {m n:Nat} (hm:m<=n) (hw:w.length=n):(w.map ratL).take m++ai (n-m) (ratL 0)++(w.map ratL).drop (m+(n-m))=(w.take m++ai (n-m) 0).map ratL:=by
 rw [List.drop_of_length_le al];simp [lY]
theorem take_snocL {l:List Rat} {k:Nat} (h:k<l.length):l.take k++[l.getD k 0]=l.take (k+1):=by
 rw [nV,aB h,ao,aB h];rfl
theorem imm_pre {α:Type} {e:α->LV} {ag:Bool} {bs:List Nat} {L:St} {b sz len:Nat} {l m:List α} {t:Bool} (he:EncOK e sz ag) (hb:L.heap b=some ⟨sz,(l++m).map e,t⟩) (kF:bs.contains b=true) (hl:len=l.length):Imm (L.frz bs).heap (.ref b sz 0 len) (.list sz (l.map e)):=by
 have:=imm_ref (off:=0) (len:=len) hb kF (pures_map he _) al;subst hl;rwa [dY,<-lY,List.take_left] at this
open H0 in
theorem c_RSame (a b:Rat) (h:rl a+rl b<=1099511627776):CallP aa 139 [ratL a,ratL b] (bL (decide (a=b))):=by
 have a1:=rl_num a;have a3:=rl_denN a;have c1:=rl_num b;have c3:=rl_denN b;refine fnP Tryz.func139 ?_;refine zg15 ?_;refine op_if 10 rfl ?_ ?_<;>intro fB iN
 ·refine zg4 ?_;refine cp am2 (c_Equal _ _ J J) ?_;refine zg2 ?_;refine op_if 17 rfl ?_ ?_<;>intro ng kf
  ·refine zg4 ?_;refine cp am2 (c_Equal _ _ J J) ?_;refine zg5 ?_;rw [<-rsm3 fB ng];exact bf
  refine zg10 ?_;rw [<-rsm2 ng];exact bf
 refine zg17 ?_;rw [<-same1 fB];exact bf
namespace H_c_IsSorted
theorem zSm {p q:Prop} (k:q) (e:p=q:=by simp only [sNF,ar,au,aq,dfq,eu,ns,aN,aK,aO,reduceIte,if_true,if_false,aX,LV.kill,kills];exact rfl):p:=e.mpr k
end H_c_IsSorted
open H_c_IsSorted in
theorem c_IsSorted (f:Nat) (k:List Rat) (h0:0<k.length) (hl:k.length<=1048576) (hs:∀ i,i+1<k.length->k.getD i 0<=k.getD (i+1) 0) (hf:∀ x∈k,∀ y∈k,CallP aa f [ratL x,ratL y] (iL (cmpR x y))):CallP aa 219 [.list 3 (k.map ratL),.clo f []] (bL true):=by
 refine fnP Tryz.func219 ?_;have eu:True:=trivial;have ns:True:=trivial;refine zg10 ?_;refine fG ?_;refine zg4 ?_;refine lp1 (fun(i:Nat) L=>(mS L [] [(5,nI64 i),(1,.clo f []),(0,.list 3 (k.map ratL))])) (fun i=>i<k.length) (fun i=>i) (k.length-1) J ?_;rintro i L1 hi;refine zg7 ?_;refine wl_if rfl ?_ ?_<;>intro fB iN
 ·have hi2:0<i:=J;have eu:((i:Int)-1).toNat=i-1:=J;have ns:((i:Int)).toNat=i:=J;have hc:=hf _ (getD_mem (p:=k) (i:=i) hi) _ (getD_mem (p:=k) (i:=i-1) J);have fe:=hs (i-1) J;rw [Nat.sub_add_cancel J] at fe;have hcg:0<=cmpR (k.getD i 0) (k.getD (i-1) 0):=cmpR_ge.2 fe;refine zg5 ?_;refine wl_regD 12 ah ?_;refine zg7 ?_;refine fG ?_;refine zg2 ?_;refine st_opc [] rfl rfl (.clo (f:=f) (cap:=[]) (args:=[ratL (k.getD i 0),ratL (k.getD (i-1) 0)]) rfl (.cons im0 (.cons im0 .nil)) ⟨rfl,fun _ h=>by cases h⟩ hc.1 ae (fun _ h=>by cases h)) (hc.2 _) ?_;refine zg3 ?_;refine wl_if rfl ?_ ?_<;>intro nm oC
  ·omega
  refine zg5 ?_;refine fG ?_;refine zg3 ?_;exact nx1 (i-1) J
 refine zg11 ?_;exact dS
namespace H_c_KTimes
theorem zSm {p q:Prop} (k:q) (e:p=q:=by simp only [sNF,ar,au,aq,dfq,aN,aK,aO,reduceIte,if_true,if_false,aX,LV.kill,kills];exact rfl):p:=e.mpr k
end H_c_KTimes
open H_c_KTimes in
theorem c_KTimes (k:List Rat) (hl:k.length<=1048576) (hr:∀ x∈k,rl x<=549755813888) (t:Rat) (ht:rl t<=549755813888):CallP aa 150 [.list 3 (k.map ratL),ratL t] (nI64 (tmN k t k.length)):=by
 refine fnP Tryz.func150 ?_;refine zg20 ?_;refine lp1 (fun(i:Nat) L=>(mS L [(3,⟨3,[ratL t],true⟩)] [(10,nI64 i),(9,nI64 k.length),(8,.list 3 (k.map ratL)),(5,nI64 (tmN k t i)),(3,.eptr 3 3 0 0)])) (fun i=>i<=k.length) (fun i=>k.length-i) 0 (az _) ?_;rintro i L1 hi;refine zg6 ?_;refine wl_if rfl ?_ ?_<;>intro wy qo
 ·have hi2:i<k.length:=J;have hx:=hr _ (getD_mem (i:=i) J);have uL:=tmN_le k t i;refine zg16 ?_;refine cp am2 (c_RSame (k.getD i 0) t J) ?_;refine zg2 ?_;refine wl_if rfl ?_ ?_<;>intro mQ ks
  ·have hT:tmN k t (i+1)=tmN k t i+1:=by rw [tmN,if_pos ks]
   refine zg2 ?_;refine cG ?_;refine zg4 ?_;refine pS ?_;exact cq
  have hT:tmN k t (i+1)=tmN k t i:=by rw [tmN,if_neg ks];rfl
  refine zg3 ?_;refine pS ?_;exact cq
 obtain rfl:i=k.length:=J;refine zg12 ?_;exact dS
namespace H_c_Compact
theorem zSm {p q:Prop} (k:q) (e:p=q:=by simp only [sNF,ar,au,aq,dfq,eu,ns,eik,sk,ig,eyl,w9,yQ,Nat.zero_add,Nat.add_zero,List.length_set,aA,aN,aK,aO,reduceIte,if_true,if_false,aX,LV.kill,kills];exact rfl):p:=e.mpr k
end H_c_Compact
open H_c_Compact in
theorem c_Compact (f:Nat) (l:List Rat) (h0:0<l.length) (hl:l.length<=1048576) (hf:∀ x∈l,∀ y∈l,CallP aa f [ratL x,ratL y] (bL (decide (x=y)))):CallOKM aa 137 ⟨3,l.map ratL,true⟩ [.ref 0 3 0 l.length,.clo f []] (.ref 0 3 0 (dsN l l.length).length) ⟨3,((dsN l l.length)++ai (l.length-(dsN l l.length).length) 0).map ratL,true⟩:=by
 refine fnM Tryz.func137 ?_;have eu:True:=trivial;have ns:True:=trivial;have eik:True:=trivial;have sk:True:=trivial;have ig:True:=trivial;have eyl:True:=trivial;have w9:True:=trivial;have yQ:True:=trivial;refine zg13 ?_;refine wl_if rfl ?_ ?_<;>intro fB iN
 ·obtain agQ:l.length=1:=J;have hE:(dsN l l.length)=l:=by rw [ds_all _ (an _) (fun j h1 h2=>by omega),eZ]
  refine zg8 ?_
  first | (rw [hE,jy,yu,aS];exact retM1 rfl .ref rfl rfl (pures_map ratE _)) | (exact retM1 rfl .ref (by first | rfl | (simp;done)) rfl (pures_map ratE _))
 refine zg9 ?_;refine lp1 (fun(i:Nat) L=>(mS L [(0,⟨3,l.map ratL,true⟩)] [(5,nI64 i),(1,.clo f []),(0,.ref 0 3 0 l.length)])) (fun i=>1<=i/\i<=l.length/\∀ j,1<=j->j<i->l.getD j 0≠l.getD (j-1) 0) (fun i=>l.length-i) 1 ⟨an _,J,fun j h1 h2=>by omega⟩ ?_;rintro i L1 ⟨kG,tZ,ak⟩;refine zg9 ?_;refine wl_if rfl ?_ ?_<;>intro il fc
 ·have hi2:i<l.length:=J;have eu:((i:Int)-1).toNat=i-1:=J;have ns:((i:Int)).toNat=i:=J;have hc:=hf _ (getD_mem (p:=l) (i:=i) hi2) _ (getD_mem (p:=l) (i:=i-1) J);refine zg5 ?_;refine wl_regD 11 ah ?_;refine zg7 ?_;refine fG ?_;refine zg2 ?_
  try simp only [t1,dfq,eu,ns,cJ]
  refine st_opc [] rfl rfl (.clo (f:=f) (cap:=[]) (args:=[ratL (l.getD i 0),ratL (l.getD (i-1) 0)]) rfl (.cons im0 (.cons im0 .nil)) ⟨rfl,fun _ h=>by cases h⟩ hc.1 ae (fun _ h=>by cases h)) (hc.2 _) ?_;refine zg2 ?_;refine wl_if rfl ?_ ?_<;>intro o4 jP
  ·have zy:dsN l (i+1)=dsN l i:=ds_n J jP;have g8:dsN l i=l.take i:=ds_all i tZ ak;have qC:(l.take i).length=i:=by rw [bZ];omega
   have ba:1<=1/\i+1<=l.length/\l.length=l.length/\(dsN l (i+1)).length+1<=i+1/\l.take (dsN l (i+1)).length=dsN l (i+1)/\∀ x,i+1-1<=x->l.getD x 0=l.getD x 0:=⟨an _,J,rfl,by rw [zy,g8,qC];omega,by rw [zy,g8,qC],fun _ _=>rfl⟩;have sk:(dsN l (i+1)).length=i:=by rw [zy,g8,qC]
   refine zg4 ?_;refine st_pure rfl (.sliceR (a:=i) (h:=l.length) rfl aV T32 (fun y hy=>by cases hy;exact⟨_,rfl⟩) (fun h=>by cases h) (fun y hy=>by cases hy) (fun _=>rfl) om om om) ?_;refine zg10 ?_;refine lp2 (fun(j:Nat) (w:List Rat) L=>(mS L [(0,⟨3,w.map ratL,true⟩)] [(7,nI64 j),(6,.ref 0 3 i (l.length-i)),(5,nI64 (dsN l (i+j)).length),(1,.clo f []),(0,.ref 0 3 0 l.length)])) (fun j w=>1<=j/\i+j<=l.length/\w.length=l.length/\(dsN l (i+j)).length+1<=i+j/\w.take (dsN l (i+j)).length=(dsN l (i+j))/\∀ x,i+j-1<=x->w.getD x 0=l.getD x 0) (fun j w=>l.length-(i+j)) 1 l ba ?_;rintro j w L2 ⟨hj1,ss,cS,eX,iM,wR⟩;refine zg9 ?_;refine wl_if rfl ?_ ?_<;>intro nx nT
   ·have yS:i+j<l.length:=J;have w9:w.getD (i+j) 0=l.getD (i+j) 0:=wR _ J;have yQ:w.getD (i+(j-1)) 0=l.getD (i+j-1) 0:=by rw [show i+(j-1)=i+j-1 by omega];exact wR _ J
    have eik:((j:Int)-1).toNat=j-1:=J;have hc:=hf _ (getD_mem (p:=l) (i:=i+j) yS) _ (getD_mem (p:=l) (i:=i+j-1) J);have o7:(dsN l (i+j)).length<l.length:=J;refine zg5 ?_;refine wl_regD 12 ah ?_;refine zg7 ?_;refine fG ?_;refine zg2 ?_
    try simp only [t1,dfq,eik,w9,yQ]
    refine st_opc [] rfl rfl (.clo (f:=f) (cap:=[]) (args:=[ratL (l.getD (i+j) 0),ratL (l.getD (i+j-1) 0)]) rfl (.cons im0 (.cons im0 .nil)) ⟨rfl,fun _ h=>by cases h⟩ hc.1 ae (fun _ h=>by cases h)) (hc.2 _) ?_;refine zg3 ?_;refine wl_if rfl ?_ ?_<;>intro tX tt
    ·have hy:=ds_y (k:=l) (i:=i+j) J tt;have eyl:(dsN l (i+(j+1))).length=(dsN l (i+j)).length+1:=by rw [<-fT,hy];simp
     have ot:(dsN l (i+j+1)).length=(dsN l (i+j)).length+1:=by rw [hy];simp
     have hnA:1<=j+1/\i+(j+1)<=l.length/\(w.set (dsN l (i+j)).length (l.getD (i+j) 0)).length=l.length/\(dsN l (i+(j+1))).length+1<=i+(j+1)/\(w.set (dsN l (i+j)).length (l.getD (i+j) 0)).take (dsN l (i+(j+1))).length=dsN l (i+(j+1))/\∀ x,i+(j+1)-1<=x->(w.set (dsN l (i+j)).length (l.getD (i+j) 0)).getD x 0=l.getD x 0:=⟨J,J,by simp [cS],by rw [<-fT,ot];omega,by rw [<-fT,ot,hy,nV,List.take_set_of_le (an _),iM,List.getElem?_set_self J];rfl,fun x hx=>by rw [set_getD _ _ _ _ J,if_neg J];exact wR x J⟩;refine zg9 ?_
     try simp only [t1,dfq,w9,cJ]
     refine zg5 ?_;refine cG ?_;refine zg6 ?_;refine bq ?_;exact nx2 (j+1) (w.set (dsN l (i+j)).length (l.getD (i+j) 0)) hnA
    have hy:=ds_n (k:=l) (i:=i+j) J tt;have eyl:(dsN l (i+(j+1))).length=(dsN l (i+j)).length:=by rw [<-fT,hy]
    have ti:1<=j+1/\i+(j+1)<=l.length/\w.length=l.length/\(dsN l (i+(j+1))).length+1<=i+(j+1)/\w.take (dsN l (i+(j+1))).length=dsN l (i+(j+1))/\∀ x,i+(j+1)-1<=x->w.getD x 0=l.getD x 0:=⟨J,J,cS,by rw [<-fT,hy];omega,by rw [<-fT,hy];exact iM,fun x hx=>wR x J⟩;refine zg5 ?_;refine bq ?_;exact nx2 (j+1) w ti
   obtain rfl:j=l.length-i:=J;have sk:i+(l.length-i)=l.length:=J;have cd:=eX;rw [sk] at eX iM;have ig:=clr_eq (w:=w) (m:=(dsN l l.length).length) (n:=l.length) J cS;rw [iM] at ig;refine zg9 ?_;refine st_pure rfl (.sliceR (a:=(dsN l (i+(l.length-i))).length) (h:=l.length) rfl aV T32 (fun y hy=>by cases hy;exact⟨_,rfl⟩) (fun h=>by cases h) (fun y hy=>by cases hy) (fun _=>rfl) om om om) ?_;refine st_store rfl (.clr (n:=l.length-(dsN l (i+(l.length-i))).length) (off:=0+(dsN l (i+(l.length-i))).length) (z:=ratL 0) (blk:=⟨3,w.map ratL,true⟩) rfl rfl rfl rfl lN aV (ratL_zero ▸ Z32a) (ratE.csize 0)) ?_;refine zg6 ?_;refine st_pure rfl (.sliceRh rfl aV T32 rfl om om) ?_;refine zg9 ?_
   first | (rw [hE,jy,yu,aS];exact retM1 rfl .ref rfl rfl (pures_map ratE _)) | (exact retM1 rfl .ref (by first | rfl | (simp;done)) rfl (pures_map ratE _))
  have hnx:∀ j,1<=j->j<i+1->l.getD j 0≠l.getD (j-1) 0:=fun j h1 h2=>by
   rcases Nat.lt_succ_iff_lt_or_eq.1 h2 with e | rfl
   ·exact ak j h1 e
   exact jP
  refine zg5 ?_;refine bq ?_;exact nx1 (i+1) ⟨J,J,hnx⟩
 obtain rfl:i=l.length:=J;have hE:(dsN l l.length)=l:=by rw [ds_all _ (an _) ak,eZ]
 refine zg12 ?_
 first | (rw [hE,jy,yu,aS];exact retM1 rfl .ref rfl rfl (pures_map ratE _)) | (exact retM1 rfl .ref (by first | rfl | (simp;done)) rfl (pures_map ratE _))
namespace H_c_KcopiedO
theorem zSm {p q:Prop} (k:q) (e:p=q:=by simp only [sNF,ar,au,aq,dfq,Rat.add_zero,dJ,a9,Nat.zero_add,bA,aQ,bc,aR,bh,aZ,aS,aN,aK,aO,reduceIte,if_true,if_false,aX,LV.kill,kills];exact rfl):p:=e.mpr k
end H_c_KcopiedO
open H_c_KcopiedO in
theorem c_KcopiedO (p:List Rat) (hl:p.length<=1048576) (dC:∀ x∈p,rl x<=274877906944):CallOK aa 138 [.list 3 (p.map ratL)] (.ref 1 3 0 p.length) [⟨3,p.map ratL,true⟩]:=by
 refine fnO Tryz.func138 ?_;have dJ:True:=trivial;have a9:True:=trivial;refine ack ?_;rintro k L1 hk;refine zg6 ?_;refine wl_if rfl ?_ ?_<;>intro vv wI
 ·have dk:k<p.length:=J;have hrk:=dC _ (getD_mem dk);have hA:=c_RAdd (p.getD k 0) 0 (by rw [show rl 0=1 from rfl];omega);rw [fw] at hA;have dJ:=take_snocL (l:=p) dk;have a9:((p.take k).map ratL).take k=(p.take k).map ratL:=aH (by rw [aA,bZ];omega);refine zg15 ?_;refine fu ?_;refine cp am2 (hA) ?_;refine zg1 ?_;refine st_store rfl acw ?_;refine zg4 ?_;refine wl_regW ((Weak.kill _ 5).trans (Weak.kill _ 19)) ?_;refine bq ?_;exact qi
 obtain rfl:k=p.length:=J;have hE:p.take p.length=p:=eZ;refine zg12 ?_;rw [hE];exact ret1own rfl rfl (pures_map ratE _)
namespace H_c_Distinct
theorem zSm {p q:Prop} (k:q) (e:p=q:=by simp only [sNF,ar,au,aq,aN,aK,aO,reduceIte,if_true,if_false,aX,LV.kill,kills];exact rfl):p:=e.mpr k
end H_c_Distinct
open H_c_Distinct in
theorem c_Distinct (k:List Rat) (h0:0<k.length) (hl:k.length<=1048576) (hr:∀ x∈k,rl x<=274877906944):CallP aa 75 [.list 3 (k.map ratL)] (.list 3 ((dsN k k.length).map ratL)):=by
 refine fnP Tryz.func75 ?_;refine zg8 ?_;refine st_call1 [] rfl rfl (.cons (.pure (pure_lst ratE _ _)) .nil) (c_KcopiedO k hl hr) (pures_map ratE _) rfl ?_;refine st_callM 1000065 rfl rfl rfl (pures_map ratE _) (.cons .ref (.cons (.imm (.pure rfl)) .nil)) (.ref h0) (c_Compact 139 k h0 hl (fun x hx y hy=>c_RSame x y (by have:=hr x hx;have:=hr y hy;omega))) rfl (pures_map ratE _) ?_;refine zg4 ?_;exact ret1f [1000065] rfl rfl (imm_pre ratE rfl rfl rfl)
open H0 in
theorem c_KPoles (k:List Rat) (d:Nat) (h:d+1<=k.length) (hl:k.length<=1048576):CallP aa 181 [.list 3 (k.map ratL),nI64 d] (nI64 (k.length-d-1)):=by
 refine fnP Tryz.func181 ?_;refine zg10 ?_;refine st_pure rfl kA ?_;refine st_pure rfl kA ?_;refine zg4 ?_;refine ret1 ?_ (.pure rfl);simp only [e1,e2,e3,e4,p1,p2,p3,q1,q2,q3,aq];congr 2;omega
namespace H_c_KCheck
theorem zSm {p q:Prop} (k:q) (e:p=q:=by simp only [sNF,ar,au,aq,dfq,gY,aN,aK,aO,reduceIte,if_true,if_false,aX,LV.kill,kills];exact rfl):p:=e.mpr k
end H_c_KCheck
open H_c_KCheck in
theorem c_KCheck (k:List Rat) (d:Nat) (h:kOK k d):CallP aa 135 [.list 3 (k.map ratL),nI64 d] (iL 0):=by
 have dV:=h.d1;have hd6:=h.d6;have hlen:=h.len;have ahA:=h.max;have hr:∀ x∈k,rl x<=274877906944:=fun x hx=>aw (h.sz x hx) ae;have gY:((k.length:Int)-1).toNat=k.length-1:=J;have fH:=h.sz _ (getD_mem (p:=k) (i:=0) J);have bG:=h.sz _ (getD_mem (p:=k) (i:=k.length-1) J);have hS:CallP aa 219 [.list 3 (k.map ratL),.clo 110 []] (bL true):=c_IsSorted 110 k J J h.srt (fun x hx y hy=>c_RCmp x y (by have:=h.sz x hx;have:=h.sz y hy;omega));refine fnP Tryz.func135 ?_;refine zg11 ?_;refine st_pure rfl kA ?_;refine st_pure rfl kA ?_;refine zg9 ?_;refine op_if 18 rfl ?_ ?_<;>intro jU kg
 ·omega
 refine zg6 ?_;refine wl_if rfl ?_ ?_<;>intro il fc
 ·omega
 refine zg5 ?_;refine st_pure rfl (.bin rfl rfl (mul64 J J)) ?_;refine st_pure rfl mo ?_;refine zg4 ?_;refine wl_if rfl ?_ ?_<;>intro uC sL
 ·omega
 refine zg7 ?_;refine wl_if rfl ?_ ?_<;>intro pg nY
 ·omega
 refine zg5 ?_;refine wl_regD 15 ah ?_;refine zg1 ?_;refine cp am2 (hS) ?_;refine zg8 ?_;refine st_pure (guardX (v:=false) rfl rfl (rfl) rfl) (.bin rfl rfl (sub64 J J)) ?_;refine zg2 ?_
 try simp only [t1,dfq,gY]
 refine cp am2 (c_RSame (k.getD 0 0) (k.getD (k.length-1) 0) J) ?_;refine zg3 ?_;refine wl_condY (b:=_) rfl (decide_eq_false h.ne) ?_;refine zg6 ?_;refine cp am1 (c_Distinct k J J hr) ?_;refine zg5 ?_;refine lp1 (fun(i:Nat) L=>(mS L [] [(50,nI64 i),(49,nI64 (dsN k k.length).length),(48,.list 3 ((dsN k k.length).map ratL)),(1,nI64 d),(0,.list 3 (k.map ratL))])) (fun i=>i<=(dsN k k.length).length) (fun i=>(dsN k k.length).length-i) 0 (az _) ?_;rintro i L1 hi;refine zg6 ?_;refine wl_if rfl ?_ ?_<;>intro aii h51
 ·have eX:=dsN_le k k.length;have hi2:i<(dsN k k.length).length:=J;have hm:=dsN_mem k k.length (an _) _ (getD_mem hi2);have hrt:=h.sz _ hm;have he1:=h.endk _ hm;have he2:=h.ink _ hm;refine zg16 ?_;refine cp am2 (c_KTimes k J (fun x hx=>aw (hr x hx) ae) ((dsN k k.length).getD i 0) J) ?_;refine zg4 ?_;refine wl_regD 16 ah ?_;refine zg4 ?_;refine cp am2 (c_RSame ((dsN k k.length).getD i 0) (k.getD 0 0) J) ?_;refine zg1 ?_;refine op_if 62 rfl ?_ ?_<;>intro abr tU
  ·refine zg7 ?_
   try simp only [t1,dfq,gY]
   refine zg11 ?_;refine st_pure (guardX (v:=true) rfl rfl (rfl) rfl) (.bin rfl rfl (add64 J J)) ?_;refine zg3 ?_;refine op_if 79 rfl ?_ ?_<;>intro aa9 h79
   ·have:=he1 (by first | exact .inl tU | exact .inr yL);omega
   refine zg3 ?_;refine st_skip tO ?_;refine st_skip tO ?_;refine st_skip tO ?_;refine st_pure (guardX (v:=false) rfl rfl (aa9) rfl) (.pickF rfl (we)) ?_;refine zg7 ?_;refine pS ?_;exact cq
  refine zg4 ?_;refine st_pure (guardX (v:=false) rfl rfl (abr) rfl) (.bin rfl rfl (sub64 J J)) ?_;refine zg2 ?_
  try simp only [t1,dfq,gY]
  refine cp am2 (c_RSame ((dsN k k.length).getD i 0) (k.getD (k.length-1) 0) J) ?_;refine zg8 ?_;refine op_if 73 rfl ?_ ?_<;>intro adb yL
  ·refine zg2 ?_;refine st_pure (guardX (v:=true) rfl rfl (adb) rfl) (.bin rfl rfl (add64 J J)) ?_;refine zg3 ?_;refine op_if 79 rfl ?_ ?_<;>intro aa9 h79
   ·have:=he1 (by first | exact .inl tU | exact .inr yL);omega
   refine zg3 ?_;refine st_skip tO ?_;refine st_skip tO ?_;refine st_skip tO ?_;refine st_pure (guardX (v:=false) rfl rfl (aa9) rfl) (.pickF rfl (we)) ?_;refine zg7 ?_;refine pS ?_;exact cq
  refine zg9 ?_;refine st_pure aa8 (.move _) ?_;refine st_pure aa8 (.move _) ?_;refine st_pure aa8 (.bin rfl rfl rfl) ?_;refine st_pure (guardX (v:=false) rfl rfl (rfl) rfl) (.pickT rfl (we)) ?_;refine zg3 ?_;refine wl_if rfl ?_ ?_<;>intro ahv h87
  ·have:=he2 tU yL;omega
  refine zg3 ?_;refine pS ?_;exact cq
 refine zg11 ?_;exact dS
def sqS (s:Rat × Rat):Rat × Rat:=if hasR s 0=true then(0,mxR (s.1*s.1) (s.2*s.2)) else(mnR (s.1*s.1) (s.2*s.2),mxR (s.1*s.1) (s.2*s.2))
def muS (a b:Rat × Rat):Rat × Rat:=hulP (hulP (hulP (a.1*b.1,a.1*b.1) (a.1*b.2,a.1*b.2)) (a.2*b.1,a.2*b.1)) (a.2*b.2,a.2*b.2)
def rcS (b:Rat × Rat):Rat × Rat:=(mnR (1/b.1) (1/b.2),mxR (1/b.1) (1/b.2))
def quS (a b:Rat × Rat):Rat × Rat:=muS a (rcS b)
def bdS (R:Nat) (s:Rat × Rat):Prop:=rl s.1<=R/\rl s.2<=R
theorem bdS.le {R S:Nat} {s:Rat × Rat} (h:bdS R s) (k:R<=S):bdS S s:=⟨aw h.1 k,aw h.2 k⟩
theorem mn_rl {a b:Rat} {R:Nat} (ha:rl a<=R) (hb:rl b<=R):rl (mnR a b)<=R:=by unfold mnR;split<;>assumption
theorem mx_rl3 {a b:Rat} {R:Nat} (ha:rl a<=R) (hb:rl b<=R):rl (mxR a b)<=R:=by unfold mxR;split<;>assumption
theorem hul_bd {R:Nat} {s t:Rat × Rat} (hs:bdS R s) (ht:bdS R t):bdS R (hulP s t):=⟨mn_rl hs.1 ht.1,mx_rl3 hs.2 ht.2⟩
theorem muS_bd {R S:Nat} {a b:Rat × Rat} (ha:bdS R a) (hb:bdS S b):bdS (R+S) (muS a b):=by
 obtain⟨a1,a2⟩:=ha;obtain⟨b1,b2⟩:=hb;have h:∀ x y:Rat,rl x<=R->rl y<=S->bdS (R+S) (x*y,x*y):=fun x y hx hy=>by
  have:=rl_mul x y;exact⟨by show rl (x*y)<=_;omega,by show rl (x*y)<=_;omega⟩
 exact hul_bd (hul_bd (hul_bd (h _ _ a1 b1) (h _ _ a1 b2)) (h _ _ a2 b1)) (h _ _ a2 b2)
theorem rc_bd {R:Nat} {b:Rat × Rat} (hb:bdS R b):bdS (R+1) (rcS b):=by
 have h:∀ x:Rat,rl x<=R->rl (1/x)<=R+1:=fun x hx=>by
  have:=rl_div 1 x;have:rl 1=1:=rfl;omega
 exact⟨mn_rl (h _ hb.1) (h _ hb.2),mx_rl3 (h _ hb.1) (h _ hb.2)⟩
theorem quS_bd {R S:Nat} {a b:Rat × Rat} (ha:bdS R a) (hb:bdS S b):bdS (R+(S+1)) (quS a b):=muS_bd ha (rc_bd hb)
theorem sqS_bd {R:Nat} {s:Rat × Rat} (hs:bdS R s) (hR:1<=R):bdS (2*R) (sqS s):=by
 have h1:=rl_mul s.1 s.1;have h2:=rl_mul s.2 s.2;have h3:=hs.1;have h4:=hs.2;have h0:rl 0=1:=rfl;unfold sqS;split
 ·exact⟨by show rl 0<=_;omega,mx_rl3 J J⟩
 exact⟨mn_rl J J,mx_rl3 J J⟩
structure _root_.Go.Lg.Bx3 where
 x:Rat × Rat
 y:Rat × Rat
 z:Rat × Rat
abbrev bxL (b:Bx3):LV:=.agg [spL b.x,spL b.y,spL b.z]
theorem bxE:EncOK bxL 18 true:=by
 refine⟨fun b=>?_,fun b=>rfl,fun b=>?_⟩
 ·simp [bxL,LV.csize,csizes,spE.csize]
 simp [bxL,LV.pure,pures,spE.pure]
def bdB (R:Nat) (b:Bx3):Prop:=bdS R b.x/\bdS R b.y/\bdS R b.z
theorem bxL_kill (q:Bx3) (b:Nat):(bxL q).kill b=bxL q:=LV.kill_pure b _ (bxE.pure q)
open H_c_Distinct in
theorem c_SMul (a b:Rat × Rat) (R:Nat) (hR:R<=1000000000) (ha:bdS R a) (hb:bdS R b):CallP aa 175 [spL a,spL b] (spL (muS a b)):=by
 obtain⟨a1,a2⟩:=ha;obtain⟨y1,y2⟩:=hb;have m11:=rl_mul a.1 b.1;have m12:=rl_mul a.1 b.2;have m21:=rl_mul a.2 b.1;have m22:=rl_mul a.2 b.2;have hP:∀ x:Rat,rl x<=2*R->bdS (2*R) (x,x):=fun x hx=>⟨hx,hx⟩;have c0:=hP (a.1*b.1) J;have c1:=hul_bd c0 (hP (a.1*b.2) J);have c2:=hul_bd c1 (hP (a.2*b.1) J);obtain⟨d1,d2⟩:=c1;obtain⟨f1,f2⟩:=c2;refine fnP Tryz.func175 ?_;refine zg13 ?_;refine cp am2 (c_RMul a.1 b.1 J) ?_;refine cp am1 (c_SPoint (a.1*b.1) J) ?_;refine zg27 ?_;refine fq ?_;refine zg11 ?_;refine wl_regD 8 ah ?_;refine zg5 ?_;refine cp am2 (c_RMul a.1 b.2 J) ?_;refine cp am1 (c_SPoint (a.1*b.2) J) ?_;refine cp am2 (c_SHull ((a.1*b.1),(a.1*b.1)) ((a.1*b.2),(a.1*b.2)) (by show rl (a.1*b.1)+rl (a.1*b.2)<=_;omega) (by show rl (a.1*b.1)+rl (a.1*b.2)<=_;omega)) ?_;refine zg4 ?_;refine wl_regW (Weak.kill _ 7) ?_;refine zg4 ?_;refine fq ?_;refine zg11 ?_;refine wl_regD 8 ah ?_;refine zg5 ?_;refine cp am2 (c_RMul a.2 b.1 J) ?_;refine cp am1 (c_SPoint (a.2*b.1) J) ?_;refine cp am2 (c_SHull (hulP ((a.1*b.1),(a.1*b.1)) ((a.1*b.2),(a.1*b.2))) ((a.2*b.1),(a.2*b.1)) (by show _+rl (a.2*b.1)<=_;omega) (by show _+rl (a.2*b.1)<=_;omega)) ?_;refine zg4 ?_;refine wl_regW (Weak.kill _ 7) ?_;refine zg4 ?_;refine wl_unroll ?_;refine zg6 ?_
 refine wl_condX (b:=_) rfl ae ?_;refine zg11 ?_;refine wl_regD 8 ah ?_;refine zg5 ?_;refine cp am2 (c_RMul a.2 b.2 J) ?_;refine cp am1 (c_SPoint (a.2*b.2) J) ?_;refine cp am2 (c_SHull (hulP (hulP ((a.1*b.1),(a.1*b.1)) ((a.1*b.2),(a.1*b.2))) ((a.2*b.1),(a.2*b.1))) ((a.2*b.2),(a.2*b.2)) (by show _+rl (a.2*b.2)<=_;omega) (by show _+rl (a.2*b.2)<=_;omega)) ?_;refine zg4 ?_;refine wl_regW (Weak.kill _ 7) ?_;refine zg4 ?_;refine km ?_;refine zg12 ?_;exact iW
open H0 in
theorem c_SHas (s:Rat × Rat) (x:Rat) (h1:rl s.1+rl x<=549755813888) (h2:rl x+rl s.2<=549755813888):CallP aa 92 [spL s,ratL x] (bL (hasR s x)):=by
 refine fnP Tryz.func92 ?_;refine zg12 ?_;refine cp am2 (c_RCmp _ _ J) ?_;refine zg2 ?_;refine op_if 10 rfl ?_ ?_<;>intro fB iN
 ·refine zg3 ?_;refine cp am2 (c_RCmp _ _ J) ?_;refine zg6 ?_;rw [<-has1 fB];exact bf
 refine zg10 ?_;rw [<-has2 fB];exact bf
open H_c_Distinct in
theorem c_SSqr (s:Rat × Rat) (R:Nat) (hR:R<=1000000000) (ha:bdS R s):CallP aa 162 [spL s] (spL (sqS s)):=by
 obtain⟨a1,a2⟩:=ha;have m1:=rl_mul s.1 s.1;have m2:=rl_mul s.2 s.2;have h0:rl 0=1:=rfl;refine fnP Tryz.func162 ?_;refine zg7 ?_;refine wl_regD 12 ah ?_;refine zg4 ?_;refine cp am2 (c_RMul s.1 s.1 J) ?_;refine zg4 ?_;refine cp am2 (c_RMul s.2 s.2 J) ?_;refine cp am2 (c_SOf (s.1*s.1) (s.2*s.2) J) ?_;refine zg8 ?_;refine fu ?_;refine cp am2 (c_SHas s 0 J J) ?_;refine zg2 ?_;refine wl_if rfl ?_ ?_<;>intro ng kf
 ·have hS:sqS s=(0,mxR (s.1*s.1) (s.2*s.2)):=if_pos kf;refine zg1 ?_;refine fu ?_;refine zg11 ?_;rw [hS];exact iW
 have hS:sqS s=(mnR (s.1*s.1) (s.2*s.2),mxR (s.1*s.1) (s.2*s.2)):=if_neg (by rw [kf];decide);refine zg9 ?_;rw [hS];exact iW
open H_c_Distinct in
theorem c_SQuo (a b:Rat × Rat) (R:Nat) (hR:R<=100000000) (ha:bdS R a) (hb:bdS R b) (hz:hasR b 0=false):CallP aa 166 [spL a,spL b] (.tup [spL (quS a b),iL 0]):=by
 have ha2:=ha.le (Nat.le_succ R);have hrc:=rc_bd hb;obtain⟨y1,y2⟩:=hb;have h0:rl 0=1:=rfl;have bG:rl 1=1:=rfl;have qd1:=rl_div 1 b.1;have qd2:=rl_div 1 b.2;have vu:CallP aa 190 [iL 1] (ratL 1):=c_RInt 1 ae ae;have jX:=c_RQuo 1 b.1 J;have tj:=c_RQuo 1 b.2 J;refine fnP Tryz.func166 (ht:=(tame2 (spE.pure _) rfl)) ?_;refine zg12 ?_;refine fu ?_;refine cp am2 (c_SHas b 0 J J) ?_;refine zg2 ?_;refine wl_if rfl ?_ ?_<;>intro xk h13
 ·rw [hz] at xk
  cases xk
 refine zg4 ?_;refine cp am1 (vu) ?_;refine zg9 ?_;refine cp am2 (jX) ?_;refine zg13 ?_;refine cp am2 (tj) ?_;refine zg9 ?_;refine wl_regD 5 ah ?_;refine zg3 ?_;refine cp am2 (c_SOf (1/b.1) (1/b.2) J) ?_;refine cp am2 (c_SMul a (rcS b) (R+1) J ha2 hrc) ?_;refine zg5 ?_;exact retCT [] rfl rfl rfl (spE.csize _) (spL_all _) T48 (.pure (spE.pure _)) rfl (.pure rfl)
def d3V (l:List Int) (k:Nat):V3:=⟨(nbV l k).1,(nbV l (nbV l k).2).1,(nbV l (nbV l (nbV l k).2).2).1⟩
def d3K (l:List Int) (k:Nat):Nat:=(nbV l (nbV l (nbV l k).2).2).2
theorem d3_rl (l:List Int) (k:Nat):bd3 1 (d3V l k):=⟨nb_rl _ _,nb_rl _ _,nb_rl _ _⟩
theorem d3K_le {l:List Int} {k:Nat} (hl:l.length<=500) (hk:k<=500):d3K l k<=500:=nbK_le hl (nbK_le hl (nbK_le hl hk))
def dwV (l:List Int) (k:Nat):Rat:=((1+(nxV l k 3).tmod 3:Int):Rat)
def dpV (l:List Int) (k:Nat):PoR:=⟨d3V l k,dwV l (d3K l k)⟩
def dpK (l:List Int) (k:Nat):Nat:=nxK l (d3K l k)
theorem dw_in (l:List Int) (k:Nat):1<=1+(nxV l k 3).tmod 3/\1+(nxV l k 3).tmod 3<=3:=by
 have h:=nxV_lt (l:=l) (k:=k) (n:=3) ae;rw [Int.tmod_eq_emod_of_nonneg h.1];omega
theorem dw_rl (l:List Int) (k:Nat):rl (dwV l k)<=1:=by
 have:=dw_in l k;exact rl_int J
theorem dw_pos (l:List Int) (k:Nat):0<dwV l k:=by
 have:=dw_in l k;exact ou.2 J
theorem dpK_le {l:List Int} {k:Nat} (hl:l.length<=500) (hk:k<=500):dpK l k<=500:=nxK_le hl (d3K_le hl hk)
def dqK (l:List Int):Nat->Nat->Nat
 | k,0=>k
 | k,c+1=>dqK l (dpK l k) c
theorem dqK_le {l:List Int} (hl:l.length<=500):∀ (k c:Nat),k<=500->dqK l k c<=500
 | k,0,h=>h
 | k,c+1,h=>dqK_le hl _ c (dpK_le hl h)
def kn0 (d:Nat) (t:Rat):List Rat:=ai (d+1) t++ai (d+1) (t+1)
def dtV (l:List Int) (k:Nat):Rat:=((nxV l k 4-2:Int):Rat)
theorem dt_rl (l:List Int) (k:Nat):rl (dtV l k)<=1/\rl (dtV l k+1)<=1:=by
 have h:=nxV_lt (l:=l) (k:=k) (n:=4) ae;refine⟨rl_int J,?_⟩;have e:dtV l k+1=((nxV l k 4-1:Int):Rat):=by
  unfold dtV;rw [show nxV l k 4-1=(nxV l k 4-2)+1 by omega,yk];rfl
 rw [e];exact rl_int J
def cD (l:List Int) (k:Nat) (n:Nat):Nat:=(1+nxV l k (n:Int)).toNat
theorem cD_in (l:List Int) (k:Nat) {n:Nat} (hn:0<n):1<=cD l k n/\cD l k n<=n/\(cD l k n:Int)=1+nxV l k (n:Int):=by
 have h:=nxV_lt (l:=l) (k:=k) (n:=(n:Int)) J;unfold cD;omega
theorem any_3 {P:Program} {ops:Array Oper} {D:Array Bool} {L:St} {K:St->Prop} {fuel:Nat} (i j k:Nat) (o o2 o3:Oper) (hr:Region.ready .any ops D=[i,j,k]) (ho:ops[i]?=some o) (pF:ops[j]?=some o2) (xO:ops[k]?=some o3)
  (h:opsL P false ops [o] L (fun L'=>anyL P ops fuel (D.setIfInBounds i true) L' K)) (h2:opsL P false ops [o2] L (fun L'=>anyL P ops fuel (D.setIfInBounds j true) L' K)) (h3:opsL P false ops [o3] L (fun L'=>anyL P ops fuel (D.setIfInBounds k true) L' K)):anyL P ops (fuel+1) D L K:=by
 simp only [opsL] at h h2 h3;refine⟨fun e=>(by rw [hr] at e;cases e),fun x hx=>?_⟩;rw [hr] at hx;simp only [bp,cN,or_false] at hx;rcases hx with rfl | rfl | rfl
 ·obtain⟨L',h1,h4⟩:=h;exact⟨o,L',ho,h1,h4⟩
 ·obtain⟨L',h1,h4⟩:=h2;exact⟨o2,L',pF,h1,h4⟩
 obtain⟨L',h1,h4⟩:=h3;exact⟨o3,L',xO,h1,h4⟩
theorem nxV1 (l:List Int) (k:Nat):nxV l k 1=0:=by
 have:=nxV_lt (l:=l) (k:=k) (n:=1) ae;omega
theorem rep_snoc {α:Type} (n:Nat) (t:α):ai n t++[t]=ai (n+1) t:=by
 rw [qO]
section
variable {P:Program} {H:Heap} {ρ:Operand->LV} {T:TypeId}
theorem bdPo {o0 o1:Operand} {p:V3} {r:Rat} [z:ZI P T (.agg [.agg [ratL 0,ratL 0,ratL 0],ratL 0])] [s:SI P T [(9,true),(3,true)]] (h0:ρ o0=ptL p) (h1:ρ o1=ratL r) :
  OpP P H ρ (.build T #[(0,o0),(1,o1)]) (poL ⟨p,r⟩):=by
 have:=OpP.bd (H:=H) (ρ:=ρ) (ps:=#[(0,o0),(1,o1)]) (z:=z) (s:=s) (by simp [lay,LV.csize,csizes,ratE.csize,ratE.isAgg,isAgg_agg]) (by
  intro q hq;simp only [bp,cN,or_false] at hq;rcases hq with rfl | rfl
  ·exact⟨_,rfl,by rw [h0];simp [lay,ptE.csize,LV.csize,csizes,ratE.csize];rfl,by rw [h0];exact LV.pure_ne_any (ptE.pure _),by rw [h0];exact LV.pure_ne_tup (ptE.pure _)⟩
  exact⟨_,rfl,by rw [h1];simp [lay,ratE.csize,ratE.isAgg],by rw [h1];exact LV.pure_ne_any (ratE.pure _),by rw [h1];exact LV.pure_ne_tup (ratE.pure _)⟩)
 simp only [buildL,jt,lM,lZ,h0,h1] at this;exact this
end
def knL (d:Nat) (T:Rat):Nat->List Rat
 | 0=>ai (d+1) T
 | i+1=>knL d T i++[T+1]
theorem knL_eq (d:Nat) (T:Rat):∀ i,knL d T i=ai (d+1) T++ai i (T+1)
 | 0=>by rw [knL,yu,aS]
 | i+1=>by rw [knL,knL_eq d T i,nR,qO (n:=i)]
theorem knL_len (d:Nat) (T:Rat) (i:Nat):(knL d T i).length=d+1+i:=by rw [knL_eq];simp
theorem knL_end (d:Nat) (T:Rat):knL d T (d+1)=kn0 d T:=knL_eq d T (d+1)
theorem retMCf {P:Program} {L:St} {a:Nat} {T:TypeId} {b sz:Nat} {x y:LV} {m:Bool} {n:Nat} {ag:Bool} {blk:Blk} (bs:List Nat) (h0:bs.contains 0=false) (h:L.slot a=.eptr b sz 0 0) (hb:L.heap b=some ⟨sz,[x],m⟩)
  (hx:x.csize=sz) (gB:x.at 0 n ag=some x) (hT:TyIs P T n ag) (hi:Imm (L.frz bs).heap x y) (hc:(L.frz bs).heap 0=some blk) (hm:blk.mt=true) (hp:pures blk.vals=true):RetM P [.cell a T] L y blk :=
 ⟨[x],[y],(L.frz bs).heap,.cons ⟨b,sz,0,0,_,x,n,ag,h,hb,rfl,rfl,hx,gB,hT⟩ .nil,frz_le bs h0,.cons (.imm hi) .nil,hc,hm,hp,rfl⟩
namespace H_c_DPoint
theorem zSm {p q:Prop} (k:q) (e:p=q:=by simp only [sNF,ar,au,aq,l1,aN,aK,aO,reduceIte,if_true,if_false,ptL_kill,poL_kill,kills_map poE,kills_map ratE,ratL_kill,spL_kill,LV.kill,kills,dice_kill];exact rfl):p:=e.mpr k
end H_c_DPoint
open H_c_DPoint in
theorem c_DPoint (l:List Int) (k:Nat) (hl:l.length<=500) (hk:k<=500):CallOKM aa 131 ⟨2,[diceL l k],true⟩ [.eptr 0 2 0 0] (ptL (d3V l k)) ⟨2,[diceL l (d3K l k)],true⟩:=by
 have k1:=nbK_le (l:=l) hl hk;have k2:=nbK_le (l:=l) hl k1;refine fnM Tryz.func131 ?_;refine zg8 ?_;refine st_callMp 0 rfl rfl rfl (dice_pure l _) (.cons .ptr .nil) .ptr (c_number l k J J) rfl (dice_pure l _) (ratE.pure _) ?_;refine zg1 ?_;refine st_callMp 0 rfl rfl rfl (dice_pure l _) (.cons .ptr .nil) .ptr (c_number l (nbV l k).2 J J) rfl (dice_pure l _) (ratE.pure _) ?_;refine zg1 ?_;refine st_callMp 0 rfl rfl rfl (dice_pure l _) (.cons .ptr .nil) .ptr (c_number l (nbV l (nbV l k).2).2 J J) rfl (dice_pure l _) (ratE.pure _) ?_;refine zg5 ?_;exact retMC rfl rfl cs (at_all cs rfl) T54 (.pure pu) rfl rfl (dice_pure l _)
open H_c_DPoint in
theorem c_Dpole (l:List Int) (k:Nat) (hl:l.length<=500) (hk:k<=500):CallOKM aa 67 ⟨2,[diceL l k],true⟩ [.eptr 0 2 0 0,bL false] (poL (dpV l k)) ⟨2,[diceL l (dpK l k)],true⟩:=by
 have k1:=d3K_le (l:=l) hl hk;have hb:=nxV_lt (l:=l) (k:=d3K l k) (n:=3) ae;have hd:=dw_in l (d3K l k);refine fnM Tryz.func67 ?_;refine zg8 ?_;refine st_callMp 0 rfl rfl rfl (dice_pure l _) (.cons .ptr .nil) .ptr (c_DPoint l k J J) rfl (dice_pure l _) (ptE.pure _) ?_;refine zg10 ?_;refine wl_if rfl ?_ ?_<;>intro gM h8
 ·first | exact h8.elim | cases gM
 refine zg3 ?_;refine wl_regA ?_;refine any_2 0 1 _ _ ah rfl rfl ?_ ?_
 ·refine fQ ?_;refine any_1 1 _ ah rfl ?_;refine fQ ?_;refine any_1 2 _ ah rfl ?_;refine zM ?_;refine any_1 3 _ ah rfl ?_;refine st_pure rfl (.bin rfl rfl (rem64 ae)) ?_;refine xg ?_;refine nP ?_;exact tn
 refine fQ ?_;refine any_2 0 2 _ _ ah rfl rfl ?_ ?_
 ·refine fQ ?_;refine any_1 2 _ ah rfl ?_;refine zM ?_;refine any_1 3 _ ah rfl ?_;refine st_pure rfl (.bin rfl rfl (rem64 ae)) ?_;refine xg ?_;refine nP ?_;exact tn
 refine zM ?_;refine any_2 0 3 _ _ ah rfl rfl ?_ ?_
 ·refine fQ ?_;refine any_1 3 _ ah rfl ?_;refine st_pure rfl (.bin rfl rfl (rem64 ae)) ?_;refine xg ?_;refine nP ?_;exact tn
 refine st_pure rfl (.bin rfl rfl (rem64 ae)) ?_;refine st_nil ?_;refine any_2 0 4 _ _ ah rfl rfl ?_ ?_
 ·refine zg1 ?_;refine xg ?_;refine nP ?_;exact tn
 refine st_pure rfl mo ?_;refine st_nil ?_;refine any_2 0 5 _ _ ah rfl rfl ?_ ?_
 ·refine zg1 ?_;refine ac8 ?_;refine st_nil ?_;refine any_1 7 _ ah rfl ?_;refine nP ?_;exact tn
 refine cp am1 (c_FInt (1+(nxV l (d3K l k) 3).tmod 3) J J) ?_;refine st_nil ?_;refine any_1 0 _ ah rfl ?_;refine fQ ?_;refine any_1 6 _ ah rfl ?_;refine s0bd (bdPo rfl rfl) ?_;refine st_nil ?_;refine any_1 7 _ ah rfl ?_;refine nP ?_;exact tn
namespace H_c_DKnots0
theorem zSm {p q:Prop} (k:q) (e:p=q:=by simp only [sNF,ar,au,aq,l1,aek,ac4,dJ,wo,dfq,List.replicate_zero,Nat.add_zero,bA,aQ,bc,aR,List.length_append,List.length_replicate,aN,aK,aO,reduceIte,if_true,if_false,ptL_kill,poL_kill,kills_map poE,kills_map ratE,ratL_kill,spL_kill,LV.kill,kills,dice_kill];exact rfl):p:=e.mpr k
end H_c_DKnots0
open H_c_DKnots0 in
theorem c_DKnots0 (l:List Int) (k:Nat) (hl:l.length<=500) (d:Nat) (hd:d<=6) (hk:k<=500):CallOKM aa 66 ⟨2,[diceL l k],true⟩ [.eptr 0 2 0 0,nI64 d,iL 0] (.list 3 ((kn0 d (dtV l k)).map ratL)) ⟨2,[diceL l (nxK l (nxK l k))],true⟩:=by
 have k1:=nxK_le (l:=l) hl hk;have hb:=nxV_lt (l:=l) (k:=k) (n:=4) ae;have eW:=nxV1 l (nxK l k);obtain⟨iB,ht2⟩:=dt_rl l k;have h1r:rl 1=1:=rfl;refine fnM Tryz.func66 ?_;have aek:True:=trivial;have ac4:True:=trivial;have dJ:True:=trivial;have wo:True:=trivial;refine zg8 ?_;refine st_callMp 0 rfl rfl rfl (dice_pure l _) (.cons .ptr (.cons (.imm (.pure rfl)) .nil)) .ptr (c_Next l k 4 J J J J) rfl (dice_pure l _) rfl ?_;refine st_pure rfl kA ?_;refine cp am1 (c_FInt (nxV l k 4-2) J J) ?_;refine zg16 ?_;refine wl_weak (Weak.own (t:=8) 24 3 rfl rfl) ?_;refine lp1 (fun(i:Nat) L=>(mS L [(0,⟨2,[diceL l (nxK l k)],true⟩),(7,⟨3,[ratL (dtV l k)],true⟩),(24,⟨3,(ai i (dtV l k)).map ratL,true⟩)] [(9,nI64 i),(8,.ref 24 3 0 i),(7,.eptr 7 3 0 0),(1,nI64 d),(2,iL 0),(0,.eptr 0 2 0 0)])) (fun i=>i<=d+1) (fun i=>d+1-i) 0 (az _) ?_;rintro i L1 hi;refine zg8 ?_;refine wl_if rfl ?_ ?_<;>intro jU kg
 ·have hi2:i<=d:=J;have dJ:=rep_snoc i (dtV l k);have aek:((ai i (dtV l k)).map ratL).take i=(ai i (dtV l k)).map ratL:=aH aj;refine zg8 ?_;refine st_store rfl (.appX (d:=24) (news:=[ratL ((dtV l k))]) rfl rfl rfl rfl (by simp [knL_len]) (.inl rfl) ae aV aV Z32a T32 rfl B32 (.inl ⟨23,0,_,rfl,by decide,rfl,rfl,by simp,rfl,by simp [pures,ratE.pure]⟩) al al ae) ?_;refine zg4 ?_;refine wl_regW (Weak.kill _ 23) ?_;refine zg1 ?_;refine bq ?_;exact cq
 obtain rfl:i=d+1:=J;refine zg10 ?_;refine st_pure rfl mo ?_;refine st_callMp 0 rfl rfl rfl (dice_pure l _) (.cons .ptr (.cons (.imm (.pure rfl)) .nil)) .ptr (c_Next l (nxK l k) 1 J J J J) rfl (dice_pure l _) rfl ?_;refine zg4 ?_;refine wl_unroll ?_;refine zg7 ?_;refine wl_condY (b:=_) rfl (decide_eq_false J) ?_;refine zg6 ?_;refine wl_regD 3 ah ?_;refine zg1 ?_;refine cp am1 (c_FInt 1 ae ae) ?_;refine cp am2 (c_FRAdd (dtV l k) 1 J) ?_;refine zg10 ?_;refine lp1 (fun(i:Nat) L=>(mS L [(0,⟨2,[diceL l (nxK l (nxK l k))],true⟩),(7,⟨3,[ratL ((dtV l k)+1)],true⟩),(24,⟨3,(knL d (dtV l k) i).map ratL,true⟩)] [(11,nI64 i),(8,.ref 24 3 0 (d+1+i)),(7,.eptr 7 3 0 0),(1,nI64 d)])) (fun i=>i<=d+1) (fun i=>d+1-i) 0 (az _) ?_;rintro i L3 hi;refine zg8 ?_;refine wl_if rfl ?_ ?_<;>intro ahX h72
 ·have hi2:i<=d:=J;have wo:knL d (dtV l k) i++[(dtV l k)+1]=knL d (dtV l k) (i+1):=rfl;have hkL:=knL_len d (dtV l k) i;have ac4:((knL d (dtV l k) i).map ratL).take (d+1+i)=(knL d (dtV l k) i).map ratL:=aH al;refine zg8 ?_;refine st_store rfl (.appX (d:=24) (news:=[ratL ((dtV l k)+1)]) rfl rfl rfl rfl (by simp [knL_len]) (.inl rfl) ae aV aV Z32a T32 rfl B32 (.inl ⟨77,0,_,rfl,by decide,rfl,rfl,by simp,rfl,by simp [pures,ratE.pure]⟩) al al ae) ?_;refine zg4 ?_;refine wl_regW (Weak.kill _ 77) ?_;refine zg1 ?_;refine bq ?_;exact cq
 obtain rfl:i=d+1:=J;refine zg12 ?_;rw [<-knL_end];exact retMf [24] rfl rfl (imm_refm ratE rfl rfl (knL_len _ _ _).symm) rfl rfl (dice_pure l _)
theorem gD1 {a b:List Rat} {i:Nat} (h:i<a.length):(a++b).getD i 0=a.getD i 0:=by
 rw [ao,ao,List.getElem?_append_left h]
theorem gD2 {a b:List Rat} {i:Nat} (h:a.length<=i):(a++b).getD i 0=b.getD (i-a.length) 0:=by
 rw [ao,ao,List.getElem?_append_right h]
theorem getD_rep {n i:Nat} {T:Rat} (h:i<n):(ai n T).getD i 0=T:=by
 rw [ao,aB dX];simp
theorem tm_rep (a b:List Rat) (t:Rat):∀ i,i<=a.length->tmN (a++b) t i=tmN a t i
 | 0,_=>rfl
 | i+1,h=>by rw [tmN,tmN,tm_rep a b t i J,gD1 J]
theorem tm_app (a b:List Rat) (t:Rat):∀ i,tmN (a++b) t (a.length+i)=tmN a t a.length+tmN b t i
 | 0=>by rw [Nat.add_zero,tm_rep _ _ _ _ (an _)];rfl
 | i+1=>by
  rw [<-fT,tmN,tm_app a b t i,tmN,gD2 J,Nat.add_sub_cancel_left];omega
theorem tm_const (n:Nat) (T t:Rat):∀ i,i<=n->tmN (ai n T) t i=if T=t then i else 0
 | 0,_=>by split<;>rfl
 | i+1,h=>by
  rw [tmN,tm_const n T t i J,getD_rep J];split<;>rfl
theorem any_ff {α:Type} (l:List α):l.any (fun _=>false)=false:=aj
theorem wid1 (T:Rat):T+1-T=1:=ay
theorem div1 (x:Rat):x/1=x:=ay
open H0 in
theorem c_SWidth (s:Rat × Rat) (h:rl s.2+rl s.1<=549755813888):CallP aa 142 [spL s] (ratL (s.2-s.1)):=by
 refine fnP Tryz.func142 ?_;refine zg12 ?_;refine cp am2 (c_RSub s.2 s.1 h) ?_;refine zg4 ?_;exact cy
section
variable {P:Program} {H:Heap} {ρ:Operand->LV} {T E:TypeId}
theorem bdW {o1:Operand} {r:Rat} [z:ZI P T (.agg [.agg [ratL 0,ratL 0,ratL 0],ratL 0])] [s:SI P T [(9,true),(3,true)]] (h1:ρ o1=ratL r) :
  OpP P H ρ (.build T #[(1,o1)]) (poL ⟨⟨0,0,0⟩,r⟩):=by
 have:=OpP.bd (H:=H) (ρ:=ρ) (ps:=#[(1,o1)]) (z:=z) (s:=s) (by simp [lay,LV.csize,csizes,ratE.csize,ratE.isAgg,isAgg_agg]) (by
  intro q hq;simp only [bp,cN,or_false] at hq;subst hq;exact⟨_,rfl,by rw [h1];simp [lay,ratE.csize,ratE.isAgg],by rw [h1];exact LV.pure_ne_any (ratE.pure _),by rw [h1];exact LV.pure_ne_tup (ratE.pure _)⟩)
 simp only [buildL,jt,lM,lZ,h1] at this;exact this
end
open H_c_Distinct in
theorem c_Unit0 :CallP aa 28 [iL 0] (ptL ⟨1,0,0⟩):=by
 have h1:CallP aa 21 [iL 1] (ratL 1):=c_FInt 1 ae ae;refine fnP aeu (ht:=(fun r=>LV.ren_pure r _ (ptE.pure _))) ?_;refine zg13 ?_;refine cp am1 (h1) ?_;refine zg11 ?_;exact nh
open H_c_Distinct in
theorem c_Unit1 :CallP aa 28 [iL 1] (ptL ⟨0,1,0⟩):=by
 have h1:CallP aa 21 [iL 1] (ratL 1):=c_FInt 1 ae ae;refine fnP aeu (ht:=(fun r=>LV.ren_pure r _ (ptE.pure _))) ?_;refine zg13 ?_;refine cp am1 (h1) ?_;refine zg11 ?_;exact nh
theorem bdP0 {P:Program} {H:Heap} {ρ:Operand->LV} {T E:TypeId} [u:UN P T (.array 3 E)] [t:TI P E 3 true] [z:ZI P T (.agg [ratL 0,ratL 0,ratL 0])]:OpP P H ρ (.build T #[]) (ptL ⟨0,0,0⟩) :=
 OpP.bda (H:=H) (ρ:=ρ) (ps:=#[]) (u:=u) (t:=t) (z:=z) (by simp [lay,ratE.csize,ratE.isAgg]) (fun q hq=>by simp at hq)
theorem bnd_le12 {p:List Rat} (h:0<p.length):(bndP p).1<=(bndP p).2:=by
 have:=(bk_spec p p.length).1 0 h;exact cA this.1 this.2
theorem sq_pos {s:Rat × Rat} (h:0<s.1) (h2:s.1<=s.2):sqS s=(s.1*s.1,s.2*s.2)/\hasR (sqS s) 0=false:=by
 have hn:hasR s 0=false:=by unfold hasR;rw [decide_eq_false ay];rfl
 have hm:s.1*s.1<=s.2*s.2:=cA (lS h2 (dp h)) (fM h2 ay);have hp:=oL h h;have e:sqS s=(s.1*s.1,s.2*s.2):=by
  unfold sqS;rw [if_neg (by rw [hn];decide)];unfold mnR mxR;rw [if_neg ay];split
  ·rfl
  have:s.1*s.1=s.2*s.2:=ay;rw [this]
 refine⟨e,?_⟩;rw [e];unfold hasR;rw [decide_eq_false (by show ¬(s.1*s.1<=0);grind)];rfl
def spK (po:List PoR) (k:Nat):Rat × Rat:=muS (quS (bndP (trP po k)) (sqS (bndP (wtP po)))) (1,1)
def spd (po:List PoR):Bx3:=⟨spK po 0,spK po 1,spK po 2⟩
section
variable {po:List PoR} {d:Nat} (h:cvF po d)
include h
end
def wiV (s:Rat × Rat) (n:Int):Rat:=s.1+ptV n*(s.2-s.1)
theorem wi_one (T:Rat) (n:Int):wiV (T,T+1) n=T+ptV n:=by show T+ptV n*(T+1-T)=_;rw [wid1,iX]
theorem wi_rl {T:Rat} (h:rl T<=1) (n:Int):rl (T+ptV n)<=3:=by
 have:=rl_add T (ptV n);have:=ptV_rl n;omega
open H_c_Distinct in
theorem c_Within (s:Rat × Rat) (n:Int) (R:Nat) (hR:R<=1000000) (hs:bdS R s) (hn:-9223372036854775808<=n/\n<=9223372036854775807):CallP aa 12 [spL s,iL n] (ratL (wiV s n)):=by
 obtain⟨a1,a2⟩:=hs;have hp:=ptV_rl n;have m1:=rl_sub s.2 s.1;have m2:=rl_mul (ptV n) (s.2-s.1);refine fnP Tryz.func12 ?_;refine zg7 ?_;refine wl_regD 11 ah ?_;refine zg3 ?_;refine cp am1 (c_MPart n hn) ?_;refine zg4 ?_;refine cp am2 (c_FRSub s.2 s.1 J) ?_;refine cp am2 (c_FRMul (ptV n) (s.2-s.1) J) ?_;refine cp am2 (c_FRAdd s.1 (ptV n*(s.2-s.1)) J) ?_;refine zg4 ?_;exact cy
def nfn (k:List Rat) (at_:Nat) (t:Rat):Nat->Nat->Rat
 | 0,i=>if i=at_ then 1 else 0
 | d+1,i=>if at_<i\/i+(d+1)<at_ then 0 else
   (t-k.getD i 0)/(k.getD (i+(d+1)) 0-k.getD i 0)*nfn k at_ t d i+(k.getD (i+(d+1)+1) 0-t)/(k.getD (i+(d+1)+1) 0-k.getD (i+1) 0)*nfn k at_ t d (i+1)
theorem part_rl {a b c d:Rat} {R:Nat} (ha:rl a<=R) (hb:rl b<=R) (hc:rl c<=R) (hd:rl d<=R):rl (a-b)<=2*R+1/\rl (c-d)<=2*R+1/\rl ((a-b)/(c-d))<=4*R+2:=by
 have h1:=rl_sub a b;have h2:=rl_sub c d;have h3:=rl_div (a-b) (c-d);exact⟨J,J,J⟩
theorem nfn_rl {k:List Rat} {at_:Nat} {t:Rat} {R:Nat} (hR:3<=R) (hk:∀ x∈k,rl x<=R) (ht:rl t<=R):∀ d i,rl (nfn k at_ t d i)<=(10*R)*2 ^ d-(8*R+5)
 | 0,i=>by
  rw [nfn];split
  ·show 1<=_;rw [nI];omega
  show 1<=_;rw [nI];omega
 | d+1,i=>by
  have g:∀ j,rl (k.getD j 0)<=R:=getD_rl J hk;have a1:=nfn_rl (at_:=at_) hR hk ht d i;have a2:=nfn_rl (at_:=at_) hR hk ht d (i+1);have p1:=(part_rl ht (g i) (g (i+(d+1))) (g i)).2.2;have p2:=(part_rl (g (i+(d+1)+1)) ht (g (i+(d+1)+1)) (g (i+1))).2.2;have h2:2 ^ (d+1)=2*2 ^ d:=by rw [dz];omega
  have h1:1<=2 ^ d:=Nat.one_le_two_pow;have hm:(10*R)*2 ^ (d+1)=2*((10*R)*2 ^ d):=by rw [h2];rw [Nat.mul_left_comm]
  have cL:10*R<=(10*R)*2 ^ d:=Nat.le_mul_of_pos_right _ J;rw [nfn];split
  ·show 1<=_;rw [hm];omega
  have m1:=rl_mul ((t-k.getD i 0)/(k.getD (i+(d+1)) 0-k.getD i 0)) (nfn k at_ t d i);have m2:=rl_mul ((k.getD (i+(d+1)+1) 0-t)/(k.getD (i+(d+1)+1) 0-k.getD (i+1) 0)) (nfn k at_ t d (i+1));have s1:=rl_add ((t-k.getD i 0)/(k.getD (i+(d+1)) 0-k.getD i 0)*nfn k at_ t d i) ((k.getD (i+(d+1)+1) 0-t)/(k.getD (i+(d+1)+1) 0-k.getD (i+1) 0)*nfn k at_ t d (i+1));rw [hm];omega
def evV (po:List PoR) (x:Rat):V3:=v3m (1/evP (wtP po) x) ⟨evP (nmP po 0) x,evP (nmP po 1) x,evP (nmP po 2) x⟩
theorem nm_get {po:List PoR} {k i:Nat} (h:i<po.length):(nmP po k).getD i 0=(po.getD i default).w*(po.getD i default).p.at k:=by
 unfold nmP;rw [ao,bU,aB h,ao,aB h];rfl
theorem wt_get {po:List PoR} {i:Nat} (h:i<po.length):(wtP po).getD i 0=(po.getD i default).w:=by
 unfold wtP;rw [ao,bU,aB h,ao,aB h];rfl
theorem subNN {a b c:Nat} (h:a=b+c) (h2:a<=9223372036854775807):binI .sub .i64 (a:Nat) (b:Nat)=some (.int .i64 ((c:Nat):Int)):=by
 rw [sub64 J J];congr 2;omega
theorem sm_rl {f:Nat->Rat} {R:Nat} (hR:1<=R):∀ n,(∀ i,i<n->rl (f i)<=R)->rl (sm n f)<=1+n*(R+1)
 | 0,_=>by show 1<=_;omega
 | n+1,h=>by
  have h1:=sm_rl hR n (fun i hi=>h i J);have h2:=h n J;have h3:=rl_add (sm n f) (f n);rw [sm,Nat.succ_mul];omega
open H0 in
theorem c_part9 (a b:Rat) (h:rl a+rl b<=1000000):CallP aa 263 [ratL a,ratL b] (ratL (a/b)):=by
 refine fnP Tryz.func263 ?_;refine zg11 ?_;refine cp am2 (c_FRQuo a b J) ?_;refine zg15 ?_;exact cy
open H_c_KTimes in
theorem c_fun0 (k:List Rat) (at_:Nat) (t:Rat) (hl:k.length<=1000) (gB:at_<=1000) (hk:∀ x∈k,rl x<=1000) (ht:rl t<=1000) (i:Nat):CallP aa 211 [.list 3 (k.map ratL),nI64 i,iL 0,nI64 at_,ratL t] (ratL (nfn k at_ t 0 i)):=by
 have vu:CallP aa 21 [iL 1] (ratL 1):=c_FInt 1 ae ae;refine fnP adh ?_;refine zg13 ?_;refine wl_if rfl ?_ ?_<;>intro jg gi
 ·refine zg8 ?_;refine wl_if rfl ?_ ?_<;>intro ng kf
  ·have hV:nfn k at_ t 0 i=1:=by rw [nfn,if_pos J]
   refine zg2 ?_;refine cp am1 (vu) ?_;refine zg6 ?_;rw [hV];exact cy
  have hV:nfn k at_ t 0 i=0:=by rw [nfn,if_neg J]
  refine zg4 ?_;refine fu ?_;refine zg5 ?_;rw [hV];exact cy
 first | exact absurd jg ae | cases jg | exact absurd rfl gi
namespace H_c_funS
theorem zSm {p q:Prop} (k:q) (e:p=q:=by simp only [sNF,ar,au,aq,dfq,sk,eib,eic,aN,aK,aO,reduceIte,if_true,if_false,aX,LV.kill,kills];exact rfl):p:=e.mpr k
end H_c_funS
open H_c_funS in
theorem c_funS (k:List Rat) (at_:Nat) (t:Rat) (hl:k.length<=1000) (gB:at_<=1000) (hk:∀ x∈k,rl x<=1000) (ht:rl t<=1000) (d:Nat) (hd:d+1<=7) (ih:∀ i,i+d+1<k.length->CallP aa 211 [.list 3 (k.map ratL),nI64 i,nI64 d,nI64 at_,ratL t] (ratL (nfn k at_ t d i))) (i:Nat) (hi:i+(d+1)+1<k.length):CallP aa 211 [.list 3 (k.map ratL),nI64 i,nI64 (d+1),nI64 at_,ratL t] (ratL (nfn k at_ t (d+1) i)):=by
 have g:∀ j,rl (k.getD j 0)<=1000:=getD_rl ae hk;have pp1:=part_rl ht (g i) (g (i+(d+1))) (g i);have pp2:=part_rl (g (i+(d+1)+1)) ht (g (i+(d+1)+1)) (g (i+1));have nq1:=nfn_rl (at_:=at_) ae hk ht d i;have nq2:=nfn_rl (at_:=at_) ae hk ht d (i+1);have tQ:2 ^ d<=2 ^ 6:=gg ae J;have m1:=rl_mul ((t-k.getD i 0)/(k.getD (i+(d+1)) 0-k.getD i 0)) (nfn k at_ t d i);have m2:=rl_mul ((k.getD (i+(d+1)+1) 0-t)/(k.getD (i+(d+1)+1) 0-k.getD (i+1) 0)) (nfn k at_ t d (i+1));have fR:=ih i J;have dk:=ih (i+1) J;refine fnP adh ?_;have sk:True:=trivial;have eib:True:=trivial;have eic:True:=trivial;refine zg13 ?_;refine wl_if rfl ?_ ?_<;>intro jg gi
 ·omega
 refine zg9 ?_;refine op_if 23 rfl ?_ ?_<;>intro lC kt
 ·have hV:nfn k at_ t (d+1) i=0:=by rw [nfn,if_pos J]
  refine zg11 ?_;refine fu ?_;refine zg5 ?_;rw [hV];exact cy
 refine zg3 ?_;refine st_pure (guardX (v:=false) rfl rfl (lC) rfl) (.bin rfl rfl (add64N J)) ?_;refine zg4 ?_;refine wl_if rfl ?_ ?_<;>intro pg nY
 ·have hV:nfn k at_ t (d+1) i=0:=by rw [nfn,if_pos J]
  refine zg2 ?_;refine fu ?_;refine zg5 ?_;rw [hV];exact cy
 have hV:nfn k at_ t (d+1) i=(t-k.getD i 0)/(k.getD (i+(d+1)) 0-k.getD i 0)*nfn k at_ t d i+(k.getD (i+(d+1)+1) 0-t)/(k.getD (i+(d+1)+1) 0-k.getD (i+1) 0)*nfn k at_ t d (i+1):=by rw [nfn,if_neg J]
 refine zg3 ?_;refine wl_regD 19 ah ?_;refine zg5 ?_;refine cp am2 (c_FRSub t (k.getD i 0) (by have:=g i;omega)) ?_;refine zg3 ?_;refine st_pure rfl lg ?_;refine zg6 ?_;refine cp am2 (c_FRSub (k.getD (i+(d+1)) 0) (k.getD i 0) (by have:=g i;have:=g (i+(d+1));omega)) ?_;refine cp am2 (c_part9 (t-k.getD i 0) (k.getD (i+(d+1)) 0-k.getD i 0) J) ?_;refine zg5 ?_;refine wl_regD 24 ah ?_;refine zg3 ?_;refine st_pure rfl lg ?_;refine bq ?_;refine cp am2 (c_FRSub (k.getD (i+(d+1)+1) 0) t (by have:=g (i+(d+1)+1);omega)) ?_;refine zg3 ?_;refine st_pure rfl lg ?_;refine cG ?_;refine zg4 ?_;refine cG ?_;refine zg2 ?_;refine cp am2 (c_FRSub (k.getD (i+(d+1)+1) 0) (k.getD (i+1) 0) (by have:=g (i+1);have:=g (i+(d+1)+1);omega)) ?_;refine cp am2 (c_part9 (k.getD (i+(d+1)+1) 0-t) (k.getD (i+(d+1)+1) 0-k.getD (i+1) 0) J) ?_;refine zg5 ?_;refine wl_regD 20 ah ?_;refine zg4 ?_;refine fG ?_;refine zg2 ?_;refine cp am5 (fR) ?_;refine cp am2 (c_FRMul _ (nfn k at_ t d i) J) ?_;refine zg3 ?_;refine cG ?_;refine zg1 ?_;refine fG ?_;refine zg2 ?_;refine cp am5 (dk) ?_;refine cp am2 (c_FRMul _ (nfn k at_ t d (i+1)) J) ?_;refine cp am2 (c_FRAdd _ _ J) ?_;refine zg4 ?_;rw [hV];exact cy
theorem c_function (k:List Rat) (at_:Nat) (t:Rat) (hl:k.length<=1000) (gB:at_<=1000) (hk:∀ x∈k,rl x<=1000) (ht:rl t<=1000):∀ (d:Nat) (hd:d<=7) (i:Nat) (hi:i+d+1<k.length),CallP aa 211 [.list 3 (k.map ratL),nI64 i,nI64 d,nI64 at_,ratL t] (ratL (nfn k at_ t d i))
 | 0,_,i,_=>c_fun0 k at_ t hl gB hk ht i
 | d+1,hd,i,hi=>c_funS k at_ t hl gB hk ht d hd (fun i hi=>c_function k at_ t hl gB hk ht d J i hi) i J
theorem lt_le_trans {a b c:Rat} (h:a<b) (k:b<=c):a<c:=ay
section
variable {po:List PoR} {d:Nat} (h:cvF po d)
include h
end
def bxN (l:List V3) (k:Nat):Nat->Rat × Rat
 | 0=>((l.getD 0 default).at k,(l.getD 0 default).at k)
 | j+1=>hulP (bxN l k j) ((l.getD (j+1) default).at k,(l.getD (j+1) default).at k)
def bxP (l:List V3):Bx3:=⟨bxN l 0 (l.length-1),bxN l 1 (l.length-1),bxN l 2 (l.length-1)⟩
theorem hul_le (a b:Rat × Rat):(hulP a b).1<=a.1/\(hulP a b).1<=b.1/\a.2<=(hulP a b).2/\b.2<=(hulP a b).2:=by
 unfold hulP mnR mxR;refine⟨?_,?_,?_,?_⟩<;>simp only<;>split<;>grind
theorem bxN_in (l:List V3) (k:Nat):∀ n i,i<=n->(bxN l k n).1<=(l.getD i default).at k/\(l.getD i default).at k<=(bxN l k n).2
 | 0,i,h=>by
  obtain rfl:i=0:=J;exact⟨dD,dD⟩
 | n+1,i,h=>by
  obtain⟨h1,h2,h3,h4⟩:=hul_le (bxN l k n) ((l.getD (n+1) default).at k,(l.getD (n+1) default).at k);rw [bxN];rcases cu i (n+1) with hi | hi
  ·obtain⟨g1,g2⟩:=bxN_in l k n i J;exact⟨cA h1 g1,cA g2 h3⟩
  obtain rfl:i=n+1:=J;exact⟨h2,h4⟩
theorem bxN_bd {l:List V3} {R:Nat} (h:∀ i,i<l.length->bd3 R (l.getD i default)) (k:Nat):∀ n,n<l.length->bdS R (bxN l k n)
 | 0,hn=>⟨at_rl (h 0 hn) k,at_rl (h 0 hn) k⟩
 | n+1,hn=>hul_bd (bxN_bd h k n J) ⟨at_rl (h _ hn) k,at_rl (h _ hn) k⟩
theorem fE_nn {a b:Rat} (ha:0<=a) (hb:0<=b):∀ (n:Nat) (f:Nat->Rat),(∀ i,i<=n->0<=f i)->0<=fE a b n f
 | 0,f,h=>h 0 (an _)
 | n+1,f,h=>by
  rw [fE];refine fE_nn ha hb n _ fun i hi=>?_;have h1:=cO ha (h i J);have h2:=cO hb (h (i+1) J);exact aa5 h1 h2
theorem lin_in {a a1 a2 b lo hi:Rat} (h1:a1<=a) (h2:a<=a2) (k1:lo<=a1*b) (k2:a1*b<=hi) (k3:lo<=a2*b) (k4:a2*b<=hi):lo<=a*b/\a*b<=hi:=by
 rcases zL (a:=0) (b:=b) with hb | hb
 ·have m1:=fM h1 hb;have m2:=fM h2 hb;exact⟨cA k1 m1,cA m2 k4⟩
 have lF:0<=-b:=ay;have m1:=fM h1 lF;have m2:=fM h2 lF;have n1:a*b<=a1*b:=ay;have n2:a2*b<=a*b:=ay;exact⟨cA k3 n2,cA n1 k2⟩
theorem mu_in {A B:Rat × Rat} {a b:Rat} (h1:A.1<=a) (h2:a<=A.2) (h3:B.1<=b) (h4:b<=B.2):(muS A B).1<=a*b/\a*b<=(muS A B).2:=by
 obtain⟨x1,x2,x3,x4⟩:=hul_le (A.1*B.1,A.1*B.1) (A.1*B.2,A.1*B.2);obtain⟨y1,y2,y3,y4⟩:=hul_le (hulP (A.1*B.1,A.1*B.1) (A.1*B.2,A.1*B.2)) (A.2*B.1,A.2*B.1);obtain⟨z1,z2,z3,z4⟩:=hul_le (hulP (hulP (A.1*B.1,A.1*B.1) (A.1*B.2,A.1*B.2)) (A.2*B.1,A.2*B.1)) (A.2*B.2,A.2*B.2);unfold muS;simp only at *
 generalize hulP (hulP (hulP (A.1*B.1,A.1*B.1) (A.1*B.2,A.1*B.2)) (A.2*B.1,A.2*B.1)) (A.2*B.2,A.2*B.2)=S at *
 have g1:=lin_in (lo:=S.1) (hi:=S.2) h3 h4 (b:=A.1) (by rw [iF];exact cA z1 (cA y1 x1)) (by rw [iF];exact cA x3 (cA y3 z3)) (by rw [iF];exact cA z1 (cA y1 x2)) (by rw [iF];exact cA x4 (cA y3 z3));have g2:=lin_in (lo:=S.1) (hi:=S.2) h3 h4 (b:=A.2) (by rw [iF];exact cA z1 y2) (by rw [iF];exact cA y4 z3) (by rw [iF];exact z2) (by rw [iF];exact z4);rw [iF b] at g1 g2;exact lin_in h1 h2 g1.1 g1.2 g2.1 g2.2
theorem rc_in {B:Rat × Rat} {b:Rat} (h0:0<B.1) (h1:B.1<=b) (h2:b<=B.2):(rcS B).1<=1/b/\1/b<=(rcS B).2:=by
 have e1:=inv_mono (lt_le h0 h1) h2;have e2:=inv_mono h0 h1;unfold rcS mnR mxR;constructor
 ·simp only;split<;>grind
 simp only;split<;>grind
section
variable {po:List PoR} {d:Nat} (h:cvF po d)
include h
end
section
variable {po:List PoR} {d:Nat} (h:cvF po d)
include h
end
open H_c_Distinct in
theorem c_FDrop (a b c w:Rat) (R:Nat) (hR:R<=100000000) (ha:rl a<=R) (hb:rl b<=R) (hc:rl c<=R) (hw:rl w<=R):CallP aa 59 [.agg [ratL a,ratL b,ratL c,ratL w]] (poL ⟨v3m (1/w) ⟨a,b,c⟩,w⟩):=by
 have vu:CallP aa 21 [iL 1] (ratL 1):=c_FInt 1 ae ae;have bG:rl 1=1:=rfl;have hq:=rl_div 1 w;refine fnP Tryz.func59 (ht:=(fun g=>LV.ren_pure g _ (poE.pure _))) ?_;refine zg7 ?_;refine wl_regD 15 ah ?_;simp only [aaB];refine cp am1 (vu) ?_;refine zg2 ?_;refine cp am2 (c_FOver 1 w J) ?_;refine zg7 ?_;refine cp am2 (c_FVScale (1/w) ⟨a,b,c⟩ (R+1) J J ⟨by show rl a<=_;omega,by show rl b<=_;omega,by show rl c<=_;omega⟩) ?_;refine zg2 ?_;refine s0bd (bdPo rfl rfl) ?_;refine zg4 ?_;exact retC [] rfl rfl rfl cs (at_all cs rfl) T119 (.pure pu)
theorem fE_rl {a b:Rat}:∀ (n:Nat) (c:Nat->Rat) (R:Nat),(∀ i,rl (c i)<=R)->rl (fE a b n c)<=(R+(rl a+rl b+1))*2 ^ n
 | 0,c,R,h=>by
  have:=h 0;show rl (c 0)<=_;omega
 | n+1,c,R,h=>by
  have:=fE_rl (a:=a) (b:=b) n (fun i=>a*c i+b*c (i+1)) (2*R+(rl a+rl b+1)) (fun i=>by
   have h0:=h i;have h1:=h (i+1);have m0:=rl_mul a (c i);have m1:=rl_mul b (c (i+1));have s0:=rl_add (a*c i) (b*c (i+1));omega)
  rw [fE];refine aw this ?_;rw [dz,Nat.mul_comm (2 ^ n) 2,<-Nat.mul_assoc];exact bw _ J
theorem ev_rl {p:List Rat} {t:Rat} {R:Nat} (hl:0<p.length) (hR:1<=R) (h:∀ x∈p,rl x<=R):rl (evP p t)<=(R+(rl (1-t)+rl t+1))*2 ^ (p.length-1):=by
 rw [ev_fE hl];exact fE_rl _ _ R (fun i=>getD_rl hR h i)
theorem wi_in (T:Rat) (n:Int):T<=T+ptV n/\T+ptV n<=T+1:=by
 have:=ptV_in n;constructor<;>grind
theorem fz0 (bs:List Nat):frzH bs []=[]:=rfl
def sS (t:Rat) (f:Nat->Rat):Nat->Rat:=fun i=>(1-t)*f i+t*f (i+1)
def sI (t:Rat):Nat->(Nat->Rat)->(Nat->Rat)
 | 0,f=>f
 | n+1,f=>sI t n (sS t f)
theorem sS_comm (s t:Rat) (f:Nat->Rat):sS s (sS t f)=sS t (sS s f):=by
 funext i;unfold sS;grind
theorem sI_S (t s:Rat):∀ (n:Nat) (f:Nat->Rat),sI t n (sS s f)=sS s (sI t n f)
 | 0,f=>rfl
 | n+1,f=>by rw [sI,sI,sS_comm,sI_S t s n]
theorem sI_I (t s:Rat) (n:Nat):∀ (m:Nat) (f:Nat->Rat),sI t n (sI s m f)=sI s m (sI t n f)
 | 0,f=>rfl
 | m+1,f=>by rw [sI,sI,sI_I t s n m,sI_S]
theorem sI_succ (t:Rat) (n:Nat) (f:Nat->Rat):sI t (n+1) f=sS t (sI t n f):=by rw [sI,sI_S]
theorem sI_lin (t c d:Rat):∀ (n:Nat) (f g:Nat->Rat),sI t n (fun i=>c*f i+d*g i)=fun i=>c*sI t n f i+d*sI t n g i
 | 0,f,g=>rfl
 | n+1,f,g=>by
  rw [sI,sI,sI,<-sI_lin t c d n];congr 1;funext i;unfold sS;grind
theorem sI_fE (t:Rat):∀ (n:Nat) (f:Nat->Rat) (i:Nat),sI t n f i=fE (1-t) t n (fun m=>f (i+m))
 | 0,f,i=>rfl
 | n+1,f,i=>by rw [sI,sI_fE t n,fE];rfl
theorem sI_congr {t:Rat} (n:Nat) {f g:Nat->Rat} (i:Nat) (h:∀ m,m<=n->f (i+m)=g (i+m)):sI t n f i=sI t n g i:=by
 rw [sI_fE,sI_fE];exact fE_congr _ _ _ _ _ h
theorem sS_mix (a b x:Rat) (f:Nat->Rat) (i:Nat):(1-x)*sS a f i+x*sS b f i=sS (a+x*(b-a)) f i:=by unfold sS;grind
def pcV (a b:Rat) (n:Nat) (f:Nat->Rat) (j:Nat):Rat:=sI a (n-j) (sI b j f) 0
theorem pc_S (a b x:Rat) {n j:Nat} (f:Nat->Rat) (h:j+1<=n):(1-x)*pcV a b n f j+x*pcV a b n f (j+1)=pcV a b (n-1) (sS (a+x*(b-a)) f) j:=by
 unfold pcV;obtain⟨m,rfl⟩:∃ m,n=j+1+m:=⟨n-(j+1),J⟩;rw [show j+1+m-j=m+1 by omega,show j+1+m-(j+1)=m by omega,show j+1+m-1-j=m by omega];rw [sI,<-sI_S b a,sI];have e:=sI_lin a (1-x) x m (sI b j (sS a f)) (sI b j (sS b f));have e2:=sI_lin b (1-x) x j (sS a f) (sS b f);rw [<-e2] at e;have e3:(fun i=>(1-x)*sS a f i+x*sS b f i)=sS (a+x*(b-a)) f:=by funext i;exact sS_mix a b x f i
 rw [e3] at e;exact(congrFun e 0).symm
theorem pc_I (a b x:Rat) {n:Nat}:∀ (k:Nat) (f:Nat->Rat) (j:Nat),j+k<=n->sI x k (pcV a b n f) j=pcV a b (n-k) (sI (a+x*(b-a)) k f) j
 | 0,f,j,h=>rfl
 | k+1,f,j,h=>by
  rw [sI_succ];unfold sS;rw [pc_I a b x k f j J,pc_I a b x k f (j+1) J,pc_S _ _ _ _ J,<-sI_succ,Nat.sub_sub]
theorem pc_ev (a b x:Rat) (n:Nat) (f:Nat->Rat):sI x n (pcV a b n f) 0=sI (a+x*(b-a)) n f 0:=by
 rw [pc_I _ _ _ _ _ _ J,jy];rfl
theorem pc_congr {a b:Rat} {n j:Nat} {f g:Nat->Rat} (hj:j<=n) (h:∀ i,i<=n->f i=g i):pcV a b n f j=pcV a b n g j:=by
 unfold pcV;refine sI_congr _ _ fun m hm=>?_;exact sI_congr _ _ fun m2 cL=>h _ J
structure cvR (po:List PoR) (d R:Nat):Prop where
 hl:po.length=d+1
 hd:1<=d
 h6:d<=6
 ok:∀ q∈po,okP R q
theorem cvF.r {po:List PoR} {d:Nat} (h:cvF po d):cvR po d 1:=⟨h.hl,h.hd,h.h6,h.ok⟩
def cpQ (po:List PoR) (x y:Rat) (j:Nat):PoR :=
 ⟨⟨(partF (nmP po 0) x y).getD j 0/(partF (wtP po) x y).getD j 0,(partF (nmP po 1) x y).getD j 0/(partF (wtP po) x y).getD j 0,(partF (nmP po 2) x y).getD j 0/(partF (wtP po) x y).getD j 0⟩,(partF (wtP po) x y).getD j 0⟩
def cutP (po:List PoR) (x y:Rat):List PoR:=(b9 po.length).map (cpQ po x y)
theorem fE_pos {a b:Rat} (ha:0<=a) (hb:0<=b) (aW:0<a+b):∀ (n:Nat) (f:Nat->Rat),(∀ i,i<=n->0<f i)->0<fE a b n f
 | 0,f,h=>h 0 (an _)
 | n+1,f,h=>by
  rw [fE];refine fE_pos ha hb aW n _ fun i hi=>?_;have a1:=h i J;have a2:=h (i+1) J;have b1:=cO ha (dp a1);have b2:=cO hb (dp a2);rcases Rat.le_iff_lt_or_eq.1 ha with h0 | h0
  ·have:=oL h0 a1;grind
  have:=oL (show 0<b by grind) a2;grind
theorem pc_pos {a b:Rat} (ha:0<=a) (ha1:a<=1) (hb:0<=b) (mT:b<=1) {n j:Nat} {f:Nat->Rat} (hj:j<=n) (h:∀ i,i<=n->0<f i):0<pcV a b n f j:=by
 unfold pcV;rw [sI_fE];refine fE_pos ay ha ay _ _ fun m hm=>?_;rw [sI_fE];exact fE_pos ay hb ay _ _ fun m2 cL=>h _ J
theorem pc_lin (a b c e:Rat) (n:Nat) (f g:Nat->Rat) (j:Nat):pcV a b n (fun i=>c*f i+e*g i) j=c*pcV a b n f j+e*pcV a b n g j:=by
 unfold pcV;rw [sI_lin,sI_lin]
section
variable {po:List PoR} {d R:Nat} (h:cvR po d R) {x y:Rat} (lq:0<=x) (mh:x<1) (iG:0<=y) (jN:y<=1)
include h
theorem cR_nl (k:Nat):(nmP po k).length=d+1:=by rw [nmP_len,h.hl]
theorem cR_wl:(wtP po).length=d+1:=by rw [wtP_len,h.hl]
include mh
include lq iG jN
end
theorem hul_call {f:Nat} (hc:∀ s t:Rat × Rat,rl s.1+rl t.1<=34359738368->rl s.2+rl t.2<=34359738368->CallP aa f [spL s,spL t] (spL (hulP s t))) {l:List V3} {R:Nat} (hR:R<=1000000) (hb:∀ i,i<l.length->bd3 R (l.getD i default)) (k j:Nat) (hj:j+1<l.length) :
  CallP aa f [spL (bxN l k j),spL ((l.getD (j+1) default).at k,(l.getD (j+1) default).at k)] (spL (bxN l k (j+1))):=by
 have q:=bxN_bd hb k j J;have g:=at_rl (hb (j+1) hj) k;have h1:R+R<=34359738368:=J;exact hc _ _ (aw (ace q.1 g) h1) (aw (ace q.2 g) h1)
theorem bxcs:(LV.agg [.agg [ratL 0,ratL 0],.agg [ratL 0,ratL 0],.agg [ratL 0,ratL 0]]).csize=18:=o5
theorem bxcs2 (a b c:Rat × Rat):(LV.agg [spL a,spL b,spL c]).csize=18:=bxE.csize ⟨a,b,c⟩
theorem dr1 (l:List V3) (j:Nat):(l.drop 1).getD j default=l.getD (j+1) default:=by
 rw [ao,ao,List.getElem?_drop,Nat.add_comm]
namespace H_c_VBoxOf
theorem zSm {p q:Prop} (k:q) (e:p=q:=by simp only [sNF,ar,au,aq,bxcs,bxcs2,dr1,dfq,List.length_drop,aA,aN,aK,aO,reduceIte,if_true,if_false,aX,LV.kill,kills];exact rfl):p:=e.mpr k
end H_c_VBoxOf
open H_c_VBoxOf in
theorem c_VBoxOf (l:List V3) (h0:0<l.length) (hl:l.length<=1000) (R:Nat) (hR:R<=1000000) (hb:∀ i,i<l.length->bd3 R (l.getD i default)):CallP aa 88 [.list 9 (l.map ptL)] (.tup [bxL (bxP l),iL 0]):=by
 obtain⟨z1,z2,z3⟩:=hb 0 h0;refine fnP Tryz.func88 (ht:=(tame2 (bxE.pure _) rfl)) ?_;refine zg19 ?_;refine wl_if rfl ?_ ?_<;>intro fB iN
 ·omega
 refine zg9 ?_;refine fq ?_;refine zg18 ?_;refine cp am1 (c_SPoint (l.getD 0 default).x J) ?_;refine zg7 ?_;refine st_pure rfl (.sliceLl (a:=1) ptE rfl tF T54 rfl om) ?_;refine zg5 ?_;refine lp1 (fun(j:Nat) L=>(mS L [(2,⟨18,[.agg [.agg [ratL 0,ratL 0],.agg [ratL 0,ratL 0],.agg [ratL 0,ratL 0]]],true⟩),(4,⟨18,[.agg [spL (bxN l 0 j),.agg [ratL 0,ratL 0],.agg [ratL 0,ratL 0]]],true⟩)] [(26,nI64 j),(25,nI64 (l.length-1)),(24,.list 9 ((l.drop 1).map ptL)),(12,iL 0),(5,iL 0),(4,.eptr 4 18 0 0),(2,.eptr 2 18 0 0),(0,.list 9 (l.map ptL))])) (fun j=>j<=l.length-1) (fun j=>l.length-1-j) 0 (az _) ?_;rintro j L2 hj;refine zg6 ?_;refine wl_if rfl ?_ ?_<;>intro rY th
 ·have bo:j<l.length-1:=J;obtain⟨g1,g2,g3⟩:=hb (j+1) J;have hH0:CallP aa 161 [spL (bxN l 0 j),spL ((l.getD (j+1) default).x,(l.getD (j+1) default).x)] (spL (bxN l 0 (j+1))):=hul_call (fun s t h1 h2=>c_SHull s t J J) hR hb 0 j J;refine zg12 ?_;refine wl_regD 10 ah ?_;refine zg7 ?_;refine cp am1 (c_SPoint (l.getD (j+1) default).x J) ?_;refine cp am2 (hH0) ?_;refine zg5 ?_;refine pS ?_;exact mH
 obtain rfl:j=l.length-1:=J;refine zg11 ?_;refine fq ?_;refine zg18 ?_;refine cp am1 (c_SPoint (l.getD 0 default).y J) ?_;refine zg7 ?_;refine st_pure rfl (.sliceLl (a:=1) ptE rfl tF T54 rfl om) ?_;refine zg5 ?_;refine lp1 (fun(j:Nat) L=>(mS L [(2,⟨18,[.agg [.agg [ratL 0,ratL 0],.agg [ratL 0,ratL 0],.agg [ratL 0,ratL 0]]],true⟩),(4,⟨18,[.agg [spL (bxN l 0 (l.length-1)),spL (bxN l 1 j),.agg [ratL 0,ratL 0]]],true⟩)] [(26,nI64 j),(25,nI64 (l.length-1)),(24,.list 9 ((l.drop 1).map ptL)),(12,iL 1),(5,iL 1),(4,.eptr 4 18 0 0),(2,.eptr 2 18 0 0),(0,.list 9 (l.map ptL))])) (fun j=>j<=l.length-1) (fun j=>l.length-1-j) 0 (az _) ?_;rintro j L2 hj;refine zg6 ?_;refine wl_if rfl ?_ ?_<;>intro rY th
 ·have bo:j<l.length-1:=J;obtain⟨g1,g2,g3⟩:=hb (j+1) J;have mM:CallP aa 161 [spL (bxN l 1 j),spL ((l.getD (j+1) default).y,(l.getD (j+1) default).y)] (spL (bxN l 1 (j+1))):=hul_call (fun s t h1 h2=>c_SHull s t J J) hR hb 1 j J;refine zg12 ?_;refine wl_regD 10 ah ?_;refine zg7 ?_;refine cp am1 (c_SPoint (l.getD (j+1) default).y J) ?_;refine cp am2 (mM) ?_;refine zg5 ?_;refine pS ?_;exact mH
 obtain rfl:j=l.length-1:=J;refine zg11 ?_;refine fq ?_;refine zg18 ?_;refine cp am1 (c_SPoint (l.getD 0 default).z J) ?_;refine zg7 ?_;refine st_pure rfl (.sliceLl (a:=1) ptE rfl tF T54 rfl om) ?_;refine zg5 ?_;refine lp1 (fun(j:Nat) L=>(mS L [(2,⟨18,[.agg [.agg [ratL 0,ratL 0],.agg [ratL 0,ratL 0],.agg [ratL 0,ratL 0]]],true⟩),(4,⟨18,[.agg [spL (bxN l 0 (l.length-1)),spL (bxN l 1 (l.length-1)),spL (bxN l 2 j)]],true⟩)] [(26,nI64 j),(25,nI64 (l.length-1)),(24,.list 9 ((l.drop 1).map ptL)),(12,iL 2),(5,iL 2),(4,.eptr 4 18 0 0),(2,.eptr 2 18 0 0),(0,.list 9 (l.map ptL))])) (fun j=>j<=l.length-1) (fun j=>l.length-1-j) 0 (az _) ?_;rintro j L2 hj;refine zg6 ?_;refine wl_if rfl ?_ ?_<;>intro rY th
 ·have bo:j<l.length-1:=J;obtain⟨g1,g2,g3⟩:=hb (j+1) J;have hH2:CallP aa 161 [spL (bxN l 2 j),spL ((l.getD (j+1) default).z,(l.getD (j+1) default).z)] (spL (bxN l 2 (j+1))):=hul_call (fun s t h1 h2=>c_SHull s t J J) hR hb 2 j J;refine zg12 ?_;refine wl_regD 10 ah ?_;refine zg7 ?_;refine cp am1 (c_SPoint (l.getD (j+1) default).z J) ?_;refine cp am2 (hH2) ?_;refine zg5 ?_;refine pS ?_;exact mH
 obtain rfl:j=l.length-1:=J;refine zg11 ?_;refine km ?_;refine zg13 ?_;exact retCT [] rfl rfl rfl cs (at_all cs rfl) T96 (.pure pu) rfl (.pure rfl)
end Go.Proofs.YtlipjipfpkbppaaGreat
end
section
set_option linter.unusedVariables false
set_option linter.unusedSimpArgs false
namespace Go.Lg
def plainOp:Op->Bool
 | .move _=>true
 | .pick ..=>true
 | .binOp ..=>true
 | .load ..=>true
 | .fieldAddr ..=>true
 | .indexAddr ..=>true
 | .call ⟨.builtin .len,_,_⟩=>true
 | _=>false
section
variable {P:Program} {H:Heap} {ρ iO:Operand->LV}
theorem OpP.cong {op:Op} {r:LV} (h:OpP P H ρ op r) (hp:plainOp op=true) (hr:∀ x∈op.operands,iO x=ρ x):OpP P H iO op r:=by
 cases h with
 | move x=>rw [<-hr x aE];exact .move x
 | pick hc =>
  rename_i c x y t;have e1:=hr x aE;have e2:=hr y aE;have:=OpP.pick (P:=P) (H:=H) (ρ:=iO) (x:=x) (y:=y) ((hr _ aE).trans hc);rw [e1,e2] at this;exact this
 | bin hx hy h=>exact .bin ((hr _ aE).trans hx) ((hr _ aE).trans hy) h
 | sh hx hy h=>exact .sh ((hr _ aE).trans hx) ((hr _ aE).trans hy) h
 | beq hx hy hT=>exact .beq ((hr _ aE).trans hx) ((hr _ aE).trans hy) hT
 | bne hx hy hT=>exact .bne ((hr _ aE).trans hx) ((hr _ aE).trans hy) hT
 | fieldAddrB hq hT fF=>exact .fieldAddrB ((hr _ aE).trans hq) hT fF
 | fieldAddrE hq hT hk=>exact .fieldAddrE ((hr _ aE).trans hq) hT hk
 | loadB hq hT hc=>exact .loadB ((hr _ aE).trans hq) hT hc
 | loadE hq hb hs hi hx fF hT=>exact .loadE ((hr _ aE).trans hq) hb hs hi hx fF hT
 | idxAE hx hT hE hi h0 hm=>exact .idxAE ((hr _ aE).trans hx) hT hE ((hr _ aE).trans hi) h0 hm
 | idxAB hx hT hE hf hi h0 fF=>exact .idxAB ((hr _ aE).trans hx) hT hE hf ((hr _ aE).trans hi) h0 fF
 | idxL hx hT hE hi h0 fF hc=>exact .idxL ((hr _ aE).trans hx) hT hE ((hr _ aE).trans hi) h0 fF hc
 | idxR hx hT hE hi h0 hn=>exact .idxR ((hr _ aE).trans hx) hT hE ((hr _ aE).trans hi) h0 hn
 | lenL hx has hT=>exact .lenL ((hr _ dI).trans hx) has hT
 | lenR hx has hT=>exact .lenR ((hr _ dI).trans hx) has hT
 | lenN hx has hT=>exact .lenN ((hr _ dI).trans hx) has hT
 | lenC hx has hT=>exact .lenC ((hr _ dI).trans hx) has hT
 | _=>first | (cases hp;done) | (simp [plainOp] at hp;done)
end
section
variable {P:Program} {ops:Array Oper}
end
def slimOp:Op->Bool
 | .move _=>true
 | .binOp ..=>true
 | .fieldAddr ..=>true
 | .indexAddr ..=>true
 | .call ⟨.builtin .len,_,_⟩=>true
 | _=>false
def kindOp:Op->Bool
 | .store ..=>true
 | .call ⟨.value (.func _),_,_⟩=>true
 | op=>plainOp op
theorem slim_plain {op:Op} (h:slimOp op=true):plainOp op=true:=by
 unfold slimOp at h;split at h<;>first | rfl | cases h
theorem OpP.slim {P:Program} {H H':Heap} {ρ:Operand->LV} {op:Op} {r:LV} (h:OpP P H ρ op r) (hp:slimOp op=true):OpP P H' ρ op r:=by
 cases h with
 | move x=>exact .move x
 | bin hx hy h=>exact .bin hx hy h
 | sh hx hy h=>exact .sh hx hy h
 | beq hx hy hT=>exact .beq hx hy hT
 | bne hx hy hT=>exact .bne hx hy hT
 | fieldAddrB hq hT fF=>exact .fieldAddrB hq hT fF
 | fieldAddrE hq hT hk=>exact .fieldAddrE hq hT hk
 | idxAE hx hT hE hi h0 hm=>exact .idxAE hx hT hE hi h0 hm
 | idxAB hx hT hE hf hi h0 fF=>exact .idxAB hx hT hE hf hi h0 fF
 | idxL hx hT hE hi h0 fF hc=>exact .idxL hx hT hE hi h0 fF hc
 | idxR hx hT hE hi h0 hn=>exact .idxR hx hT hE hi h0 hn
 | lenL hx has hT=>exact .lenL hx has hT
 | lenR hx has hT=>exact .lenR hx has hT
 | lenN hx has hT=>exact .lenN hx has hT
 | lenC hx has hT=>exact .lenC hx has hT
 | _=>first | (cases hp;done) | (simp [slimOp] at hp;done)
theorem put_comm (L:St) {d e:Nat} (h:d≠e) (v r:LV):(L.put (some d) v).put (some e) r=(L.put (some e) r).put (some d) v:=by
 have:∀ t,((L.put (some d) v).put (some e) r).slot t=((L.put (some e) r).put (some d) v).slot t:=fun t=>by
  rw [put_slot,put_slot,put_slot,put_slot];by_cases h1:t=e
  ·rw [if_pos h1,if_neg J,if_pos h1]
  rw [if_neg h1,if_neg h1]
 exact congrArg (fun f=>St.mk f L.heap) (funext this)
theorem put_commO (L:St) {d:Nat} {e:Option Nat} (h:e≠some d) (v r:LV):(L.put (some d) v).put e r=(L.put e r).put (some d) v:=by
 cases e with
 | none=>rfl
 | some e=>exact put_comm L (fun q=>h (by rw [q])) v r
section
variable {P:Program} {ops:Array Oper}
theorem ev_put {L:St} {d:Nat} {v:LV} {o:Oper} (h:d∉o.looksAt ops):∀ x∈o.op.operands,(L.put (some d) v).ev x=L.ev x:=fun x hx=>by
 cases x with
 | tmp t =>
  have ht:t∈o.looksAt ops:=by
   unfold Oper.looksAt;simp only [eF,nC];exact .inl ⟨.tmp t,by simpa using hx,rfl⟩
  show (L.put (some d) v).slot t=L.slot t;rw [put_slot,if_neg (fun q=>h (by rw [<-q];exact ht))]
 | const v=>rfl
 | func f=>rfl
 | global f=>rfl
theorem guard_put {L:St} {d:Nat} {v:LV} {o:Oper} {res:Bool} (h:d∉o.looksAt ops) (hg:GuardIs ops (L.put (some d) v) o res):GuardIs ops L o res:=by
 unfold GuardIs at hg ⊢
 cases hh:o.guard with
 | none=>rw [hh] at hg;exact hg
 | some pr =>
  obtain⟨j,want⟩:=pr;rw [hh] at hg;obtain⟨t,q1',q'⟩:=hg;have ak:t≠d:=fun q=>h (by rw [<-q];unfold Oper.looksAt;rw [hh];simp [q1']);have e1:(L.put (some d) v).slot t=L.slot t:=by rw [put_slot,if_neg ak]
  refine⟨t,q1',?_⟩;show (∃ b,L.slot t=_/\_)\/(L.slot t=_/\_);rw [<-e1];exact q'
theorem mem_args {f:Operand} {xs:Array Operand} {kj:Array TypeId} {x:Operand} (h:x∈xs.toList):x∈(Op.call ⟨.value f,xs,kj⟩).operands:=by
 have:=rN.1 h;simp [Op.operands,Call.operands,this]
theorem step_comm {L L2:St} {d:Nat} {v:LV} {o:Oper} (hk:kindOp o.op=true) (hl:d∉o.looksAt ops) (hd:o.dst≠some d) (h:Step P false ops o (L.put (some d) v) L2) :
  ∃ L1,Step P false ops o L L1/\L2=L1.put (some d) v/\∀ t,o.dst≠some t->L1.slot t=L.slot t:=by
 have bl:=ev_put (L:=L) (v:=v) hl;have bg:∀ (M:St) (r:LV) t,M.slot t=L.slot t->o.dst≠some t->(M.put o.dst r).slot t=L.slot t:=fun M r t hM ak=>by
  cases hh:o.dst with
  | none=>exact hM
  | some e=>rw [put_slot,if_neg (fun q=>ak (by rw [hh,q]))];exact hM
 cases h with
 | skip hg hL=>exact⟨L.put o.dst (.tup []),.skip (guard_put hl hg) rfl,by rw [hL,put_commO L hd],fun t ht=>bg L _ t rfl ht⟩
 | @val r fr H1 hg hle aY eY hL =>
  obtain⟨dst,op,ty,pos,after,gd⟩:=o;have mX:∀ x∈op.operands,L.ev x=(L.put (some d) v).ev x:=fun x hx=>(bl x hx).symm;have pH:OpV P H1 L.ev (dst.getD 0) op r fr:=by
   cases eY with
   | pure hp =>
    by_cases dW:plainOp op=true
    ·exact .pure (hp.cong dW mX)
    cases hp with
    | ext2 hf fS hb hn he hx hr h1 h2 =>
     refine .pure (.ext2 hf fS hb hn he ?_ hr h1 h2);rw [<-hx];exact nS fun x iu=>mX x (mem_args iu)
    | _=>first | (exfalso;exact dW rfl) | (exfalso;revert hk dW;simp [kindOp,plainOp])
   | alloc ha=>cases ha<;>(exfalso;revert hk;simp [kindOp,plainOp])
   | call hc =>
    cases hc with
    | func ha jw hlen cY =>
     refine .call (.func ?_ jw hlen cY);rw [show (_:Array Operand).toList.map L.ev=_ from nS fun x iu=>mX x (mem_args iu)];exact ha
    | clo=>exfalso;revert hk;simp [kindOp,plainOp]
    | mk=>exfalso;revert hk;simp [kindOp,plainOp]
  refine⟨⟨(L.put dst r).slot,H1⟩,.val (guard_put hl hg) hle aY pH rfl,?_,fun t ht=>bg L r t rfl ht⟩;rw [hL];have:=put_commO L hd v r;exact congrArg (fun M=>St.mk (St.slot M) H1) this
 | st hg jd =>
  obtain⟨dst,op,ty,pos,after,gd⟩:=o
  cases jd with
  | store hp hb hs hm hi hy fb hT ak =>
   rename_i T p x b sz i o' blk y y';have e1:=bl p aE;have e2:=bl x aE;rw [e1] at hp;rw [e2] at fb hT ak;refine⟨_,.st (guard_put hl hg) (.store hp hb hs hm hi hy fb hT ak),?_,fun t ht=>?_⟩
   ·exact put_commO (L.setB b _) hd v .any
   exact bg (L.setB b _) .any t rfl ht
  | _=>exfalso;revert hk;simp [kindOp,plainOp]
 | stM cd hg dN =>
  obtain⟨dst,op,ty,pos,after,gd⟩:=o
  cases dN with
  | call hb hm hp ha hn jw gp dQ =>
   rename_i f xs kj args r b blk blk';have em:xs.toList.map (L.put (some d) v).ev=xs.toList.map L.ev:=nS fun x iu=>bl x (mem_args iu);rw [em] at ha hn;refine⟨_,.stM cd (guard_put hl hg) (.call hb hm hp ha hn jw gp dQ),?_,fun t ht=>?_⟩
   ·exact put_commO (L.setB b _) hd v _
   exact bg (L.setB b _) _ t rfl ht
  | appzC=>exfalso;revert hk;simp [kindOp,plainOp]
  | ovl hf fS hb hn he ht hE hx hy jQ h1 h2 aT =>
   rw [bl _ (mem_args aj)] at hx;rw [bl _ (mem_args aj)] at hy;refine⟨_,.stM cd (guard_put hl hg) (.ovl hf fS hb hn he ht hE hx hy jQ h1 h2 aT),?_,fun t ht=>?_⟩
   ·exact put_commO L hd v _
   exact bg L _ t rfl ht
def hoistOk (ops:Array Oper) (i:Nat) (D:Array Bool):Bool :=
 D.size==ops.size && !D.getD i true && (dirs (ops.getD i default)).all (fun j=>D.getD j false) && (ops.getD i default).guard.isNone && slimOp (ops.getD i default).op &&
 (b9 ops.size).all fun j=>j==i || D.getD j true || (kindOp (ops.getD j default).op && ((ops.getD j default).dst != (ops.getD i default).dst) &&
  (match (ops.getD i default).dst with | some d=>!((ops.getD j default).looksAt ops).contains d || (dirs (ops.getD j default)).contains i | none=>false) &&
  (match (ops.getD j default).dst with | some e=>!((ops.getD i default).looksAt ops).contains e | none=>true))
theorem any_hoist {m:Nat} {K:St->Prop} {L:St} {D:Array Bool} {d:Nat} {v:LV} (i:Nat) {o:Oper} (ho:ops[i]?=some o) (oF:o.dst=some d) (cF:hoistOk ops i D=true) (hv:OpP P L.heap L.ev o.op v)
  (h:anyL P ops m (D.setIfInBounds i true) (L.put (some d) v) K):anyL P ops (m+1) D L K:=by
 have di:∀ i o,ops[i]?=some o->ops.getD i default=o:=fun i o h=>by rw [aM,h];rfl
 have nJ:i<ops.size:=(eB.1 ho).1
 let C:Array Bool->Prop:=fun D=>D.size=ops.size/\D.getD i false=false/\(∀ j∈dirs o,D.getD j false=true)/\∀ j oj,ops[j]?=some oj->j≠i->D.getD j false=false ->
  kindOp oj.op=true/\oj.dst≠some d/\(d∈oj.looksAt ops->i∈dirs oj)/\∀ e,oj.dst=some e->e∉o.looksAt ops
 unfold hoistOk at cF;rw [di i o ho,oF] at cF;simp only [dG,ie,my,iy,beq_iff_eq,nH,lT,bne_iff_ne,ne_eq] at cF;obtain⟨⟨⟨⟨⟨hsz,mV⟩,mA⟩,vR⟩,tT⟩,bM⟩:=cF;have hC:C D:=by
  refine⟨hsz,by rw [getD_sz J false true];exact mV,mA,fun j oj hj ak lb=>?_⟩;have pA:j<ops.size:=(eB.1 hj).1;have:=bM j pA;rw [di j oj hj] at this;rcases this with(q | q) | q
  ·exact absurd q ak
  ·rw [getD_sz J true false,lb] at q;cases q
  obtain⟨⟨⟨q1,q2⟩,q3⟩,q4⟩:=q;refine⟨q1,q2,fun hm=>?_,fun e he hm=>?_⟩
  ·rcases q3 with q | q
   ·rw [gk.2 hm] at q;cases q
   exact gk.1 q
  rw [he] at q4;simp only [nH] at q4;rw [gk.2 hm] at q4;cases q4
 have qF:∀ L:St,OpP P L.heap L.ev o.op v->Step P false ops o L (L.put (some d) v):=fun L hv=>by
  refine .val (fr:=[]) (H1:=L.heap) (r:=v) (by unfold GuardIs;rw [vR]) (Heap.le_refl _) (fun _ _ hh=>by cases hh) (.pure hv) ?_;rw [oF];rfl
 clear hsz mV mA bM;have main:∀ (n:Nat) (D:Array Bool) (L:St),C D->OpP P L.heap L.ev o.op v->anyL P ops n (D.setIfInBounds i true) (L.put (some d) v) K->anyL P ops (n+1) D L K:=by
  intro n
  induction n with
  | zero =>
   intro D L ⟨c1,c2,c3,c4⟩ hv hh;have et:i∈Region.ready .any ops D:=(ready_spec c1).2 ⟨o,ho,by rw [getD_sz J true false];exact c2,c3⟩;refine⟨fun hr=>(by rw [hr] at et;cases et),fun j hj=>?_⟩;by_cases cW:j=i
   ·subst cW;exact⟨o,_,ho,qF L hv,hh⟩
   exfalso;obtain⟨oj,h1,h2,h3⟩:=(ready_spec c1).1 hj;have:j∈Region.ready .any ops (D.setIfInBounds i true):=(ready_spec (by simpa using c1)).2 ⟨oj,h1,by
    rw [aM,bR (Ne.symm cW),<-aM];exact h2,fun k hk=>by
    by_cases eU:i=k
    ·subst eU;rw [aM,eh J];rfl
    rw [aM,bR eU,<-aM];exact h3 k hk⟩
   rw [hh.1] at this;cases this
  | succ n ih =>
   intro D L ⟨c1,c2,c3,c4⟩ hv hh;have et:i∈Region.ready .any ops D:=(ready_spec c1).2 ⟨o,ho,by rw [getD_sz J true false];exact c2,c3⟩;refine⟨fun hr=>(by rw [hr] at et;cases et),fun j hj=>?_⟩;by_cases cW:j=i
   ·subst cW;exact⟨o,_,ho,qF L hv,hh⟩
   obtain⟨oj,h1,h2,h3⟩:=(ready_spec c1).1 hj;have pA:j<ops.size:=(eB.1 h1).1;have lb:D.getD j false=false:=by rw [getD_sz J false true];exact h2
   have wF:j∈Region.ready .any ops (D.setIfInBounds i true):=(ready_spec (by simpa using c1)).2 ⟨oj,h1,by
    rw [aM,bR (Ne.symm cW),<-aM];exact h2,fun k hk=>by
    by_cases eU:i=k
    ·subst eU;rw [aM,eh J];rfl
    rw [aM,bR eU,<-aM];exact h3 k hk⟩
   obtain⟨oj',L2,g1,g2,g3⟩:=hh.2 j wF;rw [h1] at g1;cases g1;obtain⟨k1,k2,k3,k4⟩:=c4 j oj h1 cW lb;have ga:d∉oj.looksAt ops:=fun hm=>by
    have:=h3 i (k3 hm);rw [c2] at this;cases this
   obtain⟨L1,s1,s2,s3⟩:=step_comm k1 ga k2 g2;refine⟨oj,L1,h1,s1,ih (D.setIfInBounds j true) L1 ⟨by simpa using c1,?_,fun k hk=>?_,fun k ok hk ak a6=>?_⟩ ?_ ?_⟩
   ·rw [aM,bR cW,<-aM];exact c2
   ·by_cases gU:j=k
    ·subst gU;rw [aM,eh J];rfl
    rw [aM,bR gU,<-aM];exact c3 k hk
   ·by_cases gU:j=k
    ·subst gU;rw [aM,eh J] at a6
     cases a6
    rw [aM,bR gU,<-aM] at a6;exact c4 k ok hk ak a6
   ·refine(hv.cong (slim_plain tT) fun x hx=>?_).slim tT
    cases x with
    | tmp t =>
     have ht:t∈o.looksAt ops:=by
      unfold Oper.looksAt;simp only [eF,nC];exact .inl ⟨.tmp t,by simpa using hx,rfl⟩
     exact s3 t (fun q=>k4 t q ht)
    | const v=>rfl
    | func f=>rfl
    | global f=>rfl
   rw [<-s2];have:(D.setIfInBounds j true).setIfInBounds i true=(D.setIfInBounds i true).setIfInBounds j true:=by
    refine y8 fun k=>?_;by_cases q1:i=k
    ·subst q1;rw [eh al,bR cW,eh J]
    by_cases q2:j=k
    ·subst q2;rw [bR q1,eh J,eh al]
    rw [bR q1,bR q2,bR q2,bR q1]
   rw [this];exact g3
 exact main m D L hC hv h
end
theorem Weak.frz {L:St} {t:Nat} {x y:LV} (bs:List Nat) (h0:bs.contains 0=false) (h:L.slot t=x) (hi:Imm (L.frz bs).heap x y):Weak L ((L.frz bs).put (some t) y):=by
 rintro n W X Z0 a w ⟨bj,hsz,μ,Z,hc,hr⟩;obtain⟨Z',nt,hz⟩:=hc.widen (frz_le bs h0);refine⟨bj,hsz,μ,Z',by rw [put_heap];exact nt,fun s=>?_⟩;have hm:=RepV.mono hz (fun _ _ h=>h) (Frame.refl Z μ w) (hr s);rw [put_slot];split
 ·rename_i ba;subst ba;rw [h] at hm;exact RepV.of1 (LV.pure_ne_tup hi.lay.2.2) (Imm.soundV (av:=μ) nt hi hm)
 exact hm
theorem Weak.hand {L:St} {t:Nat} {α:Type} {e:α->LV} {ag:Bool} {b sz len:Nat} {l:List α} {m:Bool} (he:EncOK e sz ag) (h:L.slot t=.ref b sz 0 len) (hb:L.heap b=some ⟨sz,l.map e,m⟩) (hl:len=l.length) (h0:b≠0:=by decide) :
  Weak L ((L.put (some t) (.list sz (l.map e))).kill b):=by
 have v8:([b]:List Nat).contains 0=false:=al;have e1:=(Weak.frz [b] v8 h (imm_refm (bs:=[b]) he hb aj hl)).trans (Weak.kill _ b h0);have e2:((L.frz [b]).put (some t) (.list sz (l.map e))).kill b=(L.put (some t) (.list sz (l.map e))).kill b:=by
  unfold St.kill;congr 1;funext c;rw [put_heap,put_heap];by_cases fA:c=b
  ·simp [fA]
  simp only [St.frz,if_neg fA]
  cases L.heap c with
  | none=>rfl
  | some blk=>simp [fA]
 rw [<-e2];exact e1
theorem Weak.boxp {L:St} {t b sz:Nat} {y:LV} {m:Bool} (h:L.slot t=.eptr b sz 0 0) (hb:L.heap b=some ⟨sz,[y],m⟩) (hs:y.csize=sz) (ha:y.isAgg=true) (hp:y.pure=true) (h0:b≠0:=by decide):Weak L ((L.put (some t) (.boxp y)).kill b):=by
 have v8:([b]:List Nat).contains 0=false:=al;have e1:=(Weak.frz [b] v8 h (.eptr (blk:=⟨sz,[y],m && !([b]:List Nat).contains b⟩) (x:=y) (n:=sz) (ag:=true) (by simp only [St.frz,hb,Option.map_some]) rfl rfl hs (at_all hs ha) hp aj)).trans (Weak.kill _ b h0);have e2:((L.frz [b]).put (some t) (.boxp y)).kill b=(L.put (some t) (.boxp y)).kill b:=by
  unfold St.kill;congr 1;funext c;rw [put_heap,put_heap];by_cases fA:c=b
  ·simp [fA]
  simp only [St.frz,if_neg fA]
  cases L.heap c with
  | none=>rfl
  | some blk=>simp [fA]
 rw [<-e2];exact e1
theorem wl_regAW {P:Program} {L L0:St} {Q:LEx->St->Prop} {ops:Array Oper} {id:Nat} (hw:Weak L L0) (h:anyL P ops ops.size (gX ops.size false) L0 (Q .normal)):wpL P (.region id ops true) Q L:=⟨L0,hw,.inr (.inl ⟨rfl,h⟩)⟩
def hpSub:List (Nat × Blk)->List (Nat × Blk)->Prop
 | [],_=>True
 | (b,x) :: t,l=>hp l b=some x/\hpSub t l
theorem hp_sub {l':List (Nat × Blk)}:∀ {l:List (Nat × Blk)},hpSub l l'->∀ c x,hp l c=some x->hp l' c=some x
 | [],_,c,x,h=>by cases h
 | (b,y) :: t,h,c,x,hc=>by
  simp only [hp] at hc;by_cases hb:c=b
  ·subst hb;simp only [Nat.beq_refl,cond_true,bF] at hc;subst hc;exact h.1
  have:Nat.beq c b=false:=by rw [<-so,Nat.beq_eq];exact hb
  rw [this] at hc;exact hp_sub h.2 c x hc
theorem hp_ext {l l':List (Nat × Blk)} (h:hpSub l l') (h':hpSub l' l):hp l=hp l':=by
 funext c
 cases hc:hp l c with
 | some x=>exact(hp_sub h c x hc).symm
 | none =>
  cases nt:hp l' c with
  | none=>rfl
  | some x=>rw [hp_sub h' c x nt] at hc;cases hc
def wideOp:Op->Bool
 | .store ..=>true
 | .build ..=>true
 | .box ..=>true
 | .alloc ..=>true
 | .buildSlice ..=>true
 | .makeSlice ..=>true
 | .call ⟨.value (.func _),_,_⟩=>true
 | .call ⟨.builtin .append,_,_⟩=>true
 | op=>plainOp op
section
variable {P:Program} {H:Heap} {ρ iO:Operand->LV}
theorem psmap {ps:Array (Nat × Operand)} (hr:∀ p∈ps.toList,iO p.2=ρ p.2):(ps.toList.map fun p=>(p.1,ρ p.2))=ps.toList.map fun p=>(p.1,iO p.2) :=
 nS fun p hp=>by rw [hr p hp]
theorem OpA.cong {d:Nat} {op:Op} {r:LV} {blk:Blk} (h:OpA P ρ d op r blk) (hr:∀ x∈op.operands,iO x=ρ x):OpA P iO d op r blk:=by
 cases h with
 | make hT hz hE a7 hb hl hc dR hm cL=>exact .make hT hz hE a7 hb ((hr _ aE).trans hl) ((hr _ aE).trans hc) dR hm cL
 | @lit T E n ps z sz hT hz hE a7 hn h0 aT hp =>
  have hq:∀ p∈ps.toList,iO p.2=ρ p.2:=fun p hp=>hr _ (by simp only [Op.operands,adN];exact bS.2 ⟨p,hp,rfl⟩);rw [psmap hq];exact .lit hT hz hE a7 hn h0 aT fun p dQ=>by rw [hq p dQ];exact hp p dQ
 | lit0 hT hE=>exact .lit0 hT hE
 | @box T x ak =>
  have e:=hr x aE;rw [<-e];rw [<-e] at ak;exact .box ak
 | alloc hz=>exact .alloc hz
theorem OpP.congB {T:TypeId} {ps:Array (Nat × Operand)} {r:LV} (h:OpP P H ρ (.build T ps) r) (hr:∀ x∈(Op.build T ps).operands,iO x=ρ x):OpP P H iO (.build T ps) r:=by
 have hq:∀ p∈ps.toList,iO p.2=ρ p.2:=fun p hp=>hr _ (by simp only [Op.operands,adN];exact bS.2 ⟨p,hp,rfl⟩)
 cases h with
 | buildA hT hE hf hz hp =>
  rw [psmap hq];exact .buildA hT hE hf hz fun p dQ=>by rw [hq p dQ];exact hp p dQ
 | build hT hz hp =>
  rw [psmap hq];exact .build hT hz fun p dQ=>by rw [hq p dQ];exact hp p dQ
end
theorem kill_put (L:St) {d:Nat} {v:LV} (hv:∀ b,v.kill b=v) (b:Nat):(L.put (some d) v).kill b=(L.kill b).put (some d) v:=by
 have h1:∀ t,((L.put (some d) v).kill b).slot t=((L.kill b).put (some d) v).slot t:=fun t=>by
  rw [put_slot];show (((L.put (some d) v).slot t).kill b)=_;rw [put_slot];split
  ·exact hv b
  rfl
 exact congrArg (fun f=>St.mk f (L.kill b).heap) (funext h1)
section
variable {P:Program} {ops:Array Oper}
theorem step_commW {L L2:St} {d:Nat} {v:LV} {o:Oper} (hv:∀ b,v.kill b=v) (hk:wideOp o.op=true) (hl:d∉o.looksAt ops) (hd:o.dst≠some d) (h:Step P false ops o (L.put (some d) v) L2) :
  ∃ L1,Step P false ops o L L1/\L2=L1.put (some d) v/\∀ t,o.dst≠some t->(∀ b,(L.slot t).kill b=L.slot t)->L1.slot t=L.slot t:=by
 have bl:=ev_put (L:=L) (v:=v) hl;have bg:∀ (M:St) (r:LV) t,M.slot t=L.slot t->o.dst≠some t->(M.put o.dst r).slot t=L.slot t:=fun M r t hM ak=>by
  cases hh:o.dst with
  | none=>exact hM
  | some e=>rw [put_slot,if_neg (fun q=>ak (by rw [hh,q]))];exact hM
 cases h with
 | skip hg hL=>exact⟨L.put o.dst (.tup []),.skip (guard_put hl hg) rfl,by rw [hL,put_commO L hd],fun t ht _=>bg L _ t rfl ht⟩
 | @val r fr H1 hg hle aY eY hL =>
  obtain⟨dst,op,ty,pos,after,gd⟩:=o;have mX:∀ x∈op.operands,L.ev x=(L.put (some d) v).ev x:=fun x hx=>(bl x hx).symm;have pH:OpV P H1 L.ev (dst.getD 0) op r fr:=by
   cases eY with
   | pure hp =>
    by_cases dW:plainOp op=true
    ·exact .pure (hp.cong dW mX)
    by_cases rH:∃ T ps,op=.build T ps
    ·obtain⟨T,ps,rfl⟩:=rH;exact .pure (hp.congB mX)
    cases hp with
    | ext2 hf fS hb hn he hx hr h1 h2 =>
     refine .pure (.ext2 hf fS hb hn he ?_ hr h1 h2);rw [<-hx];exact nS fun x iu=>mX x (mem_args iu)
    | build=>exact absurd ⟨_,_,rfl⟩ rH
    | buildA=>exact absurd ⟨_,_,rfl⟩ rH
    | _=>first | (exfalso;exact dW rfl) | (exfalso;revert hk dW;simp [wideOp,plainOp])
   | alloc ha=>exact .alloc (ha.cong mX)
   | call hc =>
    cases hc with
    | func ha jw hlen cY =>
     refine .call (.func ?_ jw hlen cY);rw [show (_:Array Operand).toList.map L.ev=_ from nS fun x iu=>mX x (mem_args iu)];exact ha
    | clo=>exfalso;revert hk;simp [wideOp,plainOp]
    | mk=>exfalso;revert hk;simp [wideOp,plainOp]
  refine⟨⟨(L.put dst r).slot,H1⟩,.val (guard_put hl hg) hle aY pH rfl,?_,fun t ht _=>bg L r t rfl ht⟩;rw [hL];have:=put_commO L hd v r;exact congrArg (fun M=>St.mk (St.slot M) H1) this
 | st hg jd =>
  obtain⟨dst,op,ty,pos,after,gd⟩:=o
  cases jd with
  | store hp hb hs hm hi hy fb hT ak =>
   rename_i T p x b sz i o' blk y y';have e1:=bl p aE;have e2:=bl x aE;rw [e1] at hp;rw [e2] at fb hT ak;refine⟨_,.st (guard_put hl hg) (.store hp hb hs hm hi hy fb hT ak),?_,fun t ht _=>?_⟩
   ·exact put_commO (L.setB b _) hd v .any
   exact bg (L.setB b _) .any t rfl ht
  | appX hx hb hs hm hlen cm bC hT hU hz hE a7 cU hy hsz ck aT =>
   rename_i T U E E' d' b sz len blk x y news z bu;have e1:=bl x dI;have e2:=bl y dI;rw [e1] at hx;rw [e2] at hy;refine⟨_,.st (guard_put hl hg) (.appX hx hb hs hm hlen cm bC hT hU hz hE a7 cU hy hsz ck aT),?_,fun t ht hf=>?_⟩
   ·rw [kill_put L hv];exact put_commO ((L.kill b).setB d' _) hd v _
   exact bg ((L.kill b).setB d' _) _ t (hf b) ht
  | app0X hx cm hT hU hz hE a7 cU hy hn hsz ck aT =>
   rename_i T U E E' d' sz x y news z bu;have e1:=bl x dI;have e2:=bl y dI;rw [e1] at hx;rw [e2] at hy;refine⟨_,.st (guard_put hl hg) (.app0X hx cm hT hU hz hE a7 cU hy hn hsz ck aT),?_,fun t ht hf=>?_⟩
   ·exact put_commO (L.setB d' _) hd v _
   exact bg (L.setB d' _) _ t rfl ht
  | _=>exfalso;revert hk;simp [wideOp,plainOp]
 | stM cd hg dN =>
  obtain⟨dst,op,ty,pos,after,gd⟩:=o
  cases dN with
  | call hb hm hp ha hn jw gp dQ =>
   rename_i f xs kj args r b blk blk';have em:xs.toList.map (L.put (some d) v).ev=xs.toList.map L.ev:=nS fun x iu=>bl x (mem_args iu);rw [em] at ha hn;refine⟨_,.stM cd (guard_put hl hg) (.call hb hm hp ha hn jw gp dQ),?_,fun t ht _=>?_⟩
   ·exact put_commO (L.setB b _) hd v _
   exact bg (L.setB b _) _ t rfl ht
  | appzC hT hU hz hE a7 hb hx dP gf hlen hy cm uR aT hm ck =>
   rename_i T U E x y z k kl sz bu len cp n d' b blk;rw [bl x dI] at hx;rw [bl y dI] at hy;refine⟨_,.stM cd (guard_put hl hg) (.appzC hT hU hz hE a7 hb hx dP gf hlen hy cm uR aT hm ck),?_,fun t ht _=>?_⟩
   ·exact put_commO (L.setB d' _) hd v _
   exact bg (L.setB d' _) _ t rfl ht
  | ovl hf fS hb hn he ht hE hx hy jQ h1 h2 aT =>
   rw [bl _ (mem_args aj)] at hx;rw [bl _ (mem_args aj)] at hy;refine⟨_,.stM cd (guard_put hl hg) (.ovl hf fS hb hn he ht hE hx hy jQ h1 h2 aT),?_,fun t ht _=>?_⟩
   ·exact put_commO L hd v _
   exact bg L _ t rfl ht
def hoistOkW (ops:Array Oper) (i:Nat) (D:Array Bool):Bool :=
 D.size==ops.size && !D.getD i true && (dirs (ops.getD i default)).all (fun j=>D.getD j false) && (ops.getD i default).guard.isNone && plainOp (ops.getD i default).op &&
 (b9 ops.size).all fun j=>j==i || D.getD j true || (wideOp (ops.getD j default).op && ((ops.getD j default).dst != (ops.getD i default).dst) &&
  (match (ops.getD i default).dst with | some d=>!((ops.getD j default).looksAt ops).contains d || (dirs (ops.getD j default)).contains i | none=>false) &&
  (match (ops.getD j default).dst with | some e=>!((ops.getD i default).looksAt ops).contains e | none=>true))
def firmAll (L:St):List Operand->Prop
 | []=>True
 | x :: xs=>(∀ b,(L.ev x).kill b=L.ev x)/\firmAll L xs
theorem firmAll_mem {L:St}:∀ {l:List Operand},firmAll L l->∀ x∈l,∀ b,(L.ev x).kill b=L.ev x
 | _ :: _,h,_,.head _=>h.1
 | _ :: _,h,_,.tail _ hx=>firmAll_mem h.2 _ hx
theorem fmA {p:Prop} (h:p:=by first | exact And.intro (fun _=>rfl) trivial | exact And.intro (fun _=>rfl) (And.intro (fun _=>rfl) trivial) | exact And.intro (fun b=>LV.kill_pure b _ pu) trivial):p:=h
theorem fmV {p:Prop} (h:p:=by first | exact(fun _=>rfl) | exact(fun b=>LV.kill_pure b _ pu) | exact(fun b=>LV.kill_pure b _ (by assumption))):p:=h
end
theorem Weak.handP {L:St} {t b sz len:Nat} {vals:List LV} {m:Bool} (h:L.slot t=.ref b sz 0 len) (hb:L.heap b=some ⟨sz,vals,m⟩) (hp:pures vals=true) (hl:len=vals.length) (h0:b≠0) :
  Weak L ((L.put (some t) (.list sz vals)).kill b):=by
 have v8:([b]:List Nat).contains 0=false:=al;have hi:Imm (L.frz [b]).heap (.ref b sz 0 len) (.list sz ((vals.drop 0).take len)):=imm_ref (bs:=[b]) hb aj hp J;rw [dY,aH J] at hi;have e1:=(Weak.frz [b] v8 h hi).trans (Weak.kill _ b h0);have e2:((L.frz [b]).put (some t) (.list sz vals)).kill b=(L.put (some t) (.list sz vals)).kill b:=by
  unfold St.kill;congr 1;funext c;rw [put_heap,put_heap];by_cases fA:c=b
  ·simp [fA]
  simp only [St.frz,if_neg fA]
  cases L.heap c with
  | none=>rfl
  | some blk=>simp [fA]
 rw [<-e2];exact e1
section
variable {P:Program} {ops:Array Oper}
inductive StepV (P:Program) (ops:Array Oper) (o:Oper) (L L':St):Prop
 | base (h:Step P false ops o L L')
 | hand {M:St} {t b sz len:Nat} {vals:List LV} {m:Bool} (h:Step P false ops o L M) (ht:M.slot t=.ref b sz 0 len) (hb:M.heap b=some ⟨sz,vals,m⟩) (hp:pures vals=true) (hl:len=vals.length) (h0:b≠0)
   (e:L'=(M.put (some t) (.list sz vals)).kill b)
theorem ref_soft {b sz off len:Nat} (h:∀ c,(LV.ref b sz off len).kill c=.ref b sz off len):False:=by
 have:=h b;simp [LV.kill] at this
theorem stepV_comm {L L2:St} {d:Nat} {v:LV} {o:Oper} (hv:∀ b,v.kill b=v) (hk:wideOp o.op=true) (hl:d∉o.looksAt ops) (hd:o.dst≠some d) (h:StepV P ops o (L.put (some d) v) L2) :
  ∃ L1,StepV P ops o L L1/\L2=L1.put (some d) v/\∀ t,o.dst≠some t->(∀ b,(L.slot t).kill b=L.slot t)->L1.slot t=L.slot t:=by
 cases h with
 | base h =>
  obtain⟨L1,h1,h2,h3⟩:=step_commW hv hk hl hd h;exact⟨L1,.base h1,h2,h3⟩
 | @hand M t b sz len vals m h ht hb hp qC h0 e =>
  obtain⟨M1,h1,h2,h3⟩:=step_commW hv hk hl hd h;subst h2;have m8:t≠d:=fun q=>by
   subst q;rw [put_slot,if_pos rfl] at ht;subst ht;exact ref_soft hv
  rw [put_slot,if_neg m8] at ht;rw [put_heap] at hb;refine⟨_,.hand h1 ht hb hp qC h0 rfl,?_,fun s hs hf=>?_⟩
  ·rw [e,put_comm M1 (Ne.symm m8),kill_put _ hv]
  show ((M1.put (some t) (.list sz vals)).slot s).kill b=_;rw [put_slot];split
  ·rename_i q;subst q;rw [h3 s hs hf] at ht;rw [ht] at hf;exact(ref_soft hf).elim
  rw [h3 s hs hf,hf b]
def anyV (P:Program) (ops:Array Oper):Nat->Array Bool->St->(St->Prop)->Prop
 | 0,D,L,K=>Region.ready .any ops D=[]/\K L
 | fuel+1,D,L,K=>(Region.ready .any ops D=[]->K L)/\∀ i∈Region.ready .any ops D,∃ o L',ops[i]?=some o/\StepV P ops o L L'/\anyV P ops fuel (D.setIfInBounds i true) L' K
section
variable {D:Array Bool} {L:St} {K:St->Prop} {fuel:Nat}
theorem anyV_0 (hr:Region.ready .any ops D=[]) (k:K L):anyV P ops fuel D L K:=by
 cases fuel with
 | zero=>exact⟨hr,k⟩
 | succ n=>exact⟨fun _=>k,fun i hi=>by rw [hr] at hi;cases hi⟩
def stV (P:Program) (ops:Array Oper) (fuel:Nat) (D:Array Bool) (L:St) (K:St->Prop) (i:Nat):Prop:=∃ o L',ops[i]?=some o/\StepV P ops o L L'/\anyV P ops fuel (D.setIfInBounds i true) L' K
theorem stV_one {i:Nat} {o:Oper} (ho:ops[i]?=some o) (h:opsL P false ops [o] L (fun L'=>anyV P ops fuel (D.setIfInBounds i true) L' K)):stV P ops fuel D L K i:=by
 obtain⟨L',h1,h2⟩:=h;exact⟨o,L',ho,.base h1,h2⟩
theorem stV_hand {i:Nat} {o:Oper} (t b sz len:Nat) (vals:List LV) (m:Bool) (ho:ops[i]?=some o)
  (h:opsL P false ops [o] L (fun M=>(M.slot t=.ref b sz 0 len/\M.heap b=some ⟨sz,vals,m⟩/\pures vals=true/\len=vals.length/\b≠0)/\anyV P ops fuel (D.setIfInBounds i true) ((M.put (some t) (.list sz vals)).kill b) K)):stV P ops fuel D L K i:=by
 obtain⟨M,h1,⟨g1,g2,g3,g4,g5⟩,h2⟩:=h;exact⟨o,_,ho,.hand h1 g1 g2 g3 g4 g5 rfl,h2⟩
theorem anyV_1 (i:Nat) (hr:Region.ready .any ops D=[i]) (h:stV P ops fuel D L K i):anyV P ops (fuel+1) D L K:=by
 refine⟨fun e=>(by rw [hr] at e;cases e),fun j hj=>?_⟩;rw [hr,bD] at hj;subst hj;exact h
theorem anyV_2 (i j:Nat) (hr:Region.ready .any ops D=[i,j]) (h:stV P ops fuel D L K i) (h2:stV P ops fuel D L K j):anyV P ops (fuel+1) D L K:=by
 refine⟨fun e=>(by rw [hr] at e;cases e),fun x hx=>?_⟩;rw [hr] at hx;simp only [bp,cN,or_false] at hx;rcases hx with rfl | rfl
 ·exact h
 exact h2
end
section
variable {W w:World} {X:XS} {Z0:Nat->Prop} {a:Act} {n:Nat}
theorem anyV_sound {K:St->Prop} {Q:Exit->Act->World->Prop} (hd:∀ o∈ops.toList,∀ t,o.dst=some t->t<n) (hq:∀ L' a' w',K L'->Sim n W X Z0 L' a' w'->Q .normal a' w') :
  ∀ (fuel:Nat) (D:Array Bool) (L:St) (a:Act) (w:World),Sim n W X Z0 L a w->anyV P ops fuel D L K->wpAny P .any ops Q fuel D a w
 | 0,D,L,a,w,hs,h=>⟨h.1,hq L a w h.2 hs⟩
 | fuel+1,D,L,a,w,hs,h=>by
   refine⟨fun e=>hq L a w (h.1 e) hs,fun i hi=>?_⟩;obtain⟨o,L',h1,h2,h3⟩:=h.2 i hi;unfold wpOp;rw [h1];simp only;have nz:∀ t,o.dst=some t->t<n:=hd o (by rw [rN];exact Array.mem_of_getElem? h1);have:=show if Region.wanted o (yielded ops a.tmps) then o.wp P a w (wpAny P .any ops Q fuel (D.setIfInBounds i true)) Q else wpAny P .any ops Q fuel (D.setIfInBounds i true) (a.put o.dst undef) w from by
    cases h2 with
    | base h2=>exact step_sound (Q:=Q) (K:=wpAny P .any ops Q fuel (D.setIfInBounds i true)) hs h2 nz (fun a' w' cH=>anyV_sound hd hq fuel _ L' a' w' cH h3)
    | hand h2 g1 g2 g3 g4 g5 e =>
     subst e;exact step_sound (Q:=Q) (K:=wpAny P .any ops Q fuel (D.setIfInBounds i true)) hs h2 nz (fun a' w' cH=>anyV_sound hd hq fuel _ _ a' w' (Weak.handP g1 g2 g3 g4 g5 _ _ _ _ _ _ cH) h3)
   split
   ·rename_i hw;rw [if_pos hw] at this;exact .inl this
   rename_i hw;rw [if_neg hw] at this;exact this
end
theorem wl_regV {L L0:St} {Q:LEx->St->Prop} {id:Nat} (cE:P.follows .mixedOrders=true) (hw:Weak L L0) (h:anyV P ops ops.size (gX ops.size false) L0 (Q .normal)):wpL P (.region id ops true) Q L:=by
 refine⟨L0,hw,.inr (.inr fun n W X Z0 a w hs hd id=>?_)⟩;have cC:∀ o∈ops.toList,∀ t,o.dst=some t->t<n:=fun o ho t ht=>by
  simp only [dstsOk,ie] at hd;have:=hd o ho;rw [ht] at this;simpa using this
 exact wp_region_any cE (anyV_sound cC (fun L' a' w' hk cH=>⟨L',hk,cH⟩) _ _ L0 a _ (hs.drew rfl rfl rfl rfl) h)
theorem anyV_hoist {m:Nat} {K:St->Prop} {L:St} {D:Array Bool} {d:Nat} {v:LV} (i:Nat) {o:Oper} (ho:ops[i]?=some o) (oF:o.dst=some d) (cF:hoistOkW ops i D=true) (hv:OpP P (fun _=>none) L.ev o.op v)
  (hfv:∀ b,v.kill b=v) (l9:firmAll L o.op.operands.toList)
  (h:anyV P ops m (D.setIfInBounds i true) (L.put (some d) v) K):anyV P ops (m+1) D L K:=by
 have di:∀ i o,ops[i]?=some o->ops.getD i default=o:=fun i o h=>by rw [aM,h];rfl
 have nJ:i<ops.size:=(eB.1 ho).1
 let C:Array Bool->Prop:=fun D=>D.size=ops.size/\D.getD i false=false/\(∀ j∈dirs o,D.getD j false=true)/\∀ j oj,ops[j]?=some oj->j≠i->D.getD j false=false ->
  wideOp oj.op=true/\oj.dst≠some d/\(d∈oj.looksAt ops->i∈dirs oj)/\∀ e,oj.dst=some e->e∉o.looksAt ops
 unfold hoistOkW at cF;rw [di i o ho,oF] at cF;simp only [dG,ie,my,iy,beq_iff_eq,nH,lT,bne_iff_ne,ne_eq] at cF;obtain⟨⟨⟨⟨⟨hsz,mV⟩,mA⟩,vR⟩,tT⟩,bM⟩:=cF;have hC:C D:=by
  refine⟨hsz,by rw [getD_sz J false true];exact mV,mA,fun j oj hj ak lb=>?_⟩;have pA:j<ops.size:=(eB.1 hj).1;have:=bM j pA;rw [di j oj hj] at this;rcases this with(q | q) | q
  ·exact absurd q ak
  ·rw [getD_sz J true false,lb] at q;cases q
  obtain⟨⟨⟨q1,q2⟩,q3⟩,q4⟩:=q;refine⟨q1,q2,fun hm=>?_,fun e he hm=>?_⟩
  ·rcases q3 with q | q
   ·rw [gk.2 hm] at q;cases q
   exact gk.1 q
  rw [he] at q4;simp only [nH] at q4;rw [gk.2 hm] at q4;cases q4
 have qF:∀ L:St,OpP P (fun _=>none) L.ev o.op v->Step P false ops o L (L.put (some d) v):=fun L hv=>by
  refine .val (fr:=[]) (H1:=L.heap) (r:=v) (by unfold GuardIs;rw [vR]) (Heap.le_refl _) (fun _ _ hh=>by cases hh) (.pure (hv.le fun b blk h=>by cases h)) ?_;rw [oF];rfl
 clear hsz mV mA bM;have yR:∀ x∈o.op.operands,∀ b,(L.ev x).kill b=L.ev x:=fun x hx=>firmAll_mem l9 x (rN.2 hx);clear l9;have main:∀ (n:Nat) (D:Array Bool) (L:St),C D->OpP P (fun _=>none) L.ev o.op v->(∀ x∈o.op.operands,∀ b,(L.ev x).kill b=L.ev x)->anyV P ops n (D.setIfInBounds i true) (L.put (some d) v) K->anyV P ops (n+1) D L K:=by
  intro n
  induction n with
  | zero =>
   intro D L ⟨c1,c2,c3,c4⟩ hv _ hh;have et:i∈Region.ready .any ops D:=(ready_spec c1).2 ⟨o,ho,by rw [getD_sz J true false];exact c2,c3⟩;refine⟨fun hr=>(by rw [hr] at et;cases et),fun j hj=>?_⟩;by_cases cW:j=i
   ·subst cW;exact⟨o,_,ho,.base (qF L hv),hh⟩
   exfalso;obtain⟨oj,h1,h2,h3⟩:=(ready_spec c1).1 hj;have:j∈Region.ready .any ops (D.setIfInBounds i true):=(ready_spec (by simpa using c1)).2 ⟨oj,h1,by
    rw [aM,bR (Ne.symm cW),<-aM];exact h2,fun k hk=>by
    by_cases eU:i=k
    ·subst eU;rw [aM,eh J];rfl
    rw [aM,bR eU,<-aM];exact h3 k hk⟩
   rw [hh.1] at this;cases this
  | succ n ih =>
   intro D L ⟨c1,c2,c3,c4⟩ hv l9 hh;have et:i∈Region.ready .any ops D:=(ready_spec c1).2 ⟨o,ho,by rw [getD_sz J true false];exact c2,c3⟩;refine⟨fun hr=>(by rw [hr] at et;cases et),fun j hj=>?_⟩;by_cases cW:j=i
   ·subst cW;exact⟨o,_,ho,.base (qF L hv),hh⟩
   obtain⟨oj,h1,h2,h3⟩:=(ready_spec c1).1 hj;have pA:j<ops.size:=(eB.1 h1).1;have lb:D.getD j false=false:=by rw [getD_sz J false true];exact h2
   have wF:j∈Region.ready .any ops (D.setIfInBounds i true):=(ready_spec (by simpa using c1)).2 ⟨oj,h1,by
    rw [aM,bR (Ne.symm cW),<-aM];exact h2,fun k hk=>by
    by_cases eU:i=k
    ·subst eU;rw [aM,eh J];rfl
    rw [aM,bR eU,<-aM];exact h3 k hk⟩
   obtain⟨oj',L2,g1,g2,g3⟩:=hh.2 j wF;rw [h1] at g1;cases g1;obtain⟨k1,k2,k3,k4⟩:=c4 j oj h1 cW lb;have ga:d∉oj.looksAt ops:=fun hm=>by
    have:=h3 i (k3 hm);rw [c2] at this;cases this
   obtain⟨L1,s1,s2,s3⟩:=stepV_comm hfv k1 ga k2 g2;have qp:∀ x∈o.op.operands,L1.ev x=L.ev x:=fun x hx=>by
    cases x with
    | tmp t =>
     have ht:t∈o.looksAt ops:=by
      unfold Oper.looksAt;simp only [eF,nC];exact .inl ⟨.tmp t,by simpa using hx,rfl⟩
     exact s3 t (fun q=>k4 t q ht) (l9 _ hx)
    | const v=>rfl
    | func f=>rfl
    | global f=>rfl
   refine⟨oj,L1,h1,s1,ih (D.setIfInBounds j true) L1 ⟨by simpa using c1,?_,fun k hk=>?_,fun k ok hk ak a6=>?_⟩ (hv.cong tT qp) (fun x hx b=>by rw [qp x hx];exact l9 x hx b) ?_⟩
   ·rw [aM,bR cW,<-aM];exact c2
   ·by_cases gU:j=k
    ·subst gU;rw [aM,eh J];rfl
    rw [aM,bR gU,<-aM];exact c3 k hk
   ·by_cases gU:j=k
    ·subst gU;rw [aM,eh J] at a6
     cases a6
    rw [aM,bR gU,<-aM] at a6;exact c4 k ok hk ak a6
   rw [<-s2];have:(D.setIfInBounds j true).setIfInBounds i true=(D.setIfInBounds i true).setIfInBounds j true:=by
    refine y8 fun k=>?_;by_cases q1:i=k
    ·subst q1;rw [eh al,bR cW,eh J]
    by_cases q2:j=k
    ·subst q2;rw [bR q1,eh J,eh al]
    rw [bR q1,bR q2,bR q2,bR q1]
   rw [this];exact g3
 exact main m D L hC hv yR h
end
def wideC:Op->Bool
 | .extract ..=>true
 | .assign _=>true
 | op=>wideOp op
section
variable {P:Program} {H:Heap} {ρ iO:Operand->LV}
theorem OpV.congC {d:Nat} {op:Op} {r:LV} {fr:List (Nat × Blk)} (eY:OpV P H ρ d op r fr) (hk:wideC op=true) (hr:∀ x∈op.operands,iO x=ρ x):OpV P H iO d op r fr:=by
 cases eY with
 | pure hp =>
  by_cases dW:plainOp op=true
  ·exact .pure (hp.cong dW hr)
  by_cases rH:∃ T ps,op=.build T ps
  ·obtain⟨T,ps,rfl⟩:=rH;exact .pure (hp.congB hr)
  cases hp with
  | ext2 hf fS hb hn he hx h1' h1 h2 =>
   refine .pure (.ext2 hf fS hb hn he ?_ h1' h1 h2);rw [<-hx];exact nS fun x iu=>hr x (mem_args iu)
  | assign x=>rw [<-hr x aE];exact .pure (.assign x)
  | extract ht hq ak=>exact .pure (.extract ((hr _ aE).trans ht) hq ak)
  | build=>exact absurd ⟨_,_,rfl⟩ rH
  | buildA=>exact absurd ⟨_,_,rfl⟩ rH
  | _=>first | (exfalso;exact dW rfl) | (exfalso;revert hk dW;simp [wideC,wideOp,plainOp])
 | alloc ha=>exact .alloc (ha.cong hr)
 | call hc =>
  cases hc with
  | func ha jw hlen cY =>
   refine .call (.func ?_ jw hlen cY);rw [show (_:Array Operand).toList.map iO=_ from nS fun x iu=>hr x (mem_args iu)];exact ha
  | clo=>exfalso;revert hk;simp [wideC,wideOp,plainOp]
  | mk=>exfalso;revert hk;simp [wideC,wideOp,plainOp]
theorem opvP {f:FuncId} {xs:Array Operand} {tas:Array TypeId} {args:List LV} {r:LV} {d:Nat} (ha:ImmL H (xs.toList.map ρ) args) (hk:CallP P f args r):OpV P H ρ d (.call ⟨.value (.func f),xs,tas⟩) r []:=by
 have:=OpV.call (op:=.call ⟨.value (.func f),xs,tas⟩) (OpC.func (d:=d) ha hk.1 aj aj);rw [hk.2] at this;exact this
end
section
variable {P:Program} {ops:Array Oper}
theorem step_commC {L L2:St} {d:Nat} {v:LV} {o:Oper} (hv:∀ b,v.kill b=v) (hk:wideC o.op=true) (hl:d∉o.looksAt ops) (hd:o.dst≠some d) (h:Step P false ops o (L.put (some d) v) L2) :
  ∃ L1,Step P false ops o L L1/\L2=L1.put (some d) v/\∀ t,o.dst≠some t->(∀ b,(L.slot t).kill b=L.slot t)->L1.slot t=L.slot t:=by
 have bl:=ev_put (L:=L) (v:=v) hl;have bg:∀ (M:St) (r:LV) t,M.slot t=L.slot t->o.dst≠some t->(M.put o.dst r).slot t=L.slot t:=fun M r t hM ak=>by
  cases hh:o.dst with
  | none=>exact hM
  | some e=>rw [put_slot,if_neg (fun q=>ak (by rw [hh,q]))];exact hM
 cases h with
 | skip hg hL=>exact⟨L.put o.dst (.tup []),.skip (guard_put hl hg) rfl,by rw [hL,put_commO L hd],fun t ht _=>bg L _ t rfl ht⟩
 | @val r fr H1 hg hle aY eY hL =>
  obtain⟨dst,op,ty,pos,after,gd⟩:=o;have mX:∀ x∈op.operands,L.ev x=(L.put (some d) v).ev x:=fun x hx=>(bl x hx).symm;have pH:OpV P H1 L.ev (dst.getD 0) op r fr:=eY.congC hk mX;refine⟨⟨(L.put dst r).slot,H1⟩,.val (guard_put hl hg) hle aY pH rfl,?_,fun t ht _=>bg L r t rfl ht⟩;rw [hL];have:=put_commO L hd v r;exact congrArg (fun M=>St.mk (St.slot M) H1) this
 | st hg jd =>
  obtain⟨dst,op,ty,pos,after,gd⟩:=o
  cases jd with
  | store hp hb hs hm hi hy fb hT ak =>
   rename_i T p x b sz i o' blk y y';have e1:=bl p aE;have e2:=bl x aE;rw [e1] at hp;rw [e2] at fb hT ak;refine⟨_,.st (guard_put hl hg) (.store hp hb hs hm hi hy fb hT ak),?_,fun t ht _=>?_⟩
   ·exact put_commO (L.setB b _) hd v .any
   exact bg (L.setB b _) .any t rfl ht
  | appX hx hb hs hm hlen cm bC hT hU hz hE a7 cU hy hsz ck aT =>
   rename_i T U E E' d' b sz len blk x y news z bu;have e1:=bl x dI;have e2:=bl y dI;rw [e1] at hx;rw [e2] at hy;refine⟨_,.st (guard_put hl hg) (.appX hx hb hs hm hlen cm bC hT hU hz hE a7 cU hy hsz ck aT),?_,fun t ht hf=>?_⟩
   ·rw [kill_put L hv];exact put_commO ((L.kill b).setB d' _) hd v _
   exact bg ((L.kill b).setB d' _) _ t (hf b) ht
  | app0X hx cm hT hU hz hE a7 cU hy hn hsz ck aT =>
   rename_i T U E E' d' sz x y news z bu;have e1:=bl x dI;have e2:=bl y dI;rw [e1] at hx;rw [e2] at hy;refine⟨_,.st (guard_put hl hg) (.app0X hx cm hT hU hz hE a7 cU hy hn hsz ck aT),?_,fun t ht hf=>?_⟩
   ·exact put_commO (L.setB d' _) hd v _
   exact bg (L.setB d' _) _ t rfl ht
  | _=>exfalso;revert hk;simp [wideC,wideOp,plainOp]
 | stM cd hg dN =>
  obtain⟨dst,op,ty,pos,after,gd⟩:=o
  cases dN with
  | call hb hm hp ha hn jw gp dQ =>
   rename_i f xs kj args r b blk blk';have em:xs.toList.map (L.put (some d) v).ev=xs.toList.map L.ev:=nS fun x iu=>bl x (mem_args iu);rw [em] at ha hn;refine⟨_,.stM cd (guard_put hl hg) (.call hb hm hp ha hn jw gp dQ),?_,fun t ht _=>?_⟩
   ·exact put_commO (L.setB b _) hd v _
   exact bg (L.setB b _) _ t rfl ht
  | appzC hT hU hz hE a7 hb hx dP gf hlen hy cm uR aT hm ck =>
   rename_i T U E x y z k kl sz bu len cp n d' b blk;rw [bl x dI] at hx;rw [bl y dI] at hy;refine⟨_,.stM cd (guard_put hl hg) (.appzC hT hU hz hE a7 hb hx dP gf hlen hy cm uR aT hm ck),?_,fun t ht _=>?_⟩
   ·exact put_commO (L.setB d' _) hd v _
   exact bg (L.setB d' _) _ t rfl ht
  | ovl hf fS hb hn he ht hE hx hy jQ h1 h2 aT =>
   rw [bl _ (mem_args aj)] at hx;rw [bl _ (mem_args aj)] at hy;refine⟨_,.stM cd (guard_put hl hg) (.ovl hf fS hb hn he ht hE hx hy jQ h1 h2 aT),?_,fun t ht _=>?_⟩
   ·exact put_commO L hd v _
   exact bg L _ t rfl ht
def hoistOkC (ops:Array Oper) (i:Nat) (D:Array Bool):Bool :=
 D.size==ops.size && !D.getD i true && (dirs (ops.getD i default)).all (fun j=>D.getD j false) && (ops.getD i default).guard.isNone && wideC (ops.getD i default).op &&
 (b9 ops.size).all fun j=>j==i || D.getD j true || (wideC (ops.getD j default).op && ((ops.getD j default).dst != (ops.getD i default).dst) &&
  (match (ops.getD i default).dst with | some d=>!((ops.getD j default).looksAt ops).contains d || (dirs (ops.getD j default)).contains i | none=>false) &&
  (match (ops.getD j default).dst with | some e=>!((ops.getD i default).looksAt ops).contains e | none=>true))
theorem any_hoistC {m:Nat} {K:St->Prop} {L:St} {D:Array Bool} {d:Nat} {v:LV} (i:Nat) {o:Oper} (ho:ops[i]?=some o) (oF:o.dst=some d) (cF:hoistOkC ops i D=true) (hv:OpV P (fun _=>none) L.ev d o.op v [])
  (hfv:∀ b,v.kill b=v) (l9:firmAll L o.op.operands.toList)
  (h:anyL P ops m (D.setIfInBounds i true) (L.put (some d) v) K):anyL P ops (m+1) D L K:=by
 have di:∀ i o,ops[i]?=some o->ops.getD i default=o:=fun i o h=>by rw [aM,h];rfl
 have nJ:i<ops.size:=(eB.1 ho).1
 let C:Array Bool->Prop:=fun D=>D.size=ops.size/\D.getD i false=false/\(∀ j∈dirs o,D.getD j false=true)/\∀ j oj,ops[j]?=some oj->j≠i->D.getD j false=false ->
  wideC oj.op=true/\oj.dst≠some d/\(d∈oj.looksAt ops->i∈dirs oj)/\∀ e,oj.dst=some e->e∉o.looksAt ops
 unfold hoistOkC at cF;rw [di i o ho,oF] at cF;simp only [dG,ie,my,iy,beq_iff_eq,nH,lT,bne_iff_ne,ne_eq] at cF;obtain⟨⟨⟨⟨⟨hsz,mV⟩,mA⟩,vR⟩,tT⟩,bM⟩:=cF;have hC:C D:=by
  refine⟨hsz,by rw [getD_sz J false true];exact mV,mA,fun j oj hj ak lb=>?_⟩;have pA:j<ops.size:=(eB.1 hj).1;have:=bM j pA;rw [di j oj hj] at this;rcases this with(q | q) | q
  ·exact absurd q ak
  ·rw [getD_sz J true false,lb] at q;cases q
  obtain⟨⟨⟨q1,q2⟩,q3⟩,q4⟩:=q;refine⟨q1,q2,fun hm=>?_,fun e he hm=>?_⟩
  ·rcases q3 with q | q
   ·rw [gk.2 hm] at q;cases q
   exact gk.1 q
  rw [he] at q4;simp only [nH] at q4;rw [gk.2 hm] at q4;cases q4
 have qF:∀ L:St,OpV P (fun _=>none) L.ev d o.op v []->Step P false ops o L (L.put (some d) v):=fun L hv=>by
  refine .val (fr:=[]) (H1:=L.heap) (r:=v) (by unfold GuardIs;rw [vR]) (Heap.le_refl _) (fun _ _ hh=>by cases hh) (by rw [oF];exact hv.le fun b blk h=>by cases h) ?_;rw [oF];rfl
 clear hsz mV mA bM;have yR:∀ x∈o.op.operands,∀ b,(L.ev x).kill b=L.ev x:=fun x hx=>firmAll_mem l9 x (rN.2 hx);clear l9;have main:∀ (n:Nat) (D:Array Bool) (L:St),C D->OpV P (fun _=>none) L.ev d o.op v []->(∀ x∈o.op.operands,∀ b,(L.ev x).kill b=L.ev x)->anyL P ops n (D.setIfInBounds i true) (L.put (some d) v) K->anyL P ops (n+1) D L K:=by
  intro n
  induction n with
  | zero =>
   intro D L ⟨c1,c2,c3,c4⟩ hv _ hh;have et:i∈Region.ready .any ops D:=(ready_spec c1).2 ⟨o,ho,by rw [getD_sz J true false];exact c2,c3⟩;refine⟨fun hr=>(by rw [hr] at et;cases et),fun j hj=>?_⟩;by_cases cW:j=i
   ·subst cW;exact⟨o,_,ho,qF L hv,hh⟩
   exfalso;obtain⟨oj,h1,h2,h3⟩:=(ready_spec c1).1 hj;have:j∈Region.ready .any ops (D.setIfInBounds i true):=(ready_spec (by simpa using c1)).2 ⟨oj,h1,by
    rw [aM,bR (Ne.symm cW),<-aM];exact h2,fun k hk=>by
    by_cases eU:i=k
    ·subst eU;rw [aM,eh J];rfl
    rw [aM,bR eU,<-aM];exact h3 k hk⟩
   rw [hh.1] at this;cases this
  | succ n ih =>
   intro D L ⟨c1,c2,c3,c4⟩ hv l9 hh;have et:i∈Region.ready .any ops D:=(ready_spec c1).2 ⟨o,ho,by rw [getD_sz J true false];exact c2,c3⟩;refine⟨fun hr=>(by rw [hr] at et;cases et),fun j hj=>?_⟩;by_cases cW:j=i
   ·subst cW;exact⟨o,_,ho,qF L hv,hh⟩
   obtain⟨oj,h1,h2,h3⟩:=(ready_spec c1).1 hj;have pA:j<ops.size:=(eB.1 h1).1;have lb:D.getD j false=false:=by rw [getD_sz J false true];exact h2
   have wF:j∈Region.ready .any ops (D.setIfInBounds i true):=(ready_spec (by simpa using c1)).2 ⟨oj,h1,by
    rw [aM,bR (Ne.symm cW),<-aM];exact h2,fun k hk=>by
    by_cases eU:i=k
    ·subst eU;rw [aM,eh J];rfl
    rw [aM,bR eU,<-aM];exact h3 k hk⟩
   obtain⟨oj',L2,g1,g2,g3⟩:=hh.2 j wF;rw [h1] at g1;cases g1;obtain⟨k1,k2,k3,k4⟩:=c4 j oj h1 cW lb;have ga:d∉oj.looksAt ops:=fun hm=>by
    have:=h3 i (k3 hm);rw [c2] at this;cases this
   obtain⟨L1,s1,s2,s3⟩:=step_commC hfv k1 ga k2 g2;have qp:∀ x∈o.op.operands,L1.ev x=L.ev x:=fun x hx=>by
    cases x with
    | tmp t =>
     have ht:t∈o.looksAt ops:=by
      unfold Oper.looksAt;simp only [eF,nC];exact .inl ⟨.tmp t,by simpa using hx,rfl⟩
     exact s3 t (fun q=>k4 t q ht) (l9 _ hx)
    | const v=>rfl
    | func f=>rfl
    | global f=>rfl
   refine⟨oj,L1,h1,s1,ih (D.setIfInBounds j true) L1 ⟨by simpa using c1,?_,fun k hk=>?_,fun k ok hk ak a6=>?_⟩ (hv.congC tT qp) (fun x hx b=>by rw [qp x hx];exact l9 x hx b) ?_⟩
   ·rw [aM,bR cW,<-aM];exact c2
   ·by_cases gU:j=k
    ·subst gU;rw [aM,eh J];rfl
    rw [aM,bR gU,<-aM];exact c3 k hk
   ·by_cases gU:j=k
    ·subst gU;rw [aM,eh J] at a6
     cases a6
    rw [aM,bR gU,<-aM] at a6;exact c4 k ok hk ak a6
   rw [<-s2];have:(D.setIfInBounds j true).setIfInBounds i true=(D.setIfInBounds i true).setIfInBounds j true:=by
    refine y8 fun k=>?_;by_cases q1:i=k
    ·subst q1;rw [eh al,bR cW,eh J]
    by_cases q2:j=k
    ·subst q2;rw [bR q1,eh J,eh al]
    rw [bR q1,bR q2,bR q2,bR q1]
   rw [this];exact g3
 exact main m D L hC hv yR h
end
end Go.Lg
end
section
set_option linter.unusedVariables false
set_option linter.unusedSimpArgs false
set_option maxHeartbeats 8000000
set_option maxRecDepth 100000
attribute [local irreducible] Go.Lg.opsL Go.Lg.wpL Go.Lg.thenL Go.Lg.blockL
namespace Go.Proofs.YtlipjipfpkbppaaGreat
open Go.Lg
def kn2 (d:Nat) (a b:Rat):List Rat:=ai (d+1) a++ai (d+1) b
theorem kn2_len (d:Nat) (a b:Rat):(kn2 d a b).length=2*(d+1):=by simp [kn2];omega
theorem kn2_get (d:Nat) (a b:Rat) (i:Nat) (h:i<2*(d+1)):(kn2 d a b).getD i 0=if i<d+1 then a else b:=by
 unfold kn2;split
 ·rw [gD1 al,getD_rep J]
 rw [gD2 al,mj,getD_rep J]
theorem kn2_lo (d:Nat) (a b:Rat):(kn2 d a b).getD 0 0=a:=by rw [kn2_get _ _ _ _ J,if_pos J]
theorem kn2_hi (d:Nat) (a b:Rat):(kn2 d a b).getD (2*(d+1)-1) 0=b:=by rw [kn2_get _ _ _ _ J,if_neg J]
theorem kn2_rl {d:Nat} {a b:Rat} {R:Nat} (ha:rl a<=R) (hb:rl b<=R):∀ x∈kn2 d a b,rl x<=R:=fun x hx=>by
 rcases eF.1 hx with g | g
 ·rw [(jE.1 g).2];exact ha
 rw [(jE.1 g).2];exact hb
theorem mn_lt2 {a b:Rat} (h:a<b):mnR a b=a:=by unfold mnR;rw [if_neg ay]
theorem mx_lt2 {a b:Rat} (h:a<b):mxR a b=b:=by unfold mxR;rw [if_pos h]
theorem hs_ofL {p:List Rat} {x:Rat} (hl:p.length<=7) (hp:∀ y∈p,rl y<=7000000) (hx:rl x<=100000):HS p x:=by
 have h1:=rl_sub 1 x;have h0:rl 1=1:=rfl;refine⟨rl (1-x)+rl x+1,an _,J,fun y hy=>?_⟩;have h2:=hp y hy;have h3:2 ^ p.length<=2 ^ 7:=gg ae hl;have h4:(rl y+(rl (1-x)+rl x+1))*2 ^ p.length<=8000000*2 ^ 7:=cx J h3;omega
theorem rep_crv2 (d sz:Nat) (x z:LV) (Z:Nat->Prop) (μ:Nat->Option Nat) (w:World) (cs:List Value) (h:Rep Z μ w (.agg [x,.v (.slice none 0 0),z]) cs):Rep Z μ w (.agg [x,.ref d sz 0 0,z]) cs:=by
 simp only [Rep,RepFs] at h ⊢;obtain⟨c1,c2,e1,e2,e3,c3,c4,e4,e5,e6,c5,c6,e7,e8,e9,qP⟩:=h;exact⟨c1,c2,e1,e2,e3,c3,c4,e4,e5,.inl ⟨e6.1,trivial⟩,c5,c6,e7,e8,e9,qP⟩
open H_c_Distinct in
theorem c_Of2 (q:PoR) (R:Nat) (hR:R<=1000000) (h:okP R q):CallP aa 182 [poL q] (.agg [ratL (q.w*q.p.x),ratL (q.w*q.p.y),ratL (q.w*q.p.z),ratL q.w]):=by
 obtain⟨⟨a1,a2,a3⟩,a4,_⟩:=h;have hA:=c_RAdd q.w 0 (by have:rl 0=1:=rfl;omega);rw [fw] at hA;refine fnP Tryz.func182 (ht:=(fun g=>LV.ren_pure g _ pu)) ?_;refine zg20 ?_;refine fq ?_;refine zg18 ?_;refine cp am2 (c_RMul q.w q.p.x J) ?_;refine zg5 ?_;refine wl_regW (Weak.kill _ 5) ?_;refine zg4 ?_;refine fq ?_;refine zg18 ?_;refine cp am2 (c_RMul q.w q.p.y J) ?_;refine zg5 ?_;refine wl_regW (Weak.kill _ 5) ?_;refine zg4 ?_;refine fq ?_;refine zg18 ?_;refine cp am2 (c_RMul q.w q.p.z J) ?_;refine zg5 ?_;refine wl_regW (Weak.kill _ 5) ?_;refine zg4 ?_;refine km ?_;refine zg9 ?_;refine fu ?_;refine cp am2 (hA) ?_;refine zg11 ?_;exact retC [] rfl rfl rfl cs (at_all cs rfl) T191 (.pure pu)
namespace H_c_FourP
theorem zSm {p q:Prop} (k:q) (e:p=q:=by simp only [sNF,ar,au,aq,List.getD_cons_zero,aN,aK,aO,reduceIte,if_true,if_false,aX,LV.kill,kills];exact rfl):p:=e.mpr k
end H_c_FourP
open H_c_FourP in
theorem c_FourP (n0 n1 n2 w:Rat) (R:Nat) (hR:R<=1000000000) (h0:rl n0<=R) (h1:rl n1<=R) (h2:rl n2<=R) (hw:rl w<=R) (gC:0<w):CallP aa 114 [.agg [ratL n0,ratL n1,ratL n2,ratL w]] (poL ⟨⟨n0/w,n1/w,n2/w⟩,w⟩):=by
 have hA:=c_RAdd w 0 (by have:rl 0=1:=rfl;omega);rw [fw] at hA;have ak:w≠0:=ay;have hQ0:CallP aa 183 [ratL n0,ratL w] (.tup [ratL (n0/w),iL 0]):=by
  have:=c_RQuo n0 w J;rwa [if_neg ak] at this
 have hQ1:CallP aa 183 [ratL n1,ratL w] (.tup [ratL (n1/w),iL 0]):=by
  have:=c_RQuo n1 w J;rwa [if_neg ak] at this
 have hQ2:CallP aa 183 [ratL n2,ratL w] (.tup [ratL (n2/w),iL 0]):=by
  have:=c_RQuo n2 w J;rwa [if_neg ak] at this
 refine fnP Tryz.func114 (ht:=(fun g=>LV.ren_pure g _ (poE.pure _))) ?_;refine zg8 ?_
 try simp only [aaB]
 refine zg2 ?_;refine fu ?_;refine cp am2 (hA) ?_;refine s0bd (bdW rfl) ?_;refine zg11 ?_;refine iR ?_;refine wl_regF 12 [9] ah ?_;refine zg6 ?_;refine cp am2 (hQ0) ?_;refine zg14 ?_;refine iR ?_;refine wl_regF 12 [9] ah ?_;refine zg6 ?_;refine cp am2 (hQ1) ?_;refine zg14 ?_;refine iR ?_;refine wl_regF 12 [9] ah ?_;refine zg6 ?_;refine cp am2 (hQ2) ?_;refine zg14 ?_;refine km ?_;refine zg12 ?_;exact retC [] rfl rfl rfl cs (at_all cs rfl) T119 (.pure pu)
theorem ng_step {D:Nat} {a b t x:Rat} (aW:b-a≠0) (hx:(t-a)/(b-a)=x) {e j:Nat} (he:e<D) (hj:j<=e+1) :
  nfn (kn2 D a b) D t (e+1) (D-(e+1)+j)=(if 1<=j then x*nfn (kn2 D a b) D t e (D-e+(j-1)) else 0)+(if j<=e then(1-x)*nfn (kn2 D a b) D t e (D-e+j) else 0):=by
 have g:=kn2_get D a b;have lR:(b-t)/(b-a)=1-x:=by
  have c1:x*(b-a)=t-a:=by rw [<-hx];exact Rat.div_mul_cancel aW
  have e1:b-t=(1-x)*(b-a):=ay;rw [e1,cj,lU,r8 _ aW,iX]
 rw [nfn];have fR:(kn2 D a b).getD (D-(e+1)+j) 0=a:=by rw [g _ J,if_pos J]
 have hk4:(kn2 D a b).getD (D-(e+1)+j+(e+1)+1) 0=b:=by rw [g _ J,if_neg J]
 rw [if_neg J,fR,hk4];have hi:D-(e+1)+j+1=D-e+j:=J;rw [hi];congr 1
 ·by_cases h1:1<=j
  ·rw [if_pos h1];have dk:(kn2 D a b).getD (D-(e+1)+j+(e+1)) 0=b:=by rw [g _ J,if_neg J]
   rw [dk,hx,show D-(e+1)+j=D-e+(j-1) by omega]
  rw [if_neg h1];obtain rfl:j=0:=J;have hz:nfn (kn2 D a b) D t e (D-(e+1)+0)=0:=by
   cases e with
   | zero=>rw [nfn,if_neg J]
   | succ e=>rw [nfn,if_pos (.inr J)]
  rw [hz,pY]
 by_cases h1:j<=e
 ·rw [if_pos h1];have qZ:(kn2 D a b).getD (D-e+j) 0=a:=by rw [g _ J,if_pos J]
  rw [qZ,lR]
 rw [if_neg h1];obtain rfl:j=e+1:=J;have hz:nfn (kn2 D a b) D t e (D-e+(e+1))=0:=by
  cases e with
  | zero=>rw [nfn,if_neg J]
  | succ e=>rw [nfn,if_pos (.inl J)]
 rw [hz,pY]
theorem ng_sum {D:Nat} {a b t x:Rat} (aW:b-a≠0) (hx:(t-a)/(b-a)=x):∀ (e:Nat) (c:Nat->Rat),e<=D->sm (e+1) (fun j=>nfn (kn2 D a b) D t e (D-e+j)*c j)=fE (1-x) x e c
 | 0,c,h=>by
  show 0+nfn _ _ _ 0 (D-0+0)*c 0=c 0;rw [nfn,if_pos J,qG,fN]
 | e+1,c,h=>by
  have ih:=ng_sum (D:=D) (t:=t) aW hx e (fun i=>(1-x)*c i+x*c (i+1)) J;rw [fE,<-ih];obtain⟨N,hN⟩:∃ N:Nat->Rat,N=fun j=>nfn (kn2 D a b) D t e (D-e+j):=⟨_,rfl⟩;have e1:sm (e+1+1) (fun j=>nfn (kn2 D a b) D t (e+1) (D-(e+1)+j)*c j) =
    sm (e+2) (fun j=>(if 1<=j then x*(N (j-1)*c j) else 0))+sm (e+2) (fun j=>if j<=e then(1-x)*(N j*c j) else 0):=by
   rw [<-sm_add];refine sm_congr _ _ _ fun j hj=>?_;rw [ng_step aW hx J J,hN];split<;>split<;>grind
  have e2:sm (e+2) (fun j=>(if 1<=j then x*(N (j-1)*c j) else 0))=sm (e+1) (fun j=>x*(N j*c (j+1))):=by
   rw [sm_head,if_neg J,qG];refine sm_congr _ _ _ fun j hj=>?_;rw [if_pos J,df]
  have e3:sm (e+2) (fun j=>if j<=e then(1-x)*(N j*c j) else 0)=sm (e+1) (fun j=>(1-x)*(N j*c j)):=by
   rw [sm,if_neg J,fw];refine sm_congr _ _ _ fun j hj=>?_;rw [if_pos J]
  rw [e1,e2,e3,<-sm_add];refine sm_congr _ _ _ fun j hj=>?_;rw [hN];grind
def ngL (D:Nat) (a b t:Rat):List Rat:=(b9 (D+1)).map fun i=>nfn (kn2 D a b) D t D i
theorem ngL_len (D:Nat) (a b t:Rat):(ngL D a b t).length=D+1:=by simp [ngL]
theorem ngL_get {D:Nat} {a b t:Rat} {i:Nat} (h:i<D+1):(ngL D a b t).getD i 0=nfn (kn2 D a b) D t D i:=by
 unfold ngL;rw [ao,aB dX];simp
theorem ngL_ev {p:List Rat} {D:Nat} {a b t x:Rat} (aW:b-a≠0) (hx:(t-a)/(b-a)=x) (h:p.length=D+1):sm (D+1) (fun i=>(ngL D a b t).getD i 0*p.getD i 0)=evP p x:=by
 have e:=ng_sum (t:=t) aW hx D (fun i=>p.getD i 0) (an _);rw [jy] at e;rw [ev_fE J,h,df,<-e];refine sm_congr _ _ _ fun i hi=>?_;rw [ngL_get hi,cJ]
theorem ng_snoc {D:Nat} {a b t:Rat} {i:Nat} (h:i<D+1):(ngL D a b t).take i++[nfn (kn2 D a b) D t D i]=(ngL D a b t).take (i+1):=by
 rw [<-ngL_get h];exact take_snocL (by rw [ngL_len];exact h)
theorem ng_rl {D:Nat} {a b t:Rat} (hD:D<=6) (hT:rl a<=1000) (fU:rl b<=1000) (ht:rl t<=1000):∀ x∈ngL D a b t,rl x<=632000:=fun x hx=>by
 obtain⟨i,hi,rfl⟩:=bS.1 hx;have hk:∀ y∈kn2 D a b,rl y<=1000:=fun y hy=>by
  rcases eF.1 hy with h | h
  ·rw [(jE.1 h).2];exact hT
  rw [(jE.1 h).2];exact fU
 have h:=nfn_rl (at_:=D) ae hk ht D i;have tQ:2 ^ D<=2 ^ 6:=gg ae hD;omega
def hgS (d:Nat) (a b t:Rat) (po:List PoR) (k i:Nat):Rat:=sm i fun j=>(ngL d a b t).getD j 0*(if k<3 then(nmP po k).getD j 0 else(wtP po).getD j 0)
theorem hg_bd {po:List PoR} {d:Nat} {a b t:Rat} (h6:d<=6) (hN:∀ k,∀ z∈nmP po k,rl z<=100000) (hW:∀ z∈wtP po,rl z<=100000) (hn:∀ x∈ngL d a b t,rl x<=632000) (i:Nat) (hi:i<=d+1) (k:Nat):rl (hgS d a b t po k i)<=6000000:=by
 have hd:=h6;have h1:=sm_rl (f:=fun j=>(ngL d a b t).getD j 0*(if k<3 then(nmP po k).getD j 0 else(wtP po).getD j 0)) (R:=732000) ae i (fun j hj=>by
  have a1:=getD_rl ae hn j;have a2:=getD_rl ae (hN k) j;have a3:=getD_rl ae hW j;have m:=rl_mul ((ngL d a b t).getD j 0) (if k<3 then(nmP po k).getD j 0 else(wtP po).getD j 0);split at m<;>split<;>first | omega | contradiction)
 have h2:i*(732000+1)<=7*(732000+1):=bw _ J;unfold hgS;omega
theorem hg_st {po:List PoR} {d i:Nat} {a b t:Rat} (h:i<po.length) :
  hgS d a b t po 0 i+(ngL d a b t).getD i 0*((po.getD i default).w*(po.getD i default).p.x)=hgS d a b t po 0 (i+1)/\hgS d a b t po 1 i+(ngL d a b t).getD i 0*((po.getD i default).w*(po.getD i default).p.y)=hgS d a b t po 1 (i+1) /\
  hgS d a b t po 2 i+(ngL d a b t).getD i 0*((po.getD i default).w*(po.getD i default).p.z)=hgS d a b t po 2 (i+1)/\hgS d a b t po 3 i+(ngL d a b t).getD i 0*(po.getD i default).w=hgS d a b t po 3 (i+1):=by
 refine⟨?_,?_,?_,?_⟩
 ·unfold hgS;rw [sm,if_pos ae,nm_get h];rfl
 ·unfold hgS;rw [sm,if_pos ae,nm_get h];rfl
 ·unfold hgS;rw [sm,if_pos ae,nm_get h];rfl
 unfold hgS;rw [sm,if_neg ae,wt_get h]
theorem hg_ev {po:List PoR} {d R:Nat} {a b t x:Rat} (aW:b-a≠0) (hx:(t-a)/(b-a)=x) (h:cvR po d R):(∀ k,k<3->hgS d a b t po k (d+1)=evP (nmP po k) x)/\hgS d a b t po 3 (d+1)=evP (wtP po) x:=by
 refine⟨fun k hk=>?_,?_⟩
 ·rw [<-ngL_ev aW hx (p:=nmP po k) (D:=d) (cR_nl h k)];unfold hgS;exact sm_congr _ _ _ fun i _=>by rw [if_pos hk]
 rw [<-ngL_ev aW hx (p:=wtP po) (D:=d) (cR_wl h)];unfold hgS;exact sm_congr _ _ _ fun i _=>by rw [if_neg ae]
open H_c_Distinct in
theorem c_Lift2 (q:PoR) (R:Nat) (hR:R<=1000000) (h:okP R q):CallP aa 129 [poL q] (.agg [ratL (q.w*q.p.x),ratL (q.w*q.p.y),ratL (q.w*q.p.z),ratL q.w]):=by
 obtain⟨hp,hw,gC⟩:=h;refine fnP Tryz.func129 (ht:=(fun g=>LV.ren_pure g _ pu)) ?_;refine zg12 ?_;refine cp am2 (c_FVScale q.w q.p R J hw hp) ?_;refine zg19 ?_;exact retC [] rfl rfl rfl cs (at_all cs rfl) T33 (.pure pu)
namespace H_c_GIvl
theorem zSm {p q:Prop} (k:q) (e:p=q:=by simp only [sNF,ar,au,aq,dZ,aC,dg,mD,gY,aA,dfq,aN,aK,aO,reduceIte,if_true,if_false,aX,LV.kill,kills];exact rfl):p:=e.mpr k
end H_c_GIvl
open H_c_GIvl in
theorem c_GIvl (d:Nat) (a b t:Rat) (hd:d<=6) (hT:rl a<=100) (fU:rl b<=100) (ht:rl t<=1000) (h1:a<=t) (h2:t<=b):CallP aa 58 [.list 3 ((kn2 d a b).map ratL),nI64 d,ratL t] (.tup [nI64 d,iL 0]):=by
 have dZ:=kn2_len d a b;have aC:=kn2_lo d a b;have dg:=kn2_hi d a b;have mD:(kn2 d a b).getD d 0=a:=by rw [kn2_get _ _ _ _ J,if_pos J]
 have c1:¬cmpR t a<0:=fun e=>by have:=cmpR_ge.2 h1;omega
 have c2:¬cmpR t b > 0:=fun e=>by have:=cmpR_le.2 h2;omega
 have gY:((2*(d+1):Nat):Int).toNat-1=2*(d+1)-1:=J;refine fnP Tryz.func58 (ht:=(tame2 rfl rfl)) ?_;refine zg11 ?_;refine fG ?_;refine zg5 ?_;refine wl_regD 15 ah ?_;refine zg4 ?_
 try simp only [t1,dfq,aC]
 refine cp am2 (c_FRCmp t a J) ?_;refine zg2 ?_;refine op_if 19 rfl ?_ ?_<;>intro wP xU
 ·omega
 refine zg5 ?_
 try simp only [t1,dfq,dZ,dg]
 refine cp am2 (c_FRCmp t b J) ?_;refine zg4 ?_;refine wl_if rfl ?_ ?_<;>intro rY th
 ·omega
 refine zg6 ?_;refine st_pure rfl (.bin rfl rfl (subNN (c:=d+1) J J)) ?_;refine fG ?_;refine zg5 ?_;refine wl_unroll ?_;refine zg2 ?_;refine wl_regD 11 ah ?_;refine zg3 ?_;refine op_if 34 rfl ?_ ?_<;>intro vy oO
 ·refine zg5 ?_
  try simp only [t1,dfq,df,pQ,mD]
  refine cp am2 (c_FRCmp t a J) ?_;refine zg4 ?_;refine wl_condY (b:=_) rfl (by first | rfl | exact decide_eq_false c1) ?_;refine zg13 ?_;exact ret2 rfl (.pure rfl) rfl (.pure rfl)
 refine zg5 ?_
 try simp only [t1,dfq,df,pQ,mD]
 refine zg5 ?_;refine wl_condY (b:=_) rfl (by first | rfl | exact decide_eq_false c1) ?_;refine zg13 ?_;exact ret2 rfl (.pure rfl) rfl (.pure rfl)
namespace H_c_GValues
theorem zSm {p q:Prop} (k:q) (e:p=q:=by simp only [sNF,ar,au,aq,dJ,a9,aA,dfq,jh,bA,aQ,bc,aR,bh,aZ,aS,aN,aK,aO,reduceIte,if_true,if_false,aX,LV.kill,kills];exact rfl):p:=e.mpr k
end H_c_GValues
open H_c_GValues in
theorem c_GValues (d:Nat) (a b t:Rat) (hd:d<=6) (hT:rl a<=100) (fU:rl b<=100) (ht:rl t<=1000) (h1:a<=t) (h2:t<=b):CallP aa 128 [.list 3 ((kn2 d a b).map ratL),nI64 d,ratL t] (.tup [iL 0,.list 3 ((ngL d a b t).map ratL),iL 0]):=by
 have dZ:=kn2_len d a b;have aC:=kn2_lo d a b;have dg:=kn2_hi d a b;have mD:(kn2 d a b).getD d 0=a:=by rw [kn2_get _ _ _ _ J,if_pos J]
 have c1:¬cmpR t a<0:=fun e=>by have:=cmpR_ge.2 h1;omega
 have c2:¬cmpR t b > 0:=fun e=>by have:=cmpR_le.2 h2;omega
 have jh:((d:Int)-(d:Int))=0:=J;have lA:∀ x∈kn2 d a b,rl x<=1000:=fun x hx=>by
  rcases eF.1 hx with h | h
  ·rw [(jE.1 h).2];omega
  rw [(jE.1 h).2];omega
 have ga:=ngL_len d a b t;refine fnP Tryz.func128 (ht:=(tame3 rfl (pure_lst ratE _ _) rfl)) ?_;have dJ:True:=trivial;have a9:True:=trivial;refine zg13 ?_;refine cp am3 (c_GIvl d a b t hd hT fU ht h1 h2) ?_;refine zg14 ?_;refine wl_if rfl ?_ ?_<;>intro pX x5
 ·first | exact x5.elim | cases pX
 refine zg12 ?_;refine st_pure rfl (.bin rfl rfl (subNN (c:=0) J J)) ?_;refine zg4 ?_;refine wl_weak (Weak.own (t:=11) 39 3 rfl rfl) ?_;refine lp1 (fun(i:Nat) L=>(mS L [(5,⟨3,[ratL t],true⟩),(39,⟨3,((ngL d a b t).take i).map ratL,true⟩)] [(12,nI64 i),(11,.ref 39 3 0 i),(9,nI64 d),(5,.eptr 5 3 0 0),(1,nI64 d),(0,.list 3 ((kn2 d a b).map ratL))])) (fun i=>i<=d+1) (fun i=>d+1-i) 0 (az _) ?_;rintro i L1 hi;refine zg8 ?_;refine wl_if rfl ?_ ?_<;>intro o4 jP
 ·have hi2:i<d+1:=J;have dJ:=ng_snoc (D:=d) (a:=a) (b:=b) (t:=t) hi2;have a9:(((ngL d a b t).take i).map ratL).take i=((ngL d a b t).take i).map ratL:=aH (by rw [aA,bZ];omega);refine zg11 ?_;refine cp am5 (c_function (kn2 d a b) d t J J lA ht d J i J) ?_;refine zg1 ?_;refine st_store rfl (.appX (d:=39) (news:=[ratL (nfn (kn2 d a b) d t d i)]) rfl rfl rfl rfl al (.inl rfl) ae aV aV Z32a T32 rfl B32 (.inl ⟨38,0,_,rfl,by decide,rfl,rfl,by simp,rfl,by simp [pures,ratE.pure]⟩) al al ae) ?_;refine zg4 ?_;refine wl_regW (Weak.kill _ 38) ?_;refine zg1 ?_;refine bq ?_;exact cq
 obtain rfl:i=d+1:=J;have hE:(ngL d a b t).take (d+1)=(ngL d a b t):=aH J;refine zg9 ?_;refine st_pure rfl (.bin rfl rfl (subNN (c:=0) J J)) ?_;refine zg7 ?_;simp only [hE];exact ret3f [39] rfl rfl (.pure rfl) rfl (imm_refm ratE rfl rfl J) rfl (.pure rfl)
namespace H_c_GHom
theorem zSm {p q:Prop} (k:q) (e:p=q:=by simp only [sNF,ar,au,aq,aA,dfq,ga,dH,ratL_zero,ns,aN,aK,aO,reduceIte,if_true,if_false,aX,LV.kill,kills];exact rfl):p:=e.mpr k
end H_c_GHom
open H_c_GHom in
theorem c_GHom (d:Nat) (a b t:Rat) (po:List PoR) (R:Nat) (hR:R<=1000000) (h:cvR po d R) (hN:∀ k,∀ z∈nmP po k,rl z<=100000) (hW:∀ z∈wtP po,rl z<=100000) (hd:d<=6) (hT:rl a<=100) (fU:rl b<=100) (ht:rl t<=1000) (h1:a<=t) (h2:t<=b):CallP aa 60 [.agg [nI64 d,.list 3 ((kn2 d a b).map ratL),.list 12 (po.map poL)],ratL t] (.agg [ratL (hgS d a b t po 0 (d+1)),ratL (hgS d a b t po 1 (d+1)),ratL (hgS d a b t po 2 (d+1)),ratL (hgS d a b t po 3 (d+1))]):=by
 have ga:=ngL_len d a b t;have dH:∀ k,hgS d a b t po k 0=0:=fun k=>rfl;have hnr:=ng_rl (a:=a) (b:=b) (t:=t) hd J J ht;have hl:=h.hl;have bN:LV.pure (.agg [nI64 d,.list 3 ((kn2 d a b).map ratL),.list 12 (po.map poL)])=true:=qt;refine fnP Tryz.func60 (ht:=(fun g=>LV.ren_pure g _ pu)) ?_;have ns:True:=trivial;refine zg14 ?_;refine cp am3 (c_GValues d a b t hd hT fU ht h1 h2) ?_;refine zg21 ?_;refine lp1 (fun(i:Nat) L=>(mS L [(2,⟨3,[.agg [nI64 d,.list 3 ((kn2 d a b).map ratL),.list 12 (po.map poL)]],true⟩),(3,⟨3,[ratL t],true⟩),(4,⟨12,[.agg [ratL 0,ratL 0,ratL 0,ratL 0]],true⟩),(8,⟨12,[.agg [ratL (hgS d a b t po 0 i),ratL (hgS d a b t po 1 i),ratL (hgS d a b t po 2 i),ratL (hgS d a b t po 3 i)]],true⟩)] [(9,nI64 i),(8,.eptr 8 12 0 0),(6,.list 3 ((ngL d a b t).map ratL)),(5,iL 0),(4,.eptr 4 12 0 0),(2,.eptr 2 3 0 0)])) (fun i=>i<=d+1) (fun i=>d+1-i) 0 (az _) ?_;rintro i L1 hi;refine zg9 ?_;refine wl_if rfl ?_ ?_<;>intro vF n6
 ·have hi2:i<po.length:=J;have cF:=h.ok _ (getD_memP hi2);have hng:=getD_rl ae hnr i;have cm:=hg_bd (po:=po) (a:=a) (b:=b) (t:=t) hd hN hW hnr i J;have ba:=hg_st (a:=a) (b:=b) (t:=t) (po:=po) (d:=d) hi2;obtain⟨⟨ok1,ok2,ok3⟩,ok4,_⟩:=cF;have ns:((0:Int)+(i:Int)).toNat=i:=J;have cF:=h.ok _ (getD_memP hi2);have bb0:=cm 0;have bb1:=cm 1;have bb2:=cm 2;have bb3:=cm 3;have m0:=rl_mul ((ngL d a b t).getD i 0) ((po.getD i default).w*(po.getD i default).p.x);have m1:=rl_mul ((ngL d a b t).getD i 0) ((po.getD i default).w*(po.getD i default).p.y);have m2:=rl_mul ((ngL d a b t).getD i 0) ((po.getD i default).w*(po.getD i default).p.z);have m3:=rl_mul ((ngL d a b t).getD i 0) (po.getD i default).w;have n0:=rl_mul (po.getD i default).w (po.getD i default).p.x;have n1:=rl_mul (po.getD i default).w (po.getD i default).p.y;have n2:=rl_mul (po.getD i default).w (po.getD i default).p.z;have hA0:CallP aa 41 [ratL (hgS d a b t po 0 i),ratL ((ngL d a b t).getD i 0*((po.getD i default).w*(po.getD i default).p.x))] (ratL (hgS d a b t po 0 (i+1))):=by
   rw [<-ba.1];exact c_FRAdd _ _ J
  have pC:CallP aa 41 [ratL (hgS d a b t po 1 i),ratL ((ngL d a b t).getD i 0*((po.getD i default).w*(po.getD i default).p.y))] (ratL (hgS d a b t po 1 (i+1))):=by
   rw [<-ba.2.1];exact c_FRAdd _ _ J
  have lp:CallP aa 41 [ratL (hgS d a b t po 2 i),ratL ((ngL d a b t).getD i 0*((po.getD i default).w*(po.getD i default).p.z))] (ratL (hgS d a b t po 2 (i+1))):=by
   rw [<-ba.2.2.1];exact c_FRAdd _ _ J
  have vS:CallP aa 41 [ratL (hgS d a b t po 3 i),ratL ((ngL d a b t).getD i 0*(po.getD i default).w)] (ratL (hgS d a b t po 3 (i+1))):=by
   rw [<-ba.2.2.2];exact c_FRAdd _ _ J
  refine zg10 ?_;refine st_pure rfl mo ?_;refine zg2 ?_
  try simp only [t1,ns]
  refine cp am1 (c_Lift2 (po.getD i default) R hR cF) ?_;refine zg10 ?_;refine lK ?_;refine wl_regD 14 ah ?_;refine zg11 ?_
  try simp only [t1,dfq]
  refine cp am2 (c_FRMul ((ngL d a b t).getD i 0) ((po.getD i default).w*(po.getD i default).p.x) J) ?_;refine cp am2 (hA0) ?_;refine zg11 ?_;refine lK ?_;refine wl_regD 14 ah ?_;refine zg11 ?_
  try simp only [t1,dfq]
  refine cp am2 (c_FRMul ((ngL d a b t).getD i 0) ((po.getD i default).w*(po.getD i default).p.y) J) ?_;refine cp am2 (pC) ?_;refine zg11 ?_;refine lK ?_;refine wl_regD 14 ah ?_;refine zg11 ?_
  try simp only [t1,dfq]
  refine cp am2 (c_FRMul ((ngL d a b t).getD i 0) ((po.getD i default).w*(po.getD i default).p.z) J) ?_;refine cp am2 (lp) ?_;refine zg11 ?_;refine lK ?_;refine wl_regD 14 ah ?_;refine zg11 ?_
  try simp only [t1,dfq]
  refine cp am2 (c_FRMul ((ngL d a b t).getD i 0) (po.getD i default).w J) ?_;refine cp am2 (vS) ?_;refine zg11 ?_;refine qS ?_;refine zg6 ?_;refine wl_regW (Weak.kill _ 10) ?_;refine zg1 ?_;refine bq ?_;exact cq
 obtain rfl:i=d+1:=J;refine zg12 ?_;exact retC [] rfl rfl rfl cs (at_all cs rfl) T33 (.pure pu)
open H_c_Distinct in
theorem c_GEval (d:Nat) (a b t x:Rat) (po:List PoR) (R:Nat) (hR:R<=1000000) (h:cvR po d R) (hN:∀ k,∀ z∈nmP po k,rl z<=100000) (hW:∀ z∈wtP po,rl z<=100000) (aW:b-a≠0) (hx:(t-a)/(b-a)=x) (hT:rl a<=100) (fU:rl b<=100) (ht:rl t<=1000) (h1:a<=t) (h2:t<=b):CallP aa 19 [.agg [nI64 d,.list 3 ((kn2 d a b).map ratL),.list 12 (po.map poL)],ratL t] (.tup [ptL (evV po x),iL 0]):=by
 have hd:=h.h6;have hb:=hg_bd (po:=po) (a:=a) (b:=b) (t:=t) hd hN hW (ng_rl (a:=a) (b:=b) (t:=t) hd J J ht) (d+1) (an _);have he:=hg_ev aW hx h;have zT:CallP aa 59 [.agg [ratL (hgS d a b t po 0 (d+1)),ratL (hgS d a b t po 1 (d+1)),ratL (hgS d a b t po 2 (d+1)),ratL (hgS d a b t po 3 (d+1))]] (poL ⟨evV po x,evP (wtP po) x⟩):=by
  have:=c_FDrop _ _ _ _ 6000000 ae (hb 0) (hb 1) (hb 2) (hb 3);rw [he.1 0 ae,he.1 1 ae,he.1 2 ae,he.2] at this ⊢;exact this
 have afb:LV.pure (.agg [ratL (hgS d a b t po 0 (d+1)),ratL (hgS d a b t po 1 (d+1)),ratL (hgS d a b t po 2 (d+1)),ratL (hgS d a b t po 3 (d+1))])=true:=ny;have bN:LV.pure (.agg [nI64 d,.list 3 ((kn2 d a b).map ratL),.list 12 (po.map poL)])=true:=qt;refine fnP Tryz.func19 (ht:=(tame2 (ptE.pure _) rfl)) ?_;refine zg16 ?_;refine cp am3 (c_GIvl d a b t hd hT fU ht h1 h2) ?_;refine zg13 ?_;refine wl_if rfl ?_ ?_<;>intro jU kg
 ·first | exact kg.elim | cases jU
 refine zg6 ?_;refine cp am2 (c_GHom d a b t po R hR h hN hW hd hT fU ht h1 h2) ?_;refine cp am1 (zT) ?_;refine zg6 ?_;exact retCT [] rfl rfl rfl cs (at_all cs rfl) T54 (.pure pu) rfl (.pure rfl)
def kx (d:Nat) (T:Rat) (bb:List Rat) (E:Rat):List Rat:=ai (d+1) T++(bb++ai (d+1) E)
theorem kx_len (d:Nat) (T:Rat) (bb:List Rat) (E:Rat):(kx d T bb E).length=2*(d+1)+bb.length:=by simp [kx];omega
theorem kx_get (d:Nat) (T:Rat) (bb:List Rat) (E:Rat) (i:Nat) (h:i<2*(d+1)+bb.length):(kx d T bb E).getD i 0=if i<d+1 then T else if i<d+1+bb.length then bb.getD (i-(d+1)) 0 else E:=by
 unfold kx;split
 ·rw [gD1 al,getD_rep J]
 rw [gD2 al,mj];split
 ·rw [gD1 J]
 rw [gD2 J,getD_rep J]
theorem tm_no {l:List Rat} {t:Rat} (h:∀ x∈l,x≠t):∀ i,i<=l.length->tmN l t i=0
 | 0,_=>rfl
 | i+1,hi=>by rw [tmN,tm_no h i J,if_neg (h _ (getD_mem J))]
theorem kx_tm (d:Nat) (T:Rat) (bb:List Rat) (E t:Rat):tmN (kx d T bb E) t (kx d T bb E).length=(if T=t then d+1 else 0)+(tmN bb t bb.length+(if E=t then d+1 else 0)):=by
 have h:=tm_app (ai (d+1) T) (bb++ai (d+1) E) t (bb.length+(d+1));have h2:=tm_app bb (ai (d+1) E) t (d+1);rw [mj] at h;have e:(kx d T bb E).length=d+1+(bb.length+(d+1)):=by rw [kx_len];omega
 rw [e];show tmN (ai (d+1) T++_) t _=_;rw [h,h2,tm_const _ _ _ _ (an _),tm_const _ _ _ _ (an _)]
structure inOK (d:Nat) (T:Rat) (bb:List Rat) (E:Rat):Prop where
 btw:∀ x∈bb,T<x/\x<E
 srt:∀ i,i+1<bb.length->bb.getD i 0<=bb.getD (i+1) 0
 tms:∀ x∈bb,tmN bb x bb.length<=d
 len:bb.length<=2
 sz:∀ x∈bb,rl x<=64
theorem kx_ok {d:Nat} {T E:Rat} {bb:List Rat} (h1:1<=d) (h6:d<=6) (hT:rl T<=64) (hE:rl E<=64) (hTE:T<E) (h:inOK d T bb E):kOK (kx d T bb E) d:=by
 have hl:=kx_len d T bb E;have hn:=h.len;have ak:T≠E:=ay;have e0:(kx d T bb E).getD 0 0=T:=by rw [kx_get _ _ _ _ _ J,if_pos J]
 have e1:(kx d T bb E).getD ((kx d T bb E).length-1) 0=E:=by rw [hl,kx_get _ _ _ _ _ J,if_neg J,if_neg J]
 have hm:∀ x∈kx d T bb E,x=T\/x∈bb\/x=E:=fun x hx=>by
  rcases eF.1 hx with g | g
  ·exact .inl (jE.1 g).2
  rcases eF.1 g with g | g
  ·exact .inr (.inl g)
  exact .inr (.inr (jE.1 g).2)
 refine⟨h1,h6,J,J,fun i hi=>?_,by rw [e0,e1];exact ak,fun t ht he=>?_,fun t ht g0 g1=>?_,fun x hx=>?_⟩
 ·rw [kx_get _ _ _ _ _ J,kx_get _ _ _ _ _ J];by_cases c1:i+1<d+1
  ·rw [if_pos J,if_pos c1];exact dD
  rw [if_neg c1];by_cases c2:i<d+1
  ·rw [if_pos c2];split
   ·exact dp (h.btw _ (getD_mem J)).1
   exact dp hTE
  rw [if_neg c2];by_cases c3:i+1<d+1+bb.length
  ·rw [if_pos J,if_pos c3,show i+1-(d+1)=i-(d+1)+1 by omega];exact h.srt _ J
  rw [if_neg c3];split
  ·exact dp (h.btw _ (getD_mem J)).2
  exact dD
 ·rw [kx_tm];rw [e0,e1] at he;have z:∀ s,(s=T\/s=E)->tmN bb s bb.length=0:=fun s hs=>tm_no (fun x hx e=>by
   have:=h.btw x hx;rcases hs with rfl | rfl
   ·rw [e] at this;exact absurd this.1 ay
   rw [e] at this;exact absurd this.2 ay) _ (an _)
  rw [z t he];rcases he with rfl | rfl
  ·rw [if_pos rfl,if_neg (fun e=>ak e.symm)]
  rw [if_neg ak,if_pos rfl];omega
 ·rw [e0] at g0;rw [e1] at g1;rw [kx_tm,if_neg (fun e=>g0 e.symm),if_neg (fun e=>g1 e.symm)];rcases hm t ht with e | e | e
  ·exact absurd e g0
  ·have:=h.tms t e;omega
  exact absurd e g1
 rcases hm x hx with rfl | g | rfl
 ·exact hT
 ·exact h.sz x g
 exact hE
def ksF (l:List Int) (j:Nat):Rat:=((1+nxV l j 3:Int):Rat)/((1+nxV l (nxK l j) 2:Int):Rat)
def ksJ (l:List Int) (d:Nat) (k:List Rat) (j:Nat):Nat:=if k.length=d+1 then j else nxK l j
def ksB (l:List Int) (d:Nat) (k:List Rat) (t:Rat) (j:Nat):Prop:=k.length=d+1\/0<nxV l j 3\/t=k.getD (k.length-d) 0
instance (l:List Int) (d:Nat) (k:List Rat) (t:Rat) (j:Nat):Decidable (ksB l d k t j):=by unfold ksB;infer_instance
def kiV (l:List Int) (d:Nat):Nat->List Rat->Rat->Nat->List Rat × Rat × Nat
 | 0,k,t,j=>(k,t,j)
 | n+1,k,t,j=>if ksB l d k t j then kiV l d n (k++[t+ksF l (ksJ l d k j)]) (t+ksF l (ksJ l d k j)) (nxK l (nxK l (ksJ l d k j))) else kiV l d n (k++[t]) t (ksJ l d k j)
theorem ksF_in (l:List Int) (j:Nat):0<ksF l j/\rl (ksF l j)<=2:=by
 have h1:=nxV_lt (l:=l) (k:=j) (n:=3) ae;have h2:=nxV_lt (l:=l) (k:=nxK l j) (n:=2) ae;have r1:rl ((1+nxV l j 3:Int):Rat)<=1:=rl_int J;have r2:rl ((1+nxV l (nxK l j) 2:Int):Rat)<=1:=rl_int J;have r3:=rl_div ((1+nxV l j 3:Int):Rat) ((1+nxV l (nxK l j) 2:Int):Rat);refine⟨?_,by unfold ksF;omega⟩;unfold ksF;rw [cj];exact oL (ou.2 J) (vD.2 (ou.2 J))
theorem ki_in (l:List Int) {d n:Nat} {T:Rat} (hd:1<=d) (hn:n<=2) (hT:rl T<=1) (j:Nat) :
  ∃ bb t j',kiV l d n (ai (d+1) T) T j=(ai (d+1) T++bb,t,j')/\bb.length=n/\inOK d T bb (t+1)/\rl t<=7/\T<t+1:=by
 have bG:rl 1=1:=rfl
 match n,hn with
 | 0,_ =>
  refine⟨[],T,j,by rw [aS];rfl,rfl,⟨fun x hx=>(by cases hx),fun i hi=>(by simp at hi),fun x hx=>(by cases hx),by decide,fun x hx=>(by cases hx)⟩,J,by grind⟩
 | 1,_ =>
  have hF:=ksF_in l (ksJ l d (ai (d+1) T) j);have hb:ksB l d (ai (d+1) T) T j:=.inl aj;refine⟨[T+ksF l (ksJ l d (ai (d+1) T) j)],T+ksF l (ksJ l d (ai (d+1) T) j),nxK l (nxK l (ksJ l d (ai (d+1) T) j)),by rw [kiV,if_pos hb,kiV],rfl,?_,?_,?_⟩
  ·generalize ksF l _=f at hF;have:=rl_add T f;refine⟨fun x hx=>?_,fun i hi=>(by simp at hi),fun x hx=>?_,by simp,fun x hx=>?_⟩
   ·rw [bD.1 hx];constructor<;>grind
   ·show tmN _ x 1<=d;have:=tmN_le [T+f] x 1;omega
   rw [bD.1 hx];omega
  ·have:=rl_add T (ksF l (ksJ l d (ai (d+1) T) j));omega
  grind
 | 2,_ =>
  have hb:ksB l d (ai (d+1) T) T j:=.inl aj;have hF:=ksF_in l (ksJ l d (ai (d+1) T) j);rw [kiV,if_pos hb];generalize nxK l (nxK l (ksJ l d (ai (d+1) T) j))=j1;generalize ksF l (ksJ l d (ai (d+1) T) j)=f at *
  have a1:=rl_add T f;rw [kiV];by_cases nN:ksB l d (ai (d+1) T++[T+f]) (T+f) j1
  ·rw [if_pos nN,kiV];have hG:=ksF_in l (ksJ l d (ai (d+1) T++[T+f]) j1);generalize nxK l (nxK l (ksJ l d (ai (d+1) T++[T+f]) j1))=j2;generalize ksF l (ksJ l d (ai (d+1) T++[T+f]) j1)=g at *
   have a2:=rl_add (T+f) g;refine⟨[T+f,T+f+g],T+f+g,j2,by rw [nR];rfl,rfl,⟨fun x hx=>?_,fun i hi=>?_,fun x hx=>?_,by simp,fun x hx=>?_⟩,J,by grind⟩
   ·simp only [bp,cN,or_false] at hx;rcases hx with rfl | rfl<;>constructor<;>grind
   ·obtain rfl:i=0:=by simp at hi;omega
    show T+f<=T+f+g;grind
   ·show tmN _ x 2<=d;have ak:T+f≠T+f+g:=ay;have e:tmN [T+f,T+f+g] x 2=0+(if T+f=x then 1 else 0)+(if T+f+g=x then 1 else 0):=rfl;rw [e];by_cases c:T+f=x
    ·rw [if_pos c,if_neg (fun e=>ak (c.trans e.symm))];omega
    rw [if_neg c];split<;>omega
   simp only [bp,cN,or_false] at hx;rcases hx with rfl | rfl<;>omega
  rw [if_neg nN,kiV];have o7:2<=d:=by
   rcases cu d 2 with c | c
   ·exfalso;obtain rfl:d=1:=J;refine nN (.inr (.inr ?_));rw [show (ai (1+1) T++[T+f]).length-1=2 by simp,gD2 aj];simp
   exact c
  refine⟨[T+f,T+f],T+f,ksJ l d (ai (d+1) T++[T+f]) j1,by rw [nR];rfl,rfl,⟨fun x hx=>?_,fun i hi=>?_,fun x hx=>?_,by simp,fun x hx=>?_⟩,J,by grind⟩
  ·simp only [bp,cN,or_false,or_self] at hx;subst hx;constructor<;>grind
  ·obtain rfl:i=0:=by simp at hi;omega
   exact dD
  ·show tmN _ x 2<=d;have:=tmN_le [T+f,T+f] x 2;omega
  simp only [bp,cN,or_false,or_self] at hx;subst hx;omega
def kiN (l:List Int) (k n:Nat):Nat:=(nxV l (nxK l k) ((n+1:Nat):Int)).toNat
def kiR (l:List Int) (d k n:Nat):List Rat × Rat × Nat:=kiV l d (kiN l k n) (ai (d+1) (dtV l k)) (dtV l k) (nxK l (nxK l k))
def knX (l:List Int) (d k n:Nat):List Rat:=(kiR l d k n).1++ai (d+1) ((kiR l d k n).2.1+1)
theorem kiN_in (l:List Int) (k n:Nat):(kiN l k n:Int)=nxV l (nxK l k) ((n+1:Nat):Int)/\kiN l k n<=n:=by
 have h:=nxV_lt (l:=l) (k:=nxK l k) (n:=((n+1:Nat):Int)) J;unfold kiN;omega
structure kiI (l:List Int) (d N c:Nat) (K:List Rat) (t:Rat) (j:Nat) (R:List Rat × Rat × Nat):Prop where
 hj:j<=500
 hl:K.length+c=d+1+N
 ht:rl t+3*c<=1+3*N
 hK:∀ x∈K,rl x<=7
 hR:kiV l d c K t j=R
theorem mem_snoc {K:List Rat} {t:Rat} {R:Nat} (h:∀ x∈K,rl x<=R) (ht:rl t<=R):∀ x∈K++[t],rl x<=R:=fun x hx=>by
 rcases eF.1 hx with h1 | h1
 ·exact h x h1
 rw [bD.1 h1];exact ht
theorem ksJ_le {l:List Int} {d j:Nat} {K:List Rat} (hl:l.length<=500) (hj:j<=500):ksJ l d K j<=500:=by
 unfold ksJ;split
 ·exact hj
 exact nxK_le hl hj
theorem kiI.no {l:List Int} {d N c:Nat} {K:List Rat} {t:Rat} {j:Nat} {R:List Rat × Rat × Nat} (hl:l.length<=500) (hN:N<=2) (h:kiI l d N (c+1) K t j R) (hb:¬ksB l d K t j) :
  kiI l d N c (K++[t]) t (ksJ l d K j) R:=by
 have h2:=h.ht;have h3:=h.hl;have h4:=h.hR;rw [kiV,if_neg hb] at h4;exact⟨ksJ_le hl h.hj,by simp;omega,J,mem_snoc h.hK J,h4⟩
theorem c_DKnotsI (l:List Int) (k:Nat) (hl:l.length<=500) (d:Nat) (dV:1<=d) (hd:d<=6) (n:Nat) (hn:n<=0) (hk:k<=500):CallOKM aa 66 ⟨2,[diceL l k],true⟩ [.eptr 0 2 0 0,nI64 d,nI64 n] (.list 3 ((knX l d k n).map ratL)) ⟨2,[diceL l (kiR l d k n).2.2],true⟩:=by
 obtain rfl:n=0:=J;have h:=c_DKnots0 l k hl d hd hk;have e0:kiN l k 0=0:=Nat.le_zero.1 (kiN_in l k 0).2;have e1:kiR l d k 0=(ai (d+1) (dtV l k),dtV l k,nxK l (nxK l k)):=by unfold kiR;rw [e0];rfl
 have e2:knX l d k 0=kn0 d (dtV l k):=by unfold knX;rw [e1];rfl
 rw [e1,e2];exact h
def prL (r:List PoR):LV:=.list 12 (r.map poL)
theorem prE:EncOK prL 1 false:=⟨fun _=>rfl,fun _=>rfl,fun p=>pure_lst poE 12 p⟩
theorem prZ:ZeroOK aa 59 (prL []):=⟨Tryz.t59,_,by kernel_rfl,rfl,rfl,fun _ _ _=>repNil0 12⟩
theorem prL_kill (r:List PoR) (b:Nat):(prL r).kill b=prL r:=LV.kill_pure b _ (prE.pure r)
instance:EC aa 59 prL 1 false []:=⟨prE,prZ,T59⟩
theorem rep_srf (d sz:Nat) (x y z u:LV) (Z:Nat->Prop) (μ:Nat->Option Nat) (w:World) (cs:List Value) (h:Rep Z μ w (.agg [x,y,z,u,.v (.slice none 0 0)]) cs):Rep Z μ w (.agg [x,y,z,u,.ref d sz 0 0]) cs:=by
 simp only [Rep,RepFs] at h ⊢;obtain⟨c1,c2,e1,e2,e3,c3,c4,e4,e5,e6,c5,c6,e7,e8,e9,c7,c8,g1,g2,g3,c9,c10,g4,g5,g6,g7⟩:=h;exact⟨c1,c2,e1,e2,e3,c3,c4,e4,e5,e6,c5,c6,e7,e8,e9,c7,c8,g1,g2,g3,c9,c10,g4,g5,.inl ⟨g6.1,trivial⟩,g7⟩
def gpV (w:Bool) (i j:Nat) (q:PoR):PoR :=
 bif w then q else⟨⟨((2*(i:Int):Int):Rat)+q.p.x*(((1:Int):Rat)/((8:Int):Rat)),((2*(j:Int):Int):Rat)+q.p.y*(((1:Int):Rat)/((8:Int):Rat)),q.p.z*(((1:Int):Rat)/((4:Int):Rat))⟩,q.w⟩
theorem gp_ok {w:Bool} {i j:Nat} {q:PoR} (h:okP 1 q) (hi:i<=100) (hj:j<=100):okP 4 (gpV w i j q):=by
 obtain⟨⟨h1,h2,h3⟩,h4,h5⟩:=h
 cases w with
 | true=>exact⟨⟨by show rl q.p.x<=4;omega,by show rl q.p.y<=4;omega,by show rl q.p.z<=4;omega⟩,by show rl q.w<=4;omega,h5⟩
 | false =>
  have e8:rl (((1:Int):Rat)/((8:Int):Rat))=1:=ah;have e4:rl (((1:Int):Rat)/((4:Int):Rat))=1:=ah;have a1:rl ((2*(i:Int):Int):Rat)<=1:=rl_int J;have a2:rl ((2*(j:Int):Int):Rat)<=1:=rl_int J;have m1:=rl_mul q.p.x (((1:Int):Rat)/((8:Int):Rat));have m2:=rl_mul q.p.y (((1:Int):Rat)/((8:Int):Rat));have m3:=rl_mul q.p.z (((1:Int):Rat)/((4:Int):Rat));have s1:=rl_add ((2*(i:Int):Int):Rat) (q.p.x*(((1:Int):Rat)/((8:Int):Rat)));have s2:=rl_add ((2*(j:Int):Int):Rat) (q.p.y*(((1:Int):Rat)/((8:Int):Rat)));exact⟨⟨by show rl (_+_)<=4;omega,by show rl (_+_)<=4;omega,by show rl (_*_)<=4;omega⟩,by show rl q.w<=4;omega,h5⟩
def srV (l:List Int) (w:Bool) (i:Nat):Nat->Nat->Nat->List PoR
 | _,0,_=>[]
 | j,c+1,k=>gpV w i j (dpV l k) :: srV l w i (j+1) c (dpK l k)
theorem srV_len (l:List Int) (w:Bool) (i:Nat):∀ c j k,(srV l w i j c k).length=c
 | 0,_,_=>rfl
 | c+1,j,k=>by simp [srV,srV_len l w i c]
theorem srV_ok (l:List Int) (w:Bool) {i:Nat} (hi:i<=100):∀ c j k,j+c<=100->∀ q∈srV l w i j c k,okP 4 q
 | 0,_,_,_,q,h=>by simp [srV] at h
 | c+1,j,k,hj,q,h=>by
  simp only [srV,bp] at h;rcases h with rfl | h
  ·exact gp_ok ⟨d3_rl l k,dw_rl _ _,dw_pos _ _⟩ hi J
  exact srV_ok l w hi c (j+1) _ J q h
def ssV (l:List Int) (w:Bool) (b:Nat):Nat->Nat->Nat->List (List PoR)
 | _,0,_=>[]
 | i,c+1,k=>srV l w i 0 b k :: ssV l w b (i+1) c (dqK l k b)
def ssK (l:List Int) (b:Nat):Nat->Nat->Nat
 | 0,k=>k
 | c+1,k=>ssK l b c (dqK l k b)
theorem ssV_len (l:List Int) (w:Bool) (b:Nat):∀ c i k,(ssV l w b i c k).length=c
 | 0,_,_=>rfl
 | c+1,i,k=>by simp [ssV,ssV_len l w b c]
theorem ssV_ok (l:List Int) (w:Bool) {b:Nat} (hb:b<=100):∀ c i k,i+c<=100->∀ r∈ssV l w b i c k,r.length=b/\∀ q∈r,okP 4 q
 | 0,_,_,_,r,h=>by simp [ssV] at h
 | c+1,i,k,hi,r,h=>by
  simp only [ssV,bp] at h;rcases h with rfl | h
  ·exact⟨srV_len ..,srV_ok l w J b 0 k J⟩
  exact ssV_ok l w hb c (i+1) _ J r h
theorem ssK_le {l:List Int} (hl:l.length<=500) (b:Nat):∀ c k,k<=500->ssK l b c k<=500
 | 0,k,h=>h
 | c+1,k,h=>ssK_le hl b c _ (dqK_le hl _ _ h)
theorem knX_in (l:List Int) {k d m:Nat} (hl:l.length<=500) (hk:k<=500) (dV:1<=d) (hd:d<=6) (hm:m<=2):kOK (knX l d k m) d/\(knX l d k m).length=2*(d+1)+kiN l k m/\(kiR l d k m).2.2<=500:=by
 obtain⟨hN1,hN2⟩:=kiN_in l k m;obtain⟨hT,fU⟩:=dt_rl l k;have bG:rl 1=1:=rfl;obtain⟨bb,t,j',e,tZ,nJ,hrt,aG⟩:=ki_in l (d:=d) (n:=kiN l k m) (T:=dtV l k) dV J hT (nxK l (nxK l k));have iB:=rl_add t 1;have eK:knX l d k m=kx d (dtV l k) bb (t+1):=by
  unfold knX kiR kx;rw [e,nR]
 refine⟨by rw [eK];exact kx_ok dV hd J J aG nJ,?_,?_⟩
 ·rw [eK,kx_len,tZ]
 have k1:=nxK_le (l:=l) hl hk;have k2:=nxK_le (l:=l) hl k1;have gen:∀ (c:Nat) (K:List Rat) (t:Rat) (j:Nat),j<=500->(kiV l d c K t j).2.2<=500:=by
  intro c
  induction c with
  | zero=>intro K t j hj;exact hj
  | succ c ih =>
   intro K t j hj;rw [kiV];split
   ·exact ih _ _ _ (nxK_le hl (nxK_le hl (ksJ_le hl hj)))
   exact ih _ _ _ (ksJ_le hl hj)
 exact gen _ _ _ _ k2
def sU (l:List Int) (k n:Nat):Nat:=cD l k n
def sV (l:List Int) (k n:Nat):Nat:=cD l (nxK l k) n
def sJ2 (l:List Int) (k:Nat):Nat:=nxK l (nxK l k)
def sJ3 (l:List Int) (k n m:Nat):Nat:=(kiR l (sU l k n) (sJ2 l k) m).2.2
def sJ4 (l:List Int) (k n m:Nat):Nat:=(kiR l (sV l k n) (sJ3 l k n m) m).2.2
def sKU (l:List Int) (k n m:Nat):List Rat:=knX l (sU l k n) (sJ2 l k) m
def sKV (l:List Int) (k n m:Nat):List Rat:=knX l (sV l k n) (sJ3 l k n m) m
def sWd (l:List Int) (k n m:Nat):Bool:=decide (nxV l (sJ4 l k n m) 3=2)
def sA (l:List Int) (k n m:Nat):Nat:=sU l k n+1+kiN l (sJ2 l k) m
def sB (l:List Int) (k n m:Nat):Nat:=sV l k n+1+kiN l (sJ3 l k n m) m
def sR (l:List Int) (k n m:Nat):List (List PoR):=ssV l (sWd l k n m) (sB l k n m) 0 (sA l k n m) (nxK l (sJ4 l k n m))
def sE (l:List Int) (k n m:Nat):Nat:=ssK l (sB l k n m) (sA l k n m) (nxK l (sJ4 l k n m))
structure sIn (l:List Int) (k n m:Nat):Prop where
 u1:1<=sU l k n
 un:sU l k n<=n
 ue:(sU l k n:Int)=1+nxV l k (n:Int)
 v1:1<=sV l k n
 vn:sV l k n<=n
 ve:(sV l k n:Int)=1+nxV l (nxK l k) (n:Int)
 j1:nxK l k<=500
 j2:sJ2 l k<=500
 j3:sJ3 l k n m<=500
 j4:sJ4 l k n m<=500
 j5:nxK l (sJ4 l k n m)<=500
 ku:kOK (sKU l k n m) (sU l k n)
 kv:kOK (sKV l k n m) (sV l k n)
 lu:(sKU l k n m).length=sU l k n+1+sA l k n m
 lv:(sKV l k n m).length=sV l k n+1+sB l k n m
 a8:sA l k n m<=9
 b8:sB l k n m<=9
 rl:(sR l k n m).length=sA l k n m
 rk:∀ r∈sR l k n m,r.length=sB l k n m/\∀ q∈r,okP 4 q
theorem s_in (l:List Int) {k n m:Nat} (hl:l.length<=500) (hk:k<=500) (hn:0<n) (yi:n<=6) (hm:m<=2):sIn l k n m:=by
 obtain⟨u1,un,ue⟩:=cD_in l k hn;obtain⟨v1,vn,ve⟩:=cD_in l (nxK l k) hn;have j1:=nxK_le (l:=l) hl hk;have j2:sJ2 l k<=500:=nxK_le (l:=l) hl j1;obtain⟨ku,lu,j3⟩:=knX_in l (d:=sU l k n) (m:=m) hl j2 u1 (aw un yi) hm;have j3:sJ3 l k n m<=500:=j3;obtain⟨kv,lv,j4⟩:=knX_in l (k:=sJ3 l k n m) (d:=sV l k n) (m:=m) hl j3 v1 (aw vn yi) hm;have n1:=(kiN_in l (sJ2 l k) m).2;have n2:=(kiN_in l (sJ3 l k n m) m).2;have ha:sA l k n m<=9:=by unfold sA;have:sU l k n<=n:=un;omega
 have hb:sB l k n m<=9:=by unfold sB;have:sV l k n<=n:=vn;omega
 exact⟨u1,un,ue,v1,vn,ve,j1,j2,j3,j4,nxK_le hl j4,ku,kv,by unfold sKU sA;omega,by unfold sKV sB;omega,ha,hb,ssV_len ..,ssV_ok l _ J _ _ _ J⟩
theorem dp_ok (l:List Int) (q:Nat):okP 1 (dpV l q):=⟨d3_rl l q,dw_rl _ _,dw_pos _ _⟩
theorem gp_sz {x y z:Rat} {i j:Nat} (h1:rl x<=1) (h2:rl y<=1) (h3:rl z<=1) (hi:i<=100) (hj:j<=100) :
  rl (((1:Int):Rat)/((8:Int):Rat))=1/\rl (((1:Int):Rat)/((4:Int):Rat))=1/\rl ((2*(i:Int):Int):Rat)+rl (x*(((1:Int):Rat)/((8:Int):Rat)))<=4/\rl ((2*(j:Int):Int):Rat)+rl (y*(((1:Int):Rat)/((8:Int):Rat)))<=4/\rl (z*(((1:Int):Rat)/((4:Int):Rat)))<=4:=by
 have e8:rl (((1:Int):Rat)/((8:Int):Rat))=1:=ah;have e4:rl (((1:Int):Rat)/((4:Int):Rat))=1:=ah;have a1:rl ((2*(i:Int):Int):Rat)<=1:=rl_int J;have a2:rl ((2*(j:Int):Int):Rat)<=1:=rl_int J;have m1:=rl_mul x (((1:Int):Rat)/((8:Int):Rat));have m2:=rl_mul y (((1:Int):Rat)/((8:Int):Rat));have m3:=rl_mul z (((1:Int):Rat)/((4:Int):Rat));exact⟨e8,e4,J,J,J⟩
namespace H_c_DSurface
theorem zSm {p q:Prop} (k:q) (e:p=q:=by simp only [sNF,ar,au,aq,l1,a9,egp,xR,frz_nil,bO,zd,prL_kill,kills_map prE,aA,bA,aQ,bc,aA,aN,aK,aO,reduceIte,if_true,if_false,ptL_kill,poL_kill,kills_map poE,kills_map ratE,ratL_kill,spL_kill,LV.kill,kills,dice_kill];exact rfl):p:=e.mpr k
end H_c_DSurface
open H_c_DSurface in
theorem c_DSurface (l:List Int) (k:Nat) (hl:l.length<=500) (n:Nat) (hn:0<n) (yi:n<=6) (m:Nat) (hm:m<=0) (hk:k<=500):CallOKM aa 25 ⟨2,[diceL l k],true⟩ [.eptr 0 2 0 0,nI64 n,nI64 m] (.agg [nI64 (sU l k n),nI64 (sV l k n),.list 3 ((sKU l k n m).map ratL),.list 3 ((sKV l k n m).map ratL),.list 1 ((sR l k n m).map prL)]) ⟨2,[diceL l (sE l k n m)],true⟩:=by
 have hS:=s_in l hl hk hn yi (show m<=2 by omega);have jx:=hS.u1;have ud:=hS.un;have kI:=hS.v1;have hvn:=hS.vn;have hj1:=hS.j1;have bo:=hS.j2;have tp:=hS.j3;have hj4:=hS.j4;have hj5:=hS.j5;have bO:=hS.lu;have zd:=hS.lv;have ha8:=hS.a8;have hb8:=hS.b8;have hb:=nxV_lt (l:=l) (k:=k) (n:=(n:Int)) J;have mT:=nxV_lt (l:=l) (k:=nxK l k) (n:=(n:Int)) J;have hA:binI .add .i64 1 (nxV l k (n:Int))=some (.int .i64 (((sU l k n):Nat):Int)):=by rw [hS.ue];exact add64 J J
 have lp:binI .add .i64 1 (nxV l (nxK l k) (n:Int))=some (.int .i64 (((sV l k n):Nat):Int)):=by rw [hS.ve];exact add64 J J
 have iE:=pure_lst ratE 3 (sKU l k n m);have fg:=pure_lst ratE 3 (sKV l k n m);refine fnM Tryz.func25 ?_;have a9:True:=trivial;have egp:True:=trivial;have xR:True:=trivial;refine zg9 ?_;refine st_callMp 0 rfl rfl rfl (dice_pure l _) (.cons .ptr (.cons (.imm (.pure rfl)) .nil)) .ptr (c_Next l k n J J J J) rfl (dice_pure l _) rfl ?_;refine st_pure rfl (.bin rfl rfl (hA)) ?_;refine zg2 ?_;refine st_callMp 0 rfl rfl rfl (dice_pure l _) (.cons .ptr (.cons (.imm (.pure rfl)) .nil)) .ptr (c_Next l (nxK l k) n J J J J) rfl (dice_pure l _) rfl ?_;refine st_pure rfl (.bin rfl rfl (lp)) ?_;refine zg6 ?_;refine wl_cut (fun L=>∃  (L1:St),(True)/\L=(mS L1 [(0,⟨2,[diceL l (sJ4 l k n m)],true⟩),(6,⟨5,[.agg [.v (.int .i64 0),.v (.int .i64 0),.v (.slice none 0 0),.v (.slice none 0 0),.v (.slice none 0 0)]],true⟩),(7,⟨5,[.agg [nI64 (sU l k n),nI64 (sV l k n),.list 3 ((sKU l k n m).map ratL),.list 3 ((sKV l k n m).map ratL),.v (.slice none 0 0)]],true⟩)] [(7,.eptr 7 5 0 0),(6,.eptr 6 5 0 0),(0,.eptr 0 2 0 0)])) ?_ ?_
 ·refine wl_regA ?_;refine any_hoist 0 rfl rfl ah (.move _) ?_;refine any_hoist 1 rfl rfl ah faA ?_;refine any_hoist 3 rfl rfl ah (.move _) ?_;refine any_hoist 5 rfl rfl ah (.move _) ?_;refine any_hoist 6 rfl rfl ah faA ?_;refine any_hoist 8 rfl rfl ah (.move _) ?_
  repeat' first
   | (refine any_0 ah ?_;refine zg1 ?_;exact⟨_,trivial,aL⟩)
   | refine any_hoist 10 rfl rfl ah faA ?_
   | refine any_2 2 7 _ _ ah rfl rfl ?_ ?_
   | refine any_2 4 7 _ _ ah rfl rfl ?_ ?_
   | refine any_1 7 _ ah rfl ?_
   | refine any_1 9 _ ah rfl ?_
   | refine any_1 11 _ ah rfl ?_
   | refine any_1 12 _ ah rfl ?_
   | refine any_1 13 _ ah rfl ?_
   | refine any_1 4 _ ah rfl ?_
   | refine any_1 2 _ ah rfl ?_
   | (refine st_callMp 0 rfl rfl rfl (dice_pure l _) (.cons .ptr (.cons (.imm (.pure rfl)) (.cons (.imm (.pure rfl)) .nil))) .ptr (c_DKnotsI l (sJ2 l k) J (sU l k n) J J m hm J) rfl (dice_pure l _) (pure_lst ratE 3 _) ?_;refine st_nil ?_)
   | (refine st_callMp 0 rfl rfl rfl (dice_pure l _) (.cons .ptr (.cons (.imm (.pure rfl)) (.cons (.imm (.pure rfl)) .nil))) .ptr (c_DKnotsI l (sJ3 l k n m) J (sV l k n) J J m hm J) rfl (dice_pure l _) (pure_lst ratE 3 _) ?_;refine st_nil ?_)
   | (refine zg1 ?_;refine st_nil ?_)
   | fail
 rintro _ ⟨LR2,-,rfl⟩;refine zg4 ?_;refine st_callMp 0 rfl rfl rfl (dice_pure l _) (.cons .ptr (.cons (.imm (.pure rfl)) .nil)) .ptr (c_Next l (sJ4 l k n m) 3 J J J J) rfl (dice_pure l _) rfl ?_;refine zg11 ?_;refine wl_weak ((Weak.cell 7 rfl (fun Z μ w cs h=>rep_srf 100 1 _ _ _ _ Z μ w cs h)).trans (Weak.newB _ 100 1 rfl)) ?_;refine lp4 (fun(i p c:Nat) (o:List (List PoR)) L=>(mS L [(0,⟨2,[diceL l p],true⟩),(6,⟨5,[.agg [.v (.int .i64 0),.v (.int .i64 0),.v (.slice none 0 0),.v (.slice none 0 0),.v (.slice none 0 0)]],true⟩),(7,⟨5,[.agg [nI64 (sU l k n),nI64 (sV l k n),.list 3 ((sKU l k n m).map ratL),.list 3 ((sKV l k n m).map ratL),.ref 100 1 0 i]],true⟩),(100,⟨1,o.map prL,true⟩)] [(9,nI64 i),(8,bL (sWd l k n m)),(7,.eptr 7 5 0 0),(6,.eptr 6 5 0 0),(0,.eptr 0 2 0 0)])) (fun i p c o=>p<=500/\o.length=i/\i+c=(sA l k n m)/\o++ssV l (sWd l k n m) (sB l k n m) i c p=sR l k n m/\ssK l (sB l k n m) c p=sE l k n m) (fun i p c o=>c) 0 (nxK l (sJ4 l k n m)) (sA l k n m) ([]) ⟨hj5,rfl,by simp,rfl,rfl⟩ ?_;rintro i p c o L1 ⟨hp5,aP,hic,hR,hE⟩;refine zg9 ?_;refine st_pure rfl kA ?_;refine st_pure rfl kA ?_;refine zg3 ?_;refine wl_if rfl ?_ ?_<;>intro agq h45
 ·have a9:(o.map prL).take i=o.map prL:=aH al;obtain⟨e,rfl⟩:∃ e,c=e+1:=⟨c-1,J⟩;refine zg16 ?_;refine wl_weak (Weak.own (t:=10) 95 12 rfl rfl) ?_;refine lp3 (fun(d q:Nat) (r:List PoR) L=>(mS L [(0,⟨2,[diceL l q],true⟩),(6,⟨5,[.agg [.v (.int .i64 0),.v (.int .i64 0),.v (.slice none 0 0),.v (.slice none 0 0),.v (.slice none 0 0)]],true⟩),(7,⟨5,[.agg [nI64 (sU l k n),nI64 (sV l k n),.list 3 ((sKU l k n m).map ratL),.list 3 ((sKV l k n m).map ratL),.ref 100 1 0 i]],true⟩),(100,⟨1,o.map prL,true⟩),(95,⟨12,r.map poL,true⟩)] [(11,nI64 r.length),(10,.ref 95 12 0 r.length),(9,nI64 i),(8,bL (sWd l k n m)),(7,.eptr 7 5 0 0),(6,.eptr 6 5 0 0),(0,.eptr 0 2 0 0)])) (fun d q r=>q<=500/\r.length+d=(sB l k n m)/\r++srV l (sWd l k n m) i r.length d q=srV l (sWd l k n m) i 0 (sB l k n m) p/\dqK l q d=dqK l p (sB l k n m)) (fun d q r=>d) (sB l k n m) p ([]) ⟨hp5,by simp,rfl,rfl⟩ ?_;rintro d q r L2 ⟨hq5,eG,hV,hK⟩;refine zg9 ?_;refine st_pure rfl kA ?_;refine st_pure rfl kA ?_;refine zg3 ?_;refine wl_if rfl ?_ ?_<;>intro aeD h56
  ·obtain⟨f,rfl⟩:∃ f,d=f+1:=⟨d-1,J⟩;obtain⟨⟨mh,lR,zu⟩,sX,_⟩:=dp_ok l q;obtain⟨jA,kh,vB,hz4,qJ⟩:=gp_sz (i:=i) (j:=r.length) mh lR zu J J
   skip
   refine zg7 ?_;refine st_callMp 0 rfl rfl rfl (dice_pure l _) (.cons .ptr (.cons (.imm (.pure rfl)) .nil)) .ptr (c_Dpole l q J J) rfl (dice_pure l _) (poE.pure _) ?_;refine zg11 ?_;refine wl_if rfl ?_ ?_<;>intro abr tU
   ·have fC:(sWd l k n m)=false:=by simpa using tU
    have egp:LV.agg [.agg [ratL (((2*(i:Int):Int):Rat)+(dpV l q).p.x*(((1:Int):Rat)/((8:Int):Rat))),ratL (((2*(r.length:Int):Int):Rat)+(dpV l q).p.y*(((1:Int):Rat)/((8:Int):Rat))),ratL ((dpV l q).p.z*(((1:Int):Rat)/((4:Int):Rat)))],ratL (dpV l q).w]=poL (gpV (sWd l k n m) i r.length (dpV l q)):=by unfold gpV;rw [fC];rfl
    refine zg1 ?_;refine wl_regD 11 ah ?_;refine zg1 ?_;refine st_pure rfl (.bin rfl rfl (mul64 J J)) ?_;refine cp am1 (c_FInt (2*(i:Int)) J J) ?_;refine zg3 ?_;refine cp am2 (c_FFrac 1 8 ae ae ae ae ae) ?_;refine cp am2 (c_FRMul (dpV l q).p.x _ J) ?_;refine cp am2 (c_FRAdd _ _ J) ?_;refine zg6 ?_;refine wl_regD 11 ah ?_;refine zg1 ?_;refine st_pure rfl (.bin rfl rfl (mul64 J J)) ?_;refine cp am1 (c_FInt (2*(r.length:Int)) J J) ?_;refine zg3 ?_;refine cp am2 (c_FFrac 1 8 ae ae ae ae ae) ?_;refine cp am2 (c_FRMul (dpV l q).p.y _ J) ?_;refine cp am2 (c_FRAdd _ _ J) ?_;refine zg5 ?_;refine wl_regD 7 ah ?_;refine zg3 ?_;refine cp am2 (c_FFrac 1 4 ae ae ae ae ae) ?_;refine cp am2 (c_FRMul (dpV l q).p.z _ J) ?_;refine zg9 ?_
    first | refine st_store rfl (.appX (d:=95) (news:=[poL (gpV (sWd l k n m) i r.length (dpV l q))]) rfl rfl rfl rfl aj (.inl rfl) ae eI eI Z119 T119 cs B119 (.inl ⟨94,0,_,rfl,by decide,rfl,rfl,by simp,rfl,by simp [pures,poE.pure]⟩) al al ae) ?_ | refine st_store rfl (.appX (d:=95) (news:=[poL (dpV l q)]) rfl rfl rfl rfl aj (.inl rfl) ae eI eI Z119 T119 cs B119 (.inl ⟨94,0,_,rfl,by decide,rfl,rfl,by simp,rfl,by simp [pures,poE.pure]⟩) al al ae) ?_
    refine zg4 ?_;refine wl_regW ((Weak.kill _ 94).trans (Weak.kill _ 12)) ?_;refine zg1 ?_;refine bq ?_;exact nx3 f (dpK l q) (r++[gpV (sWd l k n m) i r.length (dpV l q)]) ⟨dpK_le hl hq5,by simp;omega,by rw [nR,len_snoc];exact hV,hK⟩
   have fC:(sWd l k n m)=true:=by simpa using tU
   have xR:r++[(dpV l q)]=r++[(gpV (sWd l k n m) i r.length (dpV l q))]:=by unfold gpV;rw [fC];rfl
   refine zg6 ?_
   first | refine st_store rfl (.appX (d:=95) (news:=[poL (gpV (sWd l k n m) i r.length (dpV l q))]) rfl rfl rfl rfl aj (.inl rfl) ae eI eI Z119 T119 cs B119 (.inl ⟨94,0,_,rfl,by decide,rfl,rfl,by simp,rfl,by simp [pures,poE.pure]⟩) al al ae) ?_ | refine st_store rfl (.appX (d:=95) (news:=[poL (dpV l q)]) rfl rfl rfl rfl aj (.inl rfl) ae eI eI Z119 T119 cs B119 (.inl ⟨94,0,_,rfl,by decide,rfl,rfl,by simp,rfl,by simp [pures,poE.pure]⟩) al al ae) ?_
   refine zg4 ?_;refine wl_regW ((Weak.kill _ 94).trans (Weak.kill _ 12)) ?_;refine zg1 ?_;refine bq ?_;exact nx3 f (dpK l q) (r++[gpV (sWd l k n m) i r.length (dpV l q)]) ⟨dpK_le hl hq5,by simp;omega,by rw [nR,len_snoc];exact hV,hK⟩
  obtain rfl:d=0:=J;rw [srV,aS] at hV;rw [dqK] at hK;subst hV hK;refine zg5 ?_;refine wl_regW (Weak.hand (t:=10) (b:=95) poE rfl rfl rfl) ?_;refine zg4 ?_;refine st_store rfl (.appX (d:=100) (news:=[prL (srV l (sWd l k n m) i 0 (sB l k n m) p)]) rfl rfl rfl rfl (by simp [kills_map prE];omega) (.inl rfl) ae jG jG prZ T59 cs B59 (.inl ⟨99,0,_,rfl,by decide,rfl,rfl,by simp,rfl,by simp [pures,prE.pure]⟩) (by simp [kills_map prE];omega) (by simp [kills_map prE];omega) ae) ?_;refine zg5 ?_;refine wl_regW (Weak.kill _ 99) ?_;refine zg1 ?_;refine bq ?_;exact nx4 (i+1) (dqK l p (sB l k n m)) e (o++[srV l (sWd l k n m) i 0 (sB l k n m) p]) ⟨dqK_le hl _ _ hp5,by simp;omega,J,by rw [nR];exact hR,hE⟩
 obtain rfl:c=0:=J;rw [ssV,aS] at hR;rw [ssK] at hE;subst aP;refine zg12 ?_;rw [<-hR,<-hE];exact retMCf [100] rfl rfl rfl rfl rfl T29 (.agg (.cons (.pure rfl) (.cons (.pure rfl) (.cons (.pure iE) (.cons (.pure fg) (.cons (imm_refm prE rfl rfl rfl) .nil)))))) rfl rfl (dice_pure l _)
end Go.Proofs.YtlipjipfpkbppaaGreat
end
