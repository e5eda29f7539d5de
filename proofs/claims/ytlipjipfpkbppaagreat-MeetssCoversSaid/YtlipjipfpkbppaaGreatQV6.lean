/- Texts T1, T2, T3, T6, T7, T8, T9, T15, T16, Y2, Y3, Y0, Y4, Y5, Y6, Y10, Y11, Y12, A3, A4, LgX, LgC, LgD, LgF, Z1, Z2, A1 of this proof, joined. -/
import Derived.Test.YtlipjipfpkbppaaGreatQV5
set_option linter.unusedVariables false
set_option linter.unusedSimpArgs false
open Array renaming ext'->l8,getElem?_eq_some_iff->eB,replicate->gX
open Bool renaming and_eq_true->dG,or_eq_true->iy
open Go.Proofs.Tryz renaming prog->aa,underlying127->aei,underlying163->tF,underlying187->oQ,underlying22->vP,underlying26->aV,underlying27->jG,underlying44->eT,underlying59->eI
open Int renaming natCast_mul->aad
open List renaming all_eq_true->ie,append_assoc->nR,append_nil->aS,contains_iff_mem->gk,drop_eq_getElem_cons->o8,drop_length->uk,drop_of_length_le->ep,drop_succ_cons->vT,drop_zero->dY,flatten_cons->pI,getD_eq_getElem?_getD->ao,getElem?_append_right->uX,getElem?_cons_zero->ke,getElem?_eq_getElem->aB,getElem?_eq_some_iff->fV,getElem?_map->bU,getElem?_range->vA,getElem_mem->fY,getElem_of_mem->mP,length_append->cZ,length_cons->aQ,length_drop->fJ,length_map->aA,length_nil->bc,length_set->uW,length_take->bZ,map_cons->gA,map_map->vx,map_nil->bh,map_set->ac3,mem_append->eF,mem_cons->bp,mem_cons_of_mem->abU,mem_cons_self->yU,mem_map->bS,mem_of_getElem?->jZ,mem_range->my,mem_singleton->bD,nil_append->aR,range->b9,replicate->ai,set_cons_succ->aK,set_cons_zero->aN,take_add_one->nV,take_append_drop->kK,take_length->eZ,take_nil->aZ,take_of_length_le->aH,take_succ_cons->pk,take_zero->uI
open List.cons renaming injEq->b7
open Nat renaming add_assoc->fT,add_comm->dM,add_sub_cancel->df,div_add_mod->n7,div_lt_of_lt_mul->zR,eq_zero_or_pos->nu,le_mul_of_pos_left->tk,le_mul_of_pos_right->mq,le_of_lt_succ->qL,le_refl->an,le_trans->aw,lt_or_ge->cu,min_eq_left->eP,mod_lt->dO,mul_comm->bz,mul_le_mul->cx,mul_le_mul_left->fx,mul_le_mul_right->bw,one_le_two_pow->aaw,pow_le_pow_right->gg,pow_succ->dz,reduceAdd->au,reduceBEq->aq,reduceEqDiff->aO,reduceMul->ar,sub_self->jy,succ_mul->cB,succ_pos->mi,zero_add->cJ,zero_le->az,zero_mul->jm
open Option.some renaming injEq->bF
open Rat renaming add_assoc->aap,add_zero->fw,div_def->cj,div_mul_cancel->gz,intCast_le_intCast->tu,intCast_mul->lI,inv_mul_rev->adL,le_of_lt->dp,le_refl->dD,le_trans->cA,mul_assoc->lU,mul_div_cancel->mc,mul_inv_cancel->r8,mul_le_mul_of_nonneg_left->lS,mul_le_mul_of_nonneg_right->fM,mul_nonneg->cO,mul_zero->pY,one_mul->fN,zero_add->qG,zero_mul->fZ
section
set_option linter.unusedVariables false
set_option linter.unusedSimpArgs false
set_option maxHeartbeats 8000000
set_option maxRecDepth 100000
attribute [local irreducible] Go.Lg.opsL Go.Lg.wpL Go.Lg.thenL Go.Lg.blockL
namespace Go.Proofs.YtlipjipfpkbppaaGreat
open Go.Lg
theorem net_pure (u v:Int) (c:List Rat):LV.pure (.agg [iL u,iL v,.list 3 (c.map ratL)])=true:=by simp [LV.pure,pures,pures_map ratE]
theorem net_pureN (u v:Nat) (c:List Rat):LV.pure (.agg [nI64 u,nI64 v,.list 3 (c.map ratL)])=true:=net_pure u v c
theorem mulE {a b n:Nat} (h:a*b=n) (hn:n<=9223372036854775807):binI .mul .i64 (a:Nat) (b:Nat)=some (.int .i64 (n:Nat)):=by
 rw [mul64 (by rw [<-aad,h];omega) (by rw [<-aad,h];omega),<-aad,h]
def gL (n:Nat) (W:Nat->Rat):List Rat:=(b9 n).map W
theorem gL_len (n:Nat) (W:Nat->Rat):(gL n W).length=n:=by simp [gL]
theorem gL_succ (n:Nat) (W:Nat->Rat):gL (n+1) W=gL n W++[W n]:=by simp [gL,List.range_succ]
theorem gL_get {n:Nat} {W:Nat->Rat} {x:Nat} (h:x<n):(gL n W).getD x 0=W x:=by
 rw [ao,aB (by rw [gL_len];exact h)];simp [gL]
theorem take_gL (n:Nat) (W:Nat->Rat) (f:Rat->LV):((gL n W).map f).take n=(gL n W).map f:=by rw [aH (by simp [gL_len])]
theorem ix_div {V i j:Nat} (h:j<=V):(i*(V+1)+j)/(V+1)=i:=by
 rw [dM,Nat.add_mul_div_right _ _ (mi V),Nat.div_eq_of_lt J,cJ]
theorem ix_mod {V i j:Nat} (h:j<=V):(i*(V+1)+j) % (V+1)=j:=by
 rw [dM,Nat.add_mul_mod_self_right,Nat.mod_eq_of_lt J]
theorem ix_lt {U V i j:Nat} (hi:i<=U) (hj:j<=V):i*(V+1)+j<(U+1)*(V+1):=by
 have:=bw (V+1) (show i+1<=U+1 by omega);rw [cB] at this;omega
theorem chsR_rl {n:Nat} (k:Nat) (hn:n<=40):rl (((chs n k:Nat):Int):Rat)<=2:=by
 rcases cu n k with h | h
 ·rw [chs_gt h];decide
 have h1:=chR_rl hn _ (getD_mem (i:=k) (by rw [chR_len];omega));rw [chR_get h] at h1;exact h1
def wtV (U V:Nat) (c:List Rat) (x:Nat):Rat:=((chs U (x/(V+1)):Nat):Int)*((chs V (x % (V+1)):Nat):Int)*c.getD x 0
def swV (U V:Nat) (c:List Rat) (x:Nat):Rat:=c.getD (x % (U+1)*(V+1)+x/(U+1)) 0
def wtL (U V:Nat) (c:List Rat):List Rat:=gL ((U+1)*(V+1)) (wtV U V c)
def swL (U V:Nat) (c:List Rat):List Rat:=gL ((V+1)*(U+1)) (swV U V c)
theorem wt_rl {U V:Nat} {c:List Rat} {R:Nat} (hU:U<=40) (hV:V<=40) (hR:1<=R) (h:∀ x∈c,rl x<=R):∀ x∈wtL U V c,rl x<=R+6:=by
 intro x hx;obtain⟨i,_,rfl⟩:=bS.1 hx;have h1:=chsR_rl (n:=U) (i/(V+1)) hU;have h2:=chsR_rl (n:=V) (i % (V+1)) hV;have h3:=getD_rl hR h i;have h4:=rl_mul (((chs U (i/(V+1)):Nat):Int):Rat) (((chs V (i % (V+1)):Nat):Int):Rat);have h5:=rl_mul ((((chs U (i/(V+1)):Nat):Int):Rat)*(((chs V (i % (V+1)):Nat):Int):Rat)) (c.getD i 0);show rl (wtV U V c i)<=_;unfold wtV;omega
theorem set_gd {W:Nat->Rat} {o:List Rat} {m:Nat} {v:Rat} (h:m<o.length) (hv:v=W m):(gL m W++o.drop m).set m v=gL (m+1) W++o.drop (m+1):=by
 subst hv;rw [o8 h,set_mid _ _ _ _ (gL_len m W).symm,gL_succ,nR];rfl
theorem get_gd {W:Nat->Rat} {o:List Rat} {m:Nat}:(gL m W++o.drop m).getD m 0=o.getD m 0:=by
 rw [getD_app2 _ _ _ (by rw [gL_len];exact an _),gL_len,jy,getD_dropR,Nat.add_zero]
section
variable (V1 V2 W U2:Nat) (x y:List Rat) (i j k:Nat)
def mL:Nat->List Rat->List Rat
 | 0,o=>o
 | l+1,o=>(mL l o).set ((i+k)*(W+1)+j+l) ((mL l o).getD ((i+k)*(W+1)+j+l) 0+x.getD (i*(V1+1)+j) 0*y.getD (k*(V2+1)+l) 0)
def mK:Nat->List Rat->List Rat
 | 0,o=>o
 | k+1,o=>mL V1 V2 W x y i j k (V2+1) (mK k o)
def mJ:Nat->List Rat->List Rat
 | 0,o=>o
 | j+1,o=>mK V1 V2 W x y i j (U2+1) (mJ j o)
def mI:Nat->List Rat->List Rat
 | 0,o=>o
 | i+1,o=>mJ V1 V2 W U2 x y i (V1+1) (mI i o)
end
def mTop (U1 V1 U2 V2:Nat) (a b:List Rat):List Rat:=mI V1 V2 (V1+V2) U2 (wtL U1 V1 a) (wtL U2 V2 b) (U1+1) (ai ((U1+U2+1)*(V1+V2+1)) 0)
def dvV (U V:Nat) (o:List Rat) (x:Nat):Rat:=o.getD x 0/((((chs U (x/(V+1)):Nat):Int):Rat)*(((chs V (x % (V+1)):Nat):Int):Rat))
def tmL (U1 V1 U2 V2:Nat) (a b:List Rat):List Rat:=gL ((U1+U2+1)*(V1+V2+1)) (dvV (U1+U2) (V1+V2) (mTop U1 V1 U2 V2 a b))
namespace H_c_choose7
theorem zSm {p q:Prop} (k:q) (e:p=q:=by simp only [sNF,ar,au,aq,dfi,rtake,aS,rowI_len,wh,ek2,eJ,bA,aQ,bc,kills_map i64E,kills_map ratE,LV.kill,kills];exact rfl):p:=e.mpr k
end H_c_choose7
open H_c_choose7 in
theorem c_choose7 (n:Nat) (hn:n<=40):CallP aa 286 [nI64 n] (.list 1 ((rowI n).map i64L)):=by
 refine fnP Tryz.func286 (ht:=(fun g=>LV.ren_pure g _ (pure_lst i64E _ _))) ?_;have wh:True:=trivial;have ek2:True:=trivial;have eJ:True:=trivial;refine zg19 ?_;refine wl_weak (Weak.mv (t:=3) (b:=5) 11 ae ae ae rfl rfl rfl) ?_;refine lp1 (fun(k:Nat) L=>(mS L [(11,⟨1,(rowI k).map i64L,true⟩)] [(7,nI64 k),(6,nI64 n),(3,.ref 11 1 0 (k+1))])) (fun k=>k<=n) (fun k=>n-k) 0 (az _) ?_;rintro k L1 hk;refine zg6 ?_;refine wl_if rfl ?_ ?_<;>intro gM h8
 ·have yl:k<n:=J;have ek2:((((k+1+1:Nat)):Int)-2)=(k:Int):=J;refine zg8 ?_;refine st_store rfl (.app (news:=[i64L 1]) rfl rfl rfl rfl rfl (by simp [rowI_len]) (.inl rfl) ae aei aei Z2 T2 rfl B2 (.inl ⟨10,0,_,rfl,by decide,rfl,rfl,by simp,rfl,rfl⟩) al al ae) ?_;refine zg4 ?_;refine wl_regW (Weak.kill _ 10) ?_;refine zg7 ?_;refine lp2 (fun(i:Nat) (o:List Int) L=>(mS L [(11,⟨1,o.map i64L,true⟩)] [(7,nI64 k),(6,nI64 n),(4,nI64 i),(3,.ref 11 1 0 (k+1+1))])) (fun i o=>i<=k/\PasC k i o) (fun i o=>i) k (rowI k++[1]) ⟨an _,pas_init k⟩ ?_;rintro i o L2 ⟨hi,hP⟩;refine zg7 ?_;refine wl_if rfl ?_ ?_<;>intro mQ ks
  ·obtain⟨j,rfl⟩:∃ j,i=j+1:=⟨i-1,J⟩;have wh:(((j+1:Nat):Int)-1)=(j:Int):=J;have aP:=hP.1;have mT:=pas_bd hP J (x:=j+1) J;have nN:=pas_bd hP J (x:=j) J;refine zg4 ?_;refine wl_regD 11 ah ?_;refine zg21 ?_;exact nx2 j (o.set (j+1) (o.getD (j+1) 0+o.getD j 0)) ⟨J,pas_step hP hi⟩
  obtain rfl:i=0:=J;have hE:=pas_end hP;subst hE;refine zg11 ?_;exact qi
 obtain rfl:n=k:=J;refine zg12 ?_;exact ret1f [11] rfl rfl (imm_refm i64E rfl rfl (by rw [rowI_len]))
open H0 in
theorem c_shaped (U V:Nat) (c:List Rat) (hc:c.length=(U+1)*(V+1)) (hl:c.length<=1048576):CallP aa 273 [.agg [nI64 U,nI64 V,.list 3 (c.map ratL)]] (bL true):=by
 have hU:U+1<=c.length:=oX;have hV:V+1<=c.length:=od;have ov:=net_pureN U V c;refine fnP Tryz.func273 ?_;refine zg12 ?_;refine st_pure fi faA ?_;refine st_pure fi ldA ?_;refine sO ?_;refine st_pure fi faA ?_;refine st_pure fi ldA ?_;refine st_pure fi lnA ?_;refine sO ?_;refine st_pure fi faA ?_;refine st_pure fi ldA ?_;refine st_pure fi lnA ?_;refine sO ?_;refine st_pure fi lnA ?_;refine st_pure fi faA ?_;refine st_pure fi ldA ?_;refine st_pure fi (.bin rfl rfl (add1N J)) ?_;refine st_pure fi faA ?_;refine st_pure fi ldA ?_;refine st_pure fi (.bin rfl rfl (add1N J)) ?_;refine st_pure fi (.bin rfl rfl (mulE hc.symm J)) ?_;refine st_pure fi (.bin rfl rfl rfl) ?_;refine st_pure rfl (.pickT rfl ((decide_eq_true J))) ?_;refine zg4 ?_;refine ret1 (x:=.v (.bool (((c.length:Nat):Int)==((c.length:Nat):Int)))) rfl ?_;rw [beq_self_eq_true];exact .pure rfl
namespace H_c_weighted
theorem zSm {p q:Prop} (k:q) (e:p=q:=by simp only [sNF,ar,au,aq,dfq,dfi,rowI_len,r9,rC,ewn,Nat.add_zero,take_gL,bA,aQ,bc,kills_map i64E,kills_map ratE,ratL_kill,spL_kill,LV.kill,kills];exact rfl):p:=e.mpr k
end H_c_weighted
open H_c_weighted in
theorem c_weighted (U V:Nat) (c:List Rat) (hc:c.length=(U+1)*(V+1)) (hl:c.length<=1048576) (yT:U<=40) (hV4:V<=40) (R:Nat) (cQ:1<=R) (hR:R<=1073741824) (eD:∀ x∈c,rl x<=R):CallP aa 285 [.agg [nI64 U,nI64 V,.list 3 (c.map ratL)]] (.list 3 ((wtL U V c).map ratL)):=by
 have hU:U+1<=c.length:=oX;have hV:V+1<=c.length:=od;have ov:=net_pureN U V c;refine fnP Tryz.func285 ?_;have r9:True:=trivial;have rC:True:=trivial;have ewn:True:=trivial;refine zg15 ?_;refine cp am1 (c_choose7 V hV4) ?_;refine zg8 ?_;refine cp am1 (c_choose7 U yT) ?_;refine zg5 ?_;refine wl_weak (Weak.own (t:=3) 47 3 rfl rfl) ?_;refine lp2 (fun(i m:Nat) L=>(mS L [(1,⟨3,[.agg [nI64 U,nI64 V,.list 3 (c.map ratL)]],true⟩),(47,⟨3,(gL m (wtV U V c)).map ratL,true⟩)] [(3,.ref 47 3 0 m),(16,nI64 i),(15,nI64 (U+1)),(14,.list 1 ((rowI U).map i64L)),(4,.list 1 ((rowI V).map i64L)),(1,.eptr 1 3 0 0)])) (fun i m=>i<=U+1/\i*(V+1)=m) (fun i m=>U+1-i) 0 0 ⟨az _,jm _⟩ ?_;rintro i m L1 ⟨hi,hm⟩;refine zg6 ?_;refine wl_if rfl ?_ ?_<;>intro ng kf
 ·have hi2:i<=U:=J;have r9:=rowI_get hi2;have hcu:=chs_40 i yT;refine zg21 ?_;refine lp1 (fun(j:Nat) L=>(mS L [(1,⟨3,[.agg [nI64 U,nI64 V,.list 3 (c.map ratL)]],true⟩),(47,⟨3,(gL (m+j) (wtV U V c)).map ratL,true⟩)] [(23,nI64 j),(22,nI64 (V+1)),(21,.list 1 ((rowI V).map i64L)),(6,nI64 (chs U i)),(5,nI64 i),(3,.ref 47 3 0 (m+j)),(16,nI64 i),(15,nI64 (U+1)),(14,.list 1 ((rowI U).map i64L)),(4,.list 1 ((rowI V).map i64L)),(1,.eptr 1 3 0 0)])) (fun j=>j<=V+1) (fun j=>V+1-j) 0 (az _) ?_;rintro j L2 hj;refine zg6 ?_;refine wl_if rfl ?_ ?_<;>intro nm oC
  ·have bo:j<=V:=J;have rC:=rowI_get bo;have jS:=chs_40 j hV4;have gY:=ix_lt hi2 bo;rw [hm,<-hc] at gY;have rm:=gL_len (m+j) (wtV U V c);have ewn:gL (m+(j+1)) (wtV U V c)=gL (m+j) (wtV U V c)++[(((chs U i:Nat):Int):Rat)*(((chs V j:Nat):Int):Rat)*c.getD (m+j) 0]:=by rw [<-fT,gL_succ,wtV,<-hm,ix_div bo,ix_mod bo]
   have bG:=chsR_rl i yT;have ir:=chsR_rl j hV4;have tK:=getD_rl cQ eD (m+j);have xV:=rl_mul (((chs U i:Nat):Int):Rat) (((chs V j:Nat):Int):Rat);refine zg13 ?_;refine wl_regD 19 ah ?_;refine zg2 ?_;refine cp am1 (c_RInt ((chs U i:Nat):Int) J J) ?_;refine zg1 ?_;refine cp am1 (c_RInt ((chs V j:Nat):Int) J J) ?_;refine cp am2 (c_RMul (((chs U i:Nat):Int):Rat) (((chs V j:Nat):Int):Rat) J) ?_;refine zg5 ?_;refine cG ?_;refine st_pure rfl (.bin rfl rfl (mulE hm J)) ?_;refine zg1 ?_;refine st_pure rfl lg ?_;refine zg2 ?_;refine cp am2 (c_RMul ((((chs U i:Nat):Int):Rat)*(((chs V j:Nat):Int):Rat)) (c.getD (m+j) 0) J) ?_;refine zg1 ?_;refine st_store rfl (.app (news:=[ratL ((((chs U i:Nat):Int):Rat)*(((chs V j:Nat):Int):Rat)*c.getD (m+j) 0)]) rfl rfl rfl rfl rfl (by simp [gL_len]) (.inl rfl) ae aV aV Z32a T32 rfl B32 (.inl ⟨46,0,_,rfl,by decide,rfl,rfl,by simp,rfl,by simp [pures,ratE.pure]⟩) al al ae) ?_;refine zg4 ?_;refine wl_regW (Weak.kill _ 46) ?_;refine zg4 ?_;exact mH
  obtain rfl:j=V+1:=J;refine zg11 ?_;exact nx2 (i+1) (m+(V+1)) ⟨J,by rw [cB];omega⟩
 obtain rfl:i=U+1:=J;have hE:gL m (wtV U V c)=wtL U V c:=by rw [<-hm];rfl
 refine zg12 ?_;rw [<-hE];exact ret1f [47] rfl rfl (imm_refm ratE rfl rfl (by rw [gL_len]))
namespace H_c_Swap
theorem zSm {p q:Prop} (k:q) (e:p=q:=by simp only [sNF,ar,au,aq,dfq,gq,Rat.add_zero,Nat.add_zero,take_gL,bA,aQ,bc,kills_map i64E,kills_map ratE,ratL_kill,spL_kill,LV.kill,kills];exact rfl):p:=e.mpr k
end H_c_Swap
open H_c_Swap in
theorem c_Swap (U V:Nat) (c:List Rat) (hc:c.length=(U+1)*(V+1)) (hl:c.length<=1048576) (eD:∀ x∈c,rl x<=274877906944):CallP aa 272 [.agg [nI64 U,nI64 V,.list 3 (c.map ratL)]] (.agg [nI64 V,nI64 U,.list 3 ((swL U V c).map ratL)]):=by
 have hU:U+1<=c.length:=oX;have hV:V+1<=c.length:=od;have ov:=net_pureN U V c;refine fnP Tryz.func272 (ht:=(fun g=>LV.ren_pure g _ (net_pureN _ _ _))) ?_;have gq:True:=trivial;refine zg21 ?_;refine cp am1 (c_shaped U V c hc hl) ?_;refine zg11 ?_;refine cG ?_;refine zg4 ?_;refine wl_weak ((Weak.cell 3 rfl (fun Z μ w cs h=>rep_net 43 3 _ _ Z μ w cs h)).trans (Weak.newB _ 43 3 rfl)) ?_;refine lp2 (fun(j m:Nat) L=>(mS L [(1,⟨3,[.agg [nI64 U,nI64 V,.list 3 (c.map ratL)]],true⟩),(2,⟨3,[.agg [.v (.int .i64 0),.v (.int .i64 0),.v (.slice none 0 0)]],true⟩),(3,⟨3,[.agg [nI64 V,nI64 U,.ref 43 3 0 m]],true⟩),(43,⟨3,(gL m (swV U V c)).map ratL,true⟩)] [(18,nI64 j),(17,nI64 (V+1)),(3,.eptr 3 3 0 0),(2,.eptr 2 3 0 0),(1,.eptr 1 3 0 0)])) (fun j m=>j<=V+1/\j*(U+1)=m) (fun j m=>V+1-j) 0 0 ⟨az _,jm _⟩ ?_;rintro j m L1 ⟨hj,hm⟩;refine zg6 ?_;refine wl_if rfl ?_ ?_<;>intro wP xU
 ·have bo:j<=V:=J;refine zg14 ?_;refine cG ?_;refine zg4 ?_;refine lp1 (fun(i:Nat) L=>(mS L [(1,⟨3,[.agg [nI64 U,nI64 V,.list 3 (c.map ratL)]],true⟩),(2,⟨3,[.agg [.v (.int .i64 0),.v (.int .i64 0),.v (.slice none 0 0)]],true⟩),(3,⟨3,[.agg [nI64 V,nI64 U,.ref 43 3 0 (m+i)]],true⟩),(43,⟨3,(gL (m+i) (swV U V c)).map ratL,true⟩)] [(24,nI64 i),(23,nI64 (U+1)),(4,nI64 j),(18,nI64 j),(17,nI64 (V+1)),(3,.eptr 3 3 0 0),(2,.eptr 2 3 0 0),(1,.eptr 1 3 0 0)])) (fun i=>i<=U+1) (fun i=>U+1-i) 0 (az _) ?_;rintro i L2 hi;refine zg6 ?_;refine wl_if rfl ?_ ?_<;>intro vF n6
  ·have hi2:i<=U:=J;have oc:=ix_lt (U:=V) (V:=U) bo hi2;rw [hm,bz,<-hc] at oc;have gY:=ix_lt hi2 bo;rw [<-hc] at gY;have rm:=gL_len (m+i) (swV U V c);have gq:gL (m+(i+1)) (swV U V c)=gL (m+i) (swV U V c)++[c.getD (i*(V+1)+j) 0]:=by rw [<-fT,gL_succ,swV,<-hm,ix_div hi2,ix_mod hi2]
   have bG:=eD _ (getD_mem (i:=i*(V+1)+j) gY);refine zg10 ?_;refine wl_regD 16 ah ?_;refine zg7 ?_;refine cG ?_;refine st_pure rfl rX ?_;refine zg1 ?_;refine st_pure rfl lg ?_;refine zg2 ?_;refine fu ?_;refine cp am2 (c_RAdd (c.getD (i*(V+1)+j) 0) 0 (by rw [show rl 0=1 from rfl];omega)) ?_;refine zg1 ?_;refine st_store rfl (.app (news:=[ratL (c.getD (i*(V+1)+j) 0+0)]) rfl rfl rfl rfl rfl (by simp [gL_len]) (.inl rfl) ae aV aV Z32a T32 rfl B32 (.inl ⟨42,0,_,rfl,by decide,rfl,rfl,by simp,rfl,by simp [pures,ratE.pure]⟩) al al ae) ?_;refine zg5 ?_;refine wl_regW (Weak.kill _ 42) ?_;refine zg4 ?_;exact cq
  obtain rfl:i=U+1:=J;refine zg11 ?_;exact nx2 (j+1) (m+(U+1)) ⟨J,by rw [cB];omega⟩
 obtain rfl:j=V+1:=J;have hE:gL m (swV U V c)=swL U V c:=by rw [<-hm];rfl
 refine zg12 ?_;rw [<-hE];exact retC [43] rfl rfl rfl rfl rfl T239 (.agg (.cons (.pure rfl) (.cons (.pure rfl) (.cons (imm_refm ratE rfl rfl (by rw [gL_len])) .nil))))
theorem gL_zero (W:Nat->Rat):gL 0 W=[]:=rfl
namespace H_c_TMulK
theorem zSm {p q:Prop} (k:q) (e:p=q:=by simp only [sNF,ar,au,aq,frz_nil,dfq,dfi,rowI_len,r9,rC,Nat.add_zero,w5,esd,List.length_set,kills_map i64E,kills_map ratE,ratL_kill,spL_kill,LV.kill,kills];exact rfl):p:=e.mpr k
theorem zSm1 {p q:Prop} (k:q) (e:p=q:=by simp only [sNF,ar,au,aq,frz_nil,dfq,dfi,rowI_len,r9,rC,Nat.add_zero,w5,esd,List.length_set,kills_map i64E,kills_map ratE,ratL_kill,spL_kill,LV.kill,kills,gL_zero,aR,List.drop_zero];exact rfl):p:=e.mpr k
theorem cl1 {p:Prop} (h:p:=by first | rfl | (refine zSm1 ?_;first | exact trivial | rfl | (congr 3<;>omega) | (congr 2<;>omega))):p:=h
end H_c_TMulK
open H_c_TMulK in
theorem c_TMulK (U1 V1 U2 V2:Nat) (a b:List Rat) (ha:a.length=(U1+1)*(V1+1)) (hb:b.length=(U2+1)*(V2+1)) (mF:a.length<=1048576) (gQ:b.length<=1048576) (hu:U1+U2<=40) (hv:V1+V2<=40) (R:Nat) (cQ:1<=R) (hR:R<=1000000) (hK:(U1+1)*((V1+1)*((U2+1)*((V2+1)*(2*R+14))))<=10000000000) (ph:∀ x∈a,rl x<=R) (nK:∀ x∈b,rl x<=R):CallP aa 271 [.agg [nI64 U1,nI64 V1,.list 3 (a.map ratL)],.agg [nI64 U2,nI64 V2,.list 3 (b.map ratL)]] (.tup [.agg [nI64 (U1+U2),nI64 (V1+V2),.list 3 ((tmL U1 V1 U2 V2 a b).map ratL)],iL 0]):=by
 have pC:U1+1<=a.length:=by rw [ha];exact mq _ (mi V1)
 have lp:V1+1<=a.length:=by rw [ha];exact tk _ (mi U1)
 have rM:U2+1<=b.length:=by rw [hb];exact mq _ (mi V2)
 have xZ:V2+1<=b.length:=by rw [hb];exact tk _ (mi U2)
 have ahy:=net_pureN U1 V1 a;have aaG:=net_pureN U2 V2 b;have hT:((U1+U2+1)*(V1+V2+1))<=1681:=aw (cx (show U1+U2+1<=41 by omega) (show V1+V2+1<=41 by omega)) ae;have hwa:=wt_rl (U:=U1) (V:=V1) (c:=a) J J cQ ph;have hwb:=wt_rl (U:=U2) (V:=V2) (c:=b) J J cQ nK;have ahr:(wtL U1 V1 a).length=a.length:=by rw [wtL,gL_len,ha]
 have aiL:(wtL U2 V2 b).length=b.length:=by rw [wtL,gL_len,hb]
 obtain⟨z1,jA⟩:∃ z1,(V2+1)*(2*R+14)=z1:=⟨_,rfl⟩;obtain⟨z2,kh⟩:∃ z2,(U2+1)*z1=z2:=⟨_,rfl⟩;obtain⟨z3,vB⟩:∃ z3,(V1+1)*z2=z3:=⟨_,rfl⟩;have jX:z1<=z2:=by rw [<-kh];exact tk _ (mi _)
 have tj:z2<=z3:=by rw [<-vB];exact tk _ (mi _)
 have hq3:z3<=(U1+1)*z3:=tk _ (mi _);have hq5:(U1+1)*z3<=10000000000:=by rw [<-vB,<-kh,<-jA];exact hK
 refine fnP Tryz.func271 (ht:=(tame2 (net_pureN _ _ _) rfl)) ?_;have r9:True:=trivial;have rC:True:=trivial;have w5:True:=trivial;have esd:True:=trivial;refine zg14 ?_;refine st_pure rfl lg ?_;refine zg4 ?_;refine st_pure rfl lg ?_;refine zg12 ?_;refine st_pure ij faA ?_;refine st_pure ij ldA ?_;refine xj ?_;refine zg2 ?_;refine wl_condY (b:=_) rfl (decide_eq_false J) ?_;refine zg6 ?_;refine cp am1 (c_shaped U1 V1 a ha mF) ?_;refine zg3 ?_;refine cp am1 (c_shaped U2 V2 b hb gQ) ?_;refine zg11 ?_;refine cG ?_;refine zg2 ?_;refine cG ?_;refine st_pure rfl rX ?_;refine st_alloc rfl rfl (.mkE (n:=((U1+U2+1)*(V1+V2+1))) (m:=((U1+U2+1)*(V1+V2+1))) ml ml om om om) ?_;refine zg5 ?_;refine wl_regD 6 ah ?_;refine zg1 ?_;refine cp am1 (c_weighted U1 V1 a ha mF J J R cQ J ph) ?_;refine zg1 ?_;refine cp am1 (c_weighted U2 V2 b hb gQ J J R cQ J nK) ?_;refine zg9 ?_;refine cG ?_;refine zg4 ?_
 refine lp2 (fun(i:Nat) (oI:List Rat) L=>(mS L [(2,⟨3,[.agg [nI64 U1,nI64 V1,.list 3 (a.map ratL)]],true⟩),(3,⟨3,[.agg [nI64 U2,nI64 V2,.list 3 (b.map ratL)]],true⟩),(4,⟨3,[.agg [.v (.int .i64 0),.v (.int .i64 0),.v (.slice none 0 0)]],true⟩),(6,⟨3,[.agg [nI64 (U1+U2),nI64 (V1+V2),.ref 55 3 0 ((U1+U2+1)*(V1+V2+1))]],true⟩),(55,⟨3,oI.map ratL,true⟩)] [(64,nI64 i),(63,nI64 (U1+1)),(8,.list 3 ((wtL U2 V2 b).map ratL)),(7,.list 3 ((wtL U1 V1 a).map ratL)),(6,.eptr 6 3 0 0),(4,.eptr 4 3 0 0),(3,.eptr 3 3 0 0),(2,.eptr 2 3 0 0)])) (fun i oI=>i<=U1+1/\oI=mI V1 V2 (V1+V2) U2 (wtL U1 V1 a) (wtL U2 V2 b) i (ai ((U1+U2+1)*(V1+V2+1)) 0)/\oI.length=((U1+U2+1)*(V1+V2+1))/\∀ x∈oI,rl x<=1+i*z3) (fun i oI=>U1+1-i) 0 (ai ((U1+U2+1)*(V1+V2+1)) 0) ⟨az _,rfl,by simp,fun x hx=>by rw [(List.mem_replicate.1 hx).2];exact Nat.le_add_right 1 _⟩ ?_;rintro i oI L1 ⟨hi,yJ,hlI,hrI⟩;refine zg6 ?_;refine wl_if rfl ?_ ?_<;>intro ahd h65
 ·have hi2:i<=U1:=J;have yS:i*z3+z3<=(U1+1)*z3:=by rw [<-cB];exact bw _ J
  refine zg14 ?_;refine cG ?_;refine zg4 ?_;refine lp2 (fun(j:Nat) (oJ:List Rat) L=>(mS L [(2,⟨3,[.agg [nI64 U1,nI64 V1,.list 3 (a.map ratL)]],true⟩),(3,⟨3,[.agg [nI64 U2,nI64 V2,.list 3 (b.map ratL)]],true⟩),(4,⟨3,[.agg [.v (.int .i64 0),.v (.int .i64 0),.v (.slice none 0 0)]],true⟩),(6,⟨3,[.agg [nI64 (U1+U2),nI64 (V1+V2),.ref 55 3 0 ((U1+U2+1)*(V1+V2+1))]],true⟩),(55,⟨3,oJ.map ratL,true⟩)] [(70,nI64 j),(69,nI64 (V1+1)),(9,nI64 i),(64,nI64 i),(63,nI64 (U1+1)),(8,.list 3 ((wtL U2 V2 b).map ratL)),(7,.list 3 ((wtL U1 V1 a).map ratL)),(6,.eptr 6 3 0 0),(4,.eptr 4 3 0 0),(3,.eptr 3 3 0 0),(2,.eptr 2 3 0 0)])) (fun j oJ=>j<=V1+1/\oJ=mJ V1 V2 (V1+V2) U2 (wtL U1 V1 a) (wtL U2 V2 b) i j oI/\oJ.length=((U1+U2+1)*(V1+V2+1))/\∀ x∈oJ,rl x<=1+i*z3+j*z2) (fun j oJ=>V1+1-j) 0 oI ⟨az _,rfl,hlI,fun x hx=>by rw [jm];exact hrI x hx⟩ ?_;rintro j oJ L2 ⟨hj,hoJ,hlJ,zY⟩;refine zg6 ?_;refine wl_if rfl ?_ ?_<;>intro agV h71
  ·have bo:j<=V1:=J;have tp:j*z2+z2<=z3:=by rw [<-cB,<-vB];exact bw _ J
   refine zg14 ?_;refine cG ?_;refine zg4 ?_;refine lp2 (fun(k:Nat) (oK:List Rat) L=>(mS L [(2,⟨3,[.agg [nI64 U1,nI64 V1,.list 3 (a.map ratL)]],true⟩),(3,⟨3,[.agg [nI64 U2,nI64 V2,.list 3 (b.map ratL)]],true⟩),(4,⟨3,[.agg [.v (.int .i64 0),.v (.int .i64 0),.v (.slice none 0 0)]],true⟩),(6,⟨3,[.agg [nI64 (U1+U2),nI64 (V1+V2),.ref 55 3 0 ((U1+U2+1)*(V1+V2+1))]],true⟩),(55,⟨3,oK.map ratL,true⟩)] [(76,nI64 k),(75,nI64 (U2+1)),(10,nI64 j),(70,nI64 j),(69,nI64 (V1+1)),(9,nI64 i),(64,nI64 i),(63,nI64 (U1+1)),(8,.list 3 ((wtL U2 V2 b).map ratL)),(7,.list 3 ((wtL U1 V1 a).map ratL)),(6,.eptr 6 3 0 0),(4,.eptr 4 3 0 0),(3,.eptr 3 3 0 0),(2,.eptr 2 3 0 0)])) (fun k oK=>k<=U2+1/\oK=mK V1 V2 (V1+V2) (wtL U1 V1 a) (wtL U2 V2 b) i j k oJ/\oK.length=((U1+U2+1)*(V1+V2+1))/\∀ x∈oK,rl x<=1+i*z3+j*z2+k*z1) (fun k oK=>U2+1-k) 0 oJ ⟨az _,rfl,hlJ,fun x hx=>by rw [jm];exact zY x hx⟩ ?_;rintro k oK L3 ⟨hk,hoK,lO,zD⟩;refine zg6 ?_;refine wl_if rfl ?_ ?_<;>intro ahS h77
   ·have dk:k<=U2:=J;have qZ:k*z1+z1<=z2:=by rw [<-cB,<-kh];exact bw _ J
    refine zg14 ?_;refine cG ?_;refine zg4 ?_;refine lp2 (fun(l:Nat) (o:List Rat) L=>(mS L [(2,⟨3,[.agg [nI64 U1,nI64 V1,.list 3 (a.map ratL)]],true⟩),(3,⟨3,[.agg [nI64 U2,nI64 V2,.list 3 (b.map ratL)]],true⟩),(4,⟨3,[.agg [.v (.int .i64 0),.v (.int .i64 0),.v (.slice none 0 0)]],true⟩),(6,⟨3,[.agg [nI64 (U1+U2),nI64 (V1+V2),.ref 55 3 0 ((U1+U2+1)*(V1+V2+1))]],true⟩),(55,⟨3,o.map ratL,true⟩)] [(82,nI64 l),(81,nI64 (V2+1)),(11,nI64 k),(76,nI64 k),(75,nI64 (U2+1)),(10,nI64 j),(70,nI64 j),(69,nI64 (V1+1)),(9,nI64 i),(64,nI64 i),(63,nI64 (U1+1)),(8,.list 3 ((wtL U2 V2 b).map ratL)),(7,.list 3 ((wtL U1 V1 a).map ratL)),(6,.eptr 6 3 0 0),(4,.eptr 4 3 0 0),(3,.eptr 3 3 0 0),(2,.eptr 2 3 0 0)])) (fun l o=>l<=V2+1/\o=mL V1 V2 (V1+V2) (wtL U1 V1 a) (wtL U2 V2 b) i j k l oK/\o.length=((U1+U2+1)*(V1+V2+1))/\∀ x∈o,rl x<=1+i*z3+j*z2+k*z1+l*(2*R+14)) (fun l o=>V2+1-l) 0 oK ⟨az _,rfl,lO,fun x hx=>by rw [jm];exact zD x hx⟩ ?_;rintro l o L4 ⟨hl,ho,hlL,hrL⟩;refine zg6 ?_;refine wl_if rfl ?_ ?_<;>intro ahl h83
    ·have gI:l<=V2:=J;have ky:l*(2*R+14)+(2*R+14)<=z1:=by rw [<-cB,<-jA];exact bw _ J
     have mh:=ix_lt (U:=U1+U2) (V:=V1+V2) (i:=i+k) (j:=j+l) J J;have lR:=ix_lt hi2 bo;have zu:=ix_lt dk gI;rw [<-ha] at lR;rw [<-hb] at zu;have bG:=getD_rl (S:=R+6) J hwa (i*(V1+1)+j);have ir:=getD_rl (S:=R+6) J hwb (k*(V2+1)+l);have tK:=getD_rl J hrL ((i+k)*(V1+V2+1)+j+l);have xV:=rl_mul ((wtL U1 V1 a).getD (i*(V1+1)+j) 0) ((wtL U2 V2 b).getD (k*(V2+1)+l) 0);have hr5:=rl_add (o.getD ((i+k)*(V1+V2+1)+j+l) 0) ((wtL U1 V1 a).getD (i*(V1+1)+j) 0*(wtL U2 V2 b).getD (k*(V2+1)+l) 0);refine zg14 ?_;refine st_pure rfl lg ?_;refine zg2 ?_;refine cG ?_;refine st_pure rfl rX ?_;refine zg1 ?_;refine st_pure rfl lg ?_;refine zg1 ?_;refine st_pure rfl lg ?_;refine zg3 ?_;refine wl_regD 31 ah ?_;refine zg8 ?_
     try simp only [t1,dfq,cJ]
     refine zg4 ?_;refine cG ?_;refine st_pure rfl rX ?_;refine zg1 ?_;refine st_pure rfl lg ?_;refine zg6 ?_;refine cG ?_;refine st_pure rfl rX ?_;refine zg1 ?_;refine st_pure rfl lg ?_;refine zg2 ?_;refine cp am2 (c_RMul ((wtL U1 V1 a).getD (i*(V1+1)+j) 0) ((wtL U2 V2 b).getD (k*(V2+1)+l) 0) J) ?_;refine cp am2 (c_RAdd (o.getD ((i+k)*(V1+V2+1)+j+l) 0) ((wtL U1 V1 a).getD (i*(V1+1)+j) 0*(wtL U2 V2 b).getD (k*(V2+1)+l) 0) J) ?_;refine zg10 ?_;exact nx2 (l+1) (o.set ((i+k)*(V1+V2+1)+j+l) (o.getD ((i+k)*(V1+V2+1)+j+l) 0+(wtL U1 V1 a).getD (i*(V1+1)+j) 0*(wtL U2 V2 b).getD (k*(V2+1)+l) 0)) ⟨J,by rw [ho];rfl,by rw [uW];exact hlL,set_rl (fun x hx=>by have:=hrL x hx;rw [cB];omega) (by rw [cB];omega)⟩
    obtain rfl:l=V2+1:=J;refine zg11 ?_;exact nx2 (k+1) o ⟨J,by rw [ho,hoK];rfl,hlL,fun x hx=>by have:=hrL x hx;rw [jA] at this;rw [cB];omega⟩
   obtain rfl:k=U2+1:=J;rw [kh] at zD;refine zg11 ?_;exact nx2 (j+1) oK ⟨J,by rw [hoK,hoJ];rfl,lO,fun x hx=>by have:=zD x hx;rw [cB];omega⟩
  obtain rfl:j=V1+1:=J;rw [vB] at zY;refine zg11 ?_;exact nx2 (i+1) oJ ⟨J,by rw [hoJ,yJ];rfl,hlJ,fun x hx=>by have:=zY x hx;rw [cB];omega⟩
 obtain rfl:i=U1+1:=J;have hOF:oI=(mTop U1 V1 U2 V2 a b):=yJ;clear yJ;subst hOF;refine zg6 ?_;refine wl_regD 8 ah ?_;refine zg2 ?_;refine cp am1 (c_choose7 (U1+U2) hu) ?_;refine zg2 ?_;refine cp am1 (c_choose7 (V1+V2) hv) ?_;refine zg13 ?_;refine lp2 (fun(i m:Nat) L=>(mS L [(2,⟨3,[.agg [nI64 U1,nI64 V1,.list 3 (a.map ratL)]],true⟩),(3,⟨3,[.agg [nI64 U2,nI64 V2,.list 3 (b.map ratL)]],true⟩),(4,⟨3,[.agg [.v (.int .i64 0),.v (.int .i64 0),.v (.slice none 0 0)]],true⟩),(6,⟨3,[.agg [nI64 (U1+U2),nI64 (V1+V2),.ref 55 3 0 ((U1+U2+1)*(V1+V2+1))]],true⟩),(55,⟨3,(gL m (dvV (U1+U2) (V1+V2) (mTop U1 V1 U2 V2 a b))++(mTop U1 V1 U2 V2 a b).drop m).map ratL,true⟩)] [(139,nI64 i),(138,nI64 (U1+U2+1)),(15,.list 1 ((rowI (V1+V2)).map i64L)),(14,.list 1 ((rowI (U1+U2)).map i64L)),(6,.eptr 6 3 0 0),(4,.eptr 4 3 0 0),(3,.eptr 3 3 0 0),(2,.eptr 2 3 0 0)])) (fun i m=>i<=U1+U2+1/\i*(V1+V2+1)=m) (fun i m=>U1+U2+1-i) 0 0 ⟨az _,jm _⟩ (h0:=⟨_,Weak.of_eq (put_id' (put_id' (put_id' (put_id' (put_id' (put_id' (put_id' (put_id' (mk_id' cl1) cl1) cl1) cl1) cl1) cl1) cl1) cl1) cl1)⟩) ?_;rintro i m L5 ⟨hi,hm⟩;refine zg6 ?_;refine wl_if rfl ?_ ?_<;>intro aip aiK
 ·have hi2:i<=U1+U2:=J;have r9:=rowI_get hi2;have hcu:=chs_40 i hu;refine zg18 ?_;refine lp1 (fun(j:Nat) L=>(mS L [(2,⟨3,[.agg [nI64 U1,nI64 V1,.list 3 (a.map ratL)]],true⟩),(3,⟨3,[.agg [nI64 U2,nI64 V2,.list 3 (b.map ratL)]],true⟩),(4,⟨3,[.agg [.v (.int .i64 0),.v (.int .i64 0),.v (.slice none 0 0)]],true⟩),(6,⟨3,[.agg [nI64 (U1+U2),nI64 (V1+V2),.ref 55 3 0 ((U1+U2+1)*(V1+V2+1))]],true⟩),(55,⟨3,(gL (m+j) (dvV (U1+U2) (V1+V2) (mTop U1 V1 U2 V2 a b))++(mTop U1 V1 U2 V2 a b).drop (m+j)).map ratL,true⟩)] [(144,nI64 j),(143,nI64 (V1+V2+1)),(16,nI64 i),(139,nI64 i),(138,nI64 (U1+U2+1)),(15,.list 1 ((rowI (V1+V2)).map i64L)),(14,.list 1 ((rowI (U1+U2)).map i64L)),(6,.eptr 6 3 0 0),(4,.eptr 4 3 0 0),(3,.eptr 3 3 0 0),(2,.eptr 2 3 0 0)])) (fun j=>j<=V1+V2+1) (fun j=>V1+V2+1-j) 0 (az _) ?_;rintro j L6 hj;refine zg6 ?_;refine wl_if rfl ?_ ?_<;>intro aij aic
  ·have bo:j<=V1+V2:=J;have rC:=rowI_get bo;have jS:=chs_40 j hv;have gY:=ix_lt hi2 bo;rw [hm] at gY;have w5:=get_gd (W:=(dvV (U1+U2) (V1+V2) (mTop U1 V1 U2 V2 a b))) (o:=(mTop U1 V1 U2 V2 a b)) (m:=m+j);have pe:(dvV (U1+U2) (V1+V2) (mTop U1 V1 U2 V2 a b)) (m+j)=(mTop U1 V1 U2 V2 a b).getD (m+j) 0/((((chs (U1+U2) i:Nat):Int):Rat)*(((chs (V1+V2) j:Nat):Int):Rat)):=by rw [dvV,<-hm,ix_div bo,ix_mod bo]
   have esd:=set_gd (W:=(dvV (U1+U2) (V1+V2) (mTop U1 V1 U2 V2 a b))) (o:=(mTop U1 V1 U2 V2 a b)) (m:=m+j) J pe.symm;have rm:(gL (m+j) (dvV (U1+U2) (V1+V2) (mTop U1 V1 U2 V2 a b))++(mTop U1 V1 U2 V2 a b).drop (m+j)).length=((U1+U2+1)*(V1+V2+1)):=by rw [cZ,gL_len,fJ];omega
   have bG:=chsR_rl i hu;have ir:=chsR_rl j hv;have tK:=getD_rl J hrI (m+j);have xV:=rl_mul ((((chs (U1+U2) i:Nat):Int):Rat)) ((((chs (V1+V2) j:Nat):Int):Rat));refine zg15 ?_;refine cG ?_;refine st_pure rfl (.bin rfl rfl (mulE hm J)) ?_;refine zg1 ?_;refine st_pure rfl lg ?_;refine zg3 ?_;refine wl_regF 24 [22] ah ?_;refine zg8 ?_
   try simp only [t1,dfq,cJ,w5]
   refine zg4 ?_
   try simp only [t1,dfi,cJ,r9]
   refine cp am1 (c_RInt ((chs (U1+U2) i:Nat):Int) J J) ?_;refine zg4 ?_
   try simp only [t1,dfi,cJ,rC]
   refine cp am1 (c_RInt ((chs (V1+V2) j:Nat):Int) J J) ?_;refine cp am2 (c_RMul ((((chs (U1+U2) i:Nat):Int):Rat)) ((((chs (V1+V2) j:Nat):Int):Rat)) J) ?_;refine cp am2 (c_RQuo ((mTop U1 V1 U2 V2 a b).getD (m+j) 0) ((((chs (U1+U2) i:Nat):Int):Rat)*(((chs (V1+V2) j:Nat):Int):Rat)) J) ?_;refine zg13 ?_;exact mH
  obtain rfl:j=V1+V2+1:=J;refine zg11 ?_;exact nx2 (i+1) (m+(V1+V2+1)) ⟨J,by rw [cB];omega⟩ (he:=Weak.of_eq (put_id' (put_id' (put_id' (put_id' (put_id' (put_id' (put_id' (put_id' (mk_id' cl1) cl1) cl1) cl1) cl1) cl1) cl1) cl1) cl1))
 obtain rfl:i=U1+U2+1:=J;have hE:(gL m (dvV (U1+U2) (V1+V2) (mTop U1 V1 U2 V2 a b))++(mTop U1 V1 U2 V2 a b).drop m)=tmL U1 V1 U2 V2 a b:=by rw [<-hm,ep J,aS];rfl
 refine zg13 ?_;rw [<-hE];exact retCT [55] rfl rfl rfl rfl rfl T239 (.agg (.cons (.pure rfl) (.cons (.pure rfl) (.cons (imm_refm ratE rfl rfl (by rw [cZ,gL_len,fJ];omega)) .nil)))) rfl (.pure rfl)
end Go.Proofs.YtlipjipfpkbppaaGreat
namespace Go.Lg
theorem clo_kill (b:Nat) (f:FuncId) (caps:List LV) (h:pures caps=true):(LV.clo f caps).kill b=.clo f caps:=LV.kill_pure b _ (by simpa [LV.pure] using h)
end Go.Lg
namespace Go.Proofs.YtlipjipfpkbppaaGreat
open Go.Lg
def rwL (V:Nat) (c:List Rat) (i:Nat):List Rat:=(c.take ((i+1)*(V+1))).drop (i*(V+1))
theorem rw_le {U V i:Nat} {c:List Rat} (hc:c.length=(U+1)*(V+1)) (hi:i<=U):i*(V+1)+(V+1)<=c.length:=by
 rw [hc,<-cB];exact bw _ J
theorem rwL_len {U V i:Nat} {c:List Rat} (hc:c.length=(U+1)*(V+1)) (hi:i<=U):(rwL V c i).length=V+1:=by
 have:=rw_le hc hi;unfold rwL;rw [fJ,bZ,cB];omega
theorem rwL_mem {V i:Nat} {c:List Rat} {x:Rat} (h:x∈rwL V c i):x∈c:=List.mem_of_mem_take (List.mem_of_mem_drop h)
theorem rwL_get {U V i j:Nat} {c:List Rat} (hc:c.length=(U+1)*(V+1)) (hi:i<=U) (hj:j<=V):(rwL V c i).getD j 0=c.getD (i*(V+1)+j) 0:=by
 have:=rw_le hc hi;unfold rwL;rw [getD_dropR,ao,List.getElem?_take_of_lt (by rw [cB];omega),<-ao]
def rsL (g:List Rat->List Rat) (V:Nat) (c:List Rat):Nat->List Rat
 | 0=>[]
 | i+1=>rsL g V c i++g (rwL V c i)
theorem rsL_len {g:List Rat->List Rat} {V W U:Nat} {c:List Rat} (hg:∀ i,i<=U->(g (rwL V c i)).length=W+1):∀ n,n<=U+1->(rsL g V c n).length=n*(W+1)
 | 0,_=>by rw [jm];rfl
 | n+1,h=>by rw [rsL,cZ,rsL_len hg n J,hg n J,cB]
theorem swL_len (U V:Nat) (c:List Rat):(swL U V c).length=(V+1)*(U+1):=gL_len _ _
theorem sw_rl {U V R:Nat} {c:List Rat} (hR:1<=R) (h:∀ x∈c,rl x<=R):∀ x∈swL U V c,rl x<=R:=by
 intro x hx;obtain⟨i,_,rfl⟩:=bS.1 hx;exact getD_rl hR h _
def colT (U V:Nat) (c:List Rat) (v:Rat):List Rat:=rsL (fun p=>[evP p v]) V c (U+1)
def rowT (U V:Nat) (c:List Rat) (u:Rat):List Rat:=rsL (fun p=>[evP p u]) U (swL U V c) (V+1)
theorem colT_len (U V:Nat) (c:List Rat) (v:Rat):(colT U V c v).length=U+1:=by
 have:=rsL_len (g:=fun p=>[evP p v]) (V:=V) (W:=0) (U:=U) (c:=c) (fun i _=>rfl) (U+1) (an _);rw [colT,this];omega
theorem rowT_len (U V:Nat) (c:List Rat) (u:Rat):(rowT U V c u).length=V+1:=by
 have:=rsL_len (g:=fun p=>[evP p u]) (V:=U) (W:=0) (U:=V) (c:=swL U V c) (fun i _=>rfl) (V+1) (an _);rw [rowT,this];omega
def evT (U V:Nat) (c:List Rat) (u v:Rat):Rat:=evP (rowT U V c u) v
def dfU (U V:Nat) (c:List Rat):List Rat:=swL V (U-1) (rsL difP U (swL U V c) (V+1))
def dfV (U V:Nat) (c:List Rat):List Rat:=rsL difP V c (U+1)
theorem dif_W {p:List Rat} {U:Nat} (h:p.length=U+1):(difP p).length=U-1+1:=by rw [difP_len];split<;>omega
theorem rs_rl {g:List Rat->List Rat} {V U R:Nat} {c:List Rat} (h:∀ i,i<=U->∀ x∈g (rwL V c i),rl x<=R):∀ {n:Nat},n<=U+1->∀ x∈rsL g V c n,rl x<=R
 | 0,_,x,hx=>by cases hx
 | n+1,hn,x,hx=>by
  rcases eF.1 (show x∈rsL g V c n++g (rwL V c n) from hx) with h1 | h1
  ·exact rs_rl h J x h1
  exact h n J x h1
open H0 in
theorem c_row7 (U V:Nat) (c:List Rat) (hc:c.length=(U+1)*(V+1)) (hl:c.length<=1048576) (i:Nat) (hi:i<=U):CallP aa 274 [.agg [nI64 U,nI64 V,.list 3 (c.map ratL)],nI64 i] (.list 3 ((rwL V c i).map ratL)):=by
 have hU:U+1<=c.length:=oX;have hV:V+1<=c.length:=od;have ov:=net_pureN U V c;have et:=rw_le hc hi;have gV:(i+1)*(V+1)=i*(V+1)+(V+1):=cB i (V+1);refine fnP Tryz.func274 ?_;refine zg13 ?_;refine cG ?_;refine st_pure rfl rX ?_;refine zg1 ?_;refine cG ?_;refine zg2 ?_;refine cG ?_;refine st_pure rfl rX ?_;refine st_pure rfl (.sliceLb (a:=_) (h:=_) ratE rfl aV T32 rfl rfl J J) ?_;refine zg4 ?_;exact bf
namespace H_c_rows
theorem zSm {p q:Prop} (k:q) (e:p=q:=by simp only [sNF,ar,au,aq,frz_nil,dfq,clo_kill _ _ _ bN,dJ,a9,s9,Nat.add_sub_cancel,aA,kills_map ratE,ratL_kill,spL_kill,LV.kill,kills];exact rfl):p:=e.mpr k
theorem zSm1 {p q:Prop} (k:q) (e:p=q:=by simp only [sNF,ar,au,aq,frz_nil,dfq,clo_kill _ _ _ bN,dJ,a9,s9,Nat.add_sub_cancel,aA,kills_map ratE,ratL_kill,spL_kill,LV.kill,kills,s9];exact rfl):p:=e.mpr k
theorem nf1 {p:Prop} (h:p:=by first | (refine zSm1 ?_;exact rfl) | exact rfl):p:=h
end H_c_rows
open H_c_rows in
theorem c_rows (U V:Nat) (c:List Rat) (hc:c.length=(U+1)*(V+1)) (hl:c.length<=1048576) (f:Nat) (caps:List LV) (bN:pures caps=true) (hcs:∀ x∈caps,x.csize=1/\x.isAgg=false) (g:List Rat->List Rat) (W:Nat) (hf:∀ i,i<=U->CallP aa f ([.list 3 ((rwL V c i).map ratL)]++caps) (.list 3 ((g (rwL V c i)).map ratL))) (hg:∀ i,i<=U->(g (rwL V c i)).length=W+1) (hW:(U+1)*(W+1)<=1048576):CallP aa 233 [.agg [nI64 U,nI64 V,.list 3 (c.map ratL)],.clo f caps] (.agg [nI64 U,nI64 W,.list 3 ((rsL g V c (U+1)).map ratL)]):=by
 have hU:U+1<=c.length:=oX;have hV:V+1<=c.length:=od;have ov:=net_pureN U V c;have qq:W+1<=(U+1)*(W+1):=tk _ (mi U);refine fnP Tryz.func233 (ht:=(fun g=>LV.ren_pure g _ (net_pureN _ _ _))) ?_;have dJ:True:=trivial;have a9:True:=trivial;have s9:True:=trivial;refine zg19 ?_;refine cp am1 (c_shaped U V c hc hl) ?_;refine zg11 ?_;refine cG ?_;refine zg4 ?_;refine wl_weak ((Weak.cell 5 rfl (fun Z μ w cs h=>rep_net 35 3 _ _ Z μ w cs h)).trans (Weak.newB _ 35 3 rfl)) ?_;refine lp3 (fun(i m v:Nat) L=>(mS L [(2,⟨3,[.agg [nI64 U,nI64 V,.list 3 (c.map ratL)]],true⟩),(4,⟨3,[.agg [.v (.int .i64 0),.v (.int .i64 0),.v (.slice none 0 0)]],true⟩),(5,⟨3,[.agg [nI64 U,nI64 v,.ref 35 3 0 m]],true⟩),(35,⟨3,(rsL g V c i).map ratL,true⟩)] [(20,nI64 i),(19,nI64 (U+1)),(5,.eptr 5 3 0 0),(4,.eptr 4 3 0 0),(2,.eptr 2 3 0 0),(1,.clo f caps)])) (fun i m v=>i<=U+1/\i*(W+1)=m/\(i=0\/v=W)) (fun i m v=>U+1-i) 0 0 0 ⟨az _,jm _,.inl rfl⟩ ?_;rintro i m v L1 ⟨hi,hm,hv⟩;refine zg6 ?_;refine wl_if rfl ?_ ?_<;>intro pX x5
 ·have hi2:i<=U:=J;have vq:=hf i hi2;have s9:=hg i hi2;have eG:=rsL_len hg i hi;rw [hm] at eG;have tw:m+(W+1)<=(U+1)*(W+1):=by rw [<-hm,<-cB];exact bw _ J
  have dJ:(rsL g V c i).map ratL++(g (rwL V c i)).map ratL=(rsL g V c (i+1)).map ratL:=by rw [rsL,List.map_append]
  have a9:((rsL g V c i).map ratL).take m=(rsL g V c i).map ratL:=aH lN;refine zg15 ?_;refine cp am2 (c_row7 U V c hc hl i hi2) ?_;refine st_opc [] rfl rfl (.clo (f:=f) (cap:=caps) (args:=[.list 3 ((rwL V c i).map ratL)]) rfl (.cons im0 .nil) ⟨bN,hcs⟩ vq.1 ae (fun _ h=>by cases h)) (vq.2 _) ?_;refine zg7 ?_;refine fG ?_;refine zg1 ?_;refine st_store rfl (.store rfl rfl rfl rfl rfl rfl rfl T3 ne0) ?_;refine st_end nf1 ?_;refine zg5 ?_;refine st_store rfl (.app (news:=(g (rwL V c i)).map ratL) rfl rfl rfl rfl rfl lN (.inl rfl) ae aV oQ Z32a T32 rfl B32 (.inr (.inl rfl)) (by rw [aA,s9];omega) (by rw [aA,s9];omega) ae) ?_;refine zg10 ?_;exact nx3 (i+1) (m+(W+1)) W ⟨J,by rw [cB];omega,.inr rfl⟩
 obtain rfl:i=U+1:=J;obtain rfl:v=W:=J;have eG:=rsL_len hg (U+1) (an _);refine zg12 ?_;exact retC [35] rfl rfl rfl rfl rfl T239 (.agg (.cons (.pure rfl) (.cons (.pure rfl) (.cons (imm_refm ratE rfl rfl J) .nil))))
open H0 in
theorem c_columns (U V:Nat) (c:List Rat) (hc:c.length=(U+1)*(V+1)) (hl:c.length<=1048576) (eD:∀ x∈c,rl x<=274877906944) (f:Nat) (caps:List LV) (bN:pures caps=true) (hcs:∀ x∈caps,x.csize=1/\x.isAgg=false) (g:List Rat->List Rat) (W:Nat) (hf:∀ j,j<=V->CallP aa f ([.list 3 ((rwL U (swL U V c) j).map ratL)]++caps) (.list 3 ((g (rwL U (swL U V c) j)).map ratL))) (hg:∀ j,j<=V->(g (rwL U (swL U V c) j)).length=W+1) (hW:(V+1)*(W+1)<=1048576) (hgR:∀ x∈(rsL g U (swL U V c) (V+1)),rl x<=274877906944):CallP aa 231 [.agg [nI64 U,nI64 V,.list 3 (c.map ratL)],.clo f caps] (.agg [nI64 W,nI64 V,.list 3 ((swL V W (rsL g U (swL U V c) (V+1))).map ratL)]):=by
 have hU:U+1<=c.length:=oX;have hV:V+1<=c.length:=od;have ov:=net_pureN U V c;have bg:=swL_len U V c;have hsw:(swL U V c).length<=1048576:=by rw [bg,bz,<-hc];exact hl
 have aaG:=net_pureN V U (swL U V c);have eG:=rsL_len hg (V+1) (an _);have ahU:=net_pureN V W (rsL g U (swL U V c) (V+1));have eQ:LV.pure (.clo f caps)=true:=by simpa [LV.pure] using bN
 refine fnP Tryz.func231 (ht:=(fun g=>LV.ren_pure g _ (net_pureN _ _ _))) ?_;refine zg9 ?_;refine cp am1 (c_Swap U V c hc hl eD) ?_;refine zg1 ?_;refine cp am2 (c_rows V U (swL U V c) bg hsw f caps bN hcs g W hf hg hW) ?_;refine cp am1 (c_Swap V W (rsL g U (swL U V c) (V+1)) eG J hgR) ?_;refine zg4 ?_;exact td
open H0 in
theorem c_DiffU (U V:Nat) (c:List Rat) (hc:c.length=(U+1)*(V+1)) (hl:c.length<=1048576) (eD:∀ x∈c,rl x<=1073741824) (wH:U<=900):CallP aa 168 [.agg [nI64 U,nI64 V,.list 3 (c.map ratL)]] (.agg [nI64 (U-1),nI64 V,.list 3 ((dfU U V c).map ratL)]):=by
 have hU:U+1<=c.length:=oX;have hV:V+1<=c.length:=od;have ov:=net_pureN U V c;have bg:=swL_len U V c;have hsw:(swL U V c).length<=1048576:=by rw [bg,bz,<-hc];exact hl
 have aaG:=net_pureN (U-1) V (dfU U V c);have hsR:=sw_rl (U:=U) (V:=V) (R:=1073741824) ae eD;refine fnP Tryz.func168 (ht:=(fun g=>LV.ren_pure g _ (net_pureN _ _ _))) ?_;refine zg9 ?_;refine cp am2 (c_columns U V c hc hl (fun x hx=>aw (eD x hx) ae) 232 [] rfl (fun x hx=>by cases hx) difP (U-1) (fun j hj=>c_Diff _ (by rw [rwL_len bg hj];omega) (fun x hx=>hsR x (rwL_mem hx))) (fun j hj=>dif_W (rwL_len bg hj)) (by have:=fx (V+1) (show U-1+1<=U+1 by omega);omega) (rs_rl (U:=V) (fun j hj x hx=>aw (difP_rl (R:=1073741824) ae (by rw [rwL_len bg hj];omega) (fun x hx=>hsR x (rwL_mem hx)) x hx) ae) (an _))) ?_;refine zg4 ?_;exact td
theorem sw_mem {U V:Nat} {c:List Rat} (hc:c.length=(U+1)*(V+1)) {x:Rat} (hx:x∈swL U V c):x∈c:=by
 obtain⟨i,hi,rfl⟩:=bS.1 hx;have hi:=my.1 hi;have h1:i/(U+1)<V+1:=zR (by rw [bz];exact hi);have h2:=dO i (show U+1 > 0 by omega);exact getD_mem (by rw [hc];exact ix_lt J J)
theorem rs_mem {g:List Rat->List Rat} {V U:Nat} {c:List Rat} {Q:Rat->Prop} (h:∀ i,i<=U->∀ x∈g (rwL V c i),Q x):∀ {n:Nat},n<=U+1->∀ x∈rsL g V c n,Q x
 | 0,_,x,hx=>by cases hx
 | n+1,hn,x,hx=>by
  rcases eF.1 (show x∈rsL g V c n++g (rwL V c n) from hx) with h1 | h1
  ·exact rs_mem h J x h1
  exact h n J x h1
theorem rs_get {g:List Rat->List Rat} {V W U:Nat} {c:List Rat} (hg:∀ i,i<=U->(g (rwL V c i)).length=W+1) {i j:Nat} (hj:j<=W):∀ {n:Nat},n<=U+1->i<n->(rsL g V c n).getD (i*(W+1)+j) 0=(g (rwL V c i)).getD j 0
 | 0,_,hi=>by omega
 | n+1,hn,hi=>by
  have hl:=rsL_len hg n J;rw [rsL];rcases cu i n with h | h
  ·rw [getD_app1 _ _ _ (by rw [hl];have:=bw (W+1) (show i+1<=n from h);rw [cB] at this;omega)];exact rs_get hg hj J h
  obtain rfl:i=n:=J;rw [ao,uX (by rw [hl];omega),hl,Nat.add_sub_cancel_left,<-ao]
theorem sw_get {U V:Nat} {c:List Rat} {i j:Nat} (hi:i<=U) (hj:j<=V):(swL U V c).getD (j*(U+1)+i) 0=c.getD (i*(V+1)+j) 0:=by
 rw [swL,gL_get (ix_lt hj hi),swV,ix_div hi,ix_mod hi]
theorem inR_of {m M:Rat} {l:List Rat} (h:∀ x∈l,m<=x/\x<=M):inR m M l:=fun _ hi=>h _ (getD_mem hi)
theorem ev_in {m M t:Rat} {p:List Rat} (h0:0<=t) (h1:t<=1) (hl:0<p.length) (h:inR m M p):m<=evP p t/\evP p t<=M:=inR_lo h0 h1 _ p rfl h _ (by rw [loF_len];omega)
section
variable {m M a b:Rat} {U V:Nat} {c:List Rat} (hc:c.length=(U+1)*(V+1)) (h0:0<=a) (aW:a<=b) (hb:b<=1) (h:∀ x∈c,m<=x/\x<=M)
theorem evT_in {u v:Rat} (hc:c.length=(U+1)*(V+1)) (q8:0<=u) (jx:u<=1) (qR:0<=v) (kI:v<=1) (h:∀ x∈c,m<=x/\x<=M):m<=evT U V c u v/\evT U V c u v<=M :=
 ev_in qR kI (by rw [rowT_len];omega) (inR_of (rs_mem (U:=V) (fun i hi x hx=>by
  rw [bD.1 hx];exact ev_in q8 jx (by rw [rwL_len (swL_len U V c) hi];omega) (inR_of fun x hx=>h x (sw_mem hc (rwL_mem hx)))) (an _)))
end
namespace H_c_TBnd
theorem zSm {p q:Prop} (k:q) (e:p=q:=by simp only [sNF,ar,au,aq,dfq,yp,kills_map ratE,ratL_kill,spL_kill,LV.kill,kills];exact rfl):p:=e.mpr k
end H_c_TBnd
open H_c_TBnd in
theorem c_TBnd (u v:Int) (c:List Rat) (hl:c.length<=1048576) (dC:∀ x∈c,rl x<=137438953472):CallP aa 163 [.agg [iL u,iL v,.list 3 (c.map ratL)]] (spL (bndP c)):=by
 refine fnP Tryz.func163 ?_;have yp:True:=trivial;refine zg21 ?_;refine wl_weak (Weak.kill _ 1) ?_;refine lp1 (fun(k:Nat) L=>(mS L [(2,⟨6,[spL (0,0)],true⟩),(3,⟨6,[spL (bkP c k)],true⟩)] [(9,nI64 k),(8,nI64 c.length),(7,.list 3 (c.map ratL)),(3,.eptr 3 6 0 0),(2,.eptr 2 6 0 0)])) (fun k=>k<=c.length) (fun k=>c.length-k) 0 (az _) ?_;rintro k L1 hk;refine zg6 ?_;refine wl_if rfl ?_ ?_<;>intro fB iN
 ·have dk:k<c.length:=J;have bG:=getD_rl' (R:=137438953472) ae dC;have ir:=bG k;have tK:=bk_rl ae bG k;have xV:rl ((c.getD k 0,c.getD k 0):Rat × Rat).1<=137438953472:=ir;have hr5:rl ((c.getD k 0,c.getD k 0):Rat × Rat).2<=137438953472:=ir;have yp:bkP c (k+1)=hulP (if k=0 then(c.getD k 0,c.getD k 0) else bkP c k) (c.getD k 0,c.getD k 0):=rfl;refine zg21 ?_;refine wl_if rfl ?_ ?_<;>intro il fc
  ·have ew:k=0:=J;rw [if_pos ew] at yp;refine zg2 ?_;refine cp am1 (c_SPoint _ J) ?_;refine zg3 ?_;refine wl_regD 4 ah ?_;refine zg2 ?_;refine cp am1 (c_SPoint _ J) ?_;refine cp am2 (c_SHull _ _ J J) ?_;refine zg4 ?_;refine wl_regW (Weak.kill _ 5) ?_;refine zg4 ?_;exact qi
  have ew:¬ k=0:=J;rw [if_neg ew] at yp;refine zg2 ?_;refine wl_regD 4 ah ?_;refine zg2 ?_;refine cp am1 (c_SPoint _ J) ?_;refine cp am2 (c_SHull _ _ J J) ?_;refine zg4 ?_;refine wl_regW (Weak.kill _ 5) ?_;refine zg4 ?_;exact qi
 obtain rfl:k=c.length:=J;refine zg12 ?_;exact iW
theorem fE_swap (a b u v:Rat) (m:Nat):∀ (n:Nat) (f:Nat->Nat->Rat),fE a b n (fun i=>fE u v m (f i))=fE u v m (fun j=>fE a b n (fun i=>f i j))
 | 0,f=>rfl
 | n+1,f=>by
  rw [fE_step,fE_swap a b u v m n f,fE_swap a b u v m n (fun i=>f (i+1)),<-fE_lin];exact fE_congr _ _ _ _ _ fun j _=>(fE_step a b n fun i=>f i j).symm
theorem evT_swap {U V:Nat} {c:List Rat} (hc:c.length=(U+1)*(V+1)) (u v:Rat):evP (colT U V c v) u=evT U V c u v:=by
 have h1:∀ i,i<=U->(colT U V c v).getD i 0=evP (rwL V c i) v:=fun i hi=>by
  have:=rs_get (g:=fun p=>[evP p v]) (V:=V) (W:=0) (U:=U) (c:=c) (fun i hi=>rfl) (i:=i) (j:=0) (an _) (n:=U+1) (an _) J;rw [show i*(0+1)+0=i by omega] at this;rw [colT,this];rfl
 have h2:∀ j,j<=V->(rowT U V c u).getD j 0=evP (rwL U (swL U V c) j) u:=fun j hj=>by
  have:=rs_get (g:=fun p=>[evP p u]) (V:=U) (W:=0) (U:=V) (c:=swL U V c) (fun i hi=>rfl) (i:=j) (j:=0) (an _) (n:=V+1) (an _) J;rw [show j*(0+1)+0=j by omega] at this;rw [rowT,this];rfl
 rw [evT,ev_fE (by rw [colT_len];omega),ev_fE (by rw [rowT_len];omega),colT_len,rowT_len,df,df];rw [fE_congr _ _ U _ (fun i=>fE (1-v) v V (fun j=>c.getD (i*(V+1)+j) 0)) fun i hi=>?_,fE_swap]
 ·refine fE_congr _ _ _ _ _ fun j hj=>?_;rw [h2 j hj,ev_fE (by rw [rwL_len (swL_len U V c) hj];omega),rwL_len (swL_len U V c) hj,df];refine fE_congr _ _ _ _ _ fun i hi=>?_;rw [rwL_get (swL_len U V c) hj hi,sw_get hi hj]
 rw [h1 i hi,ev_fE kM,rwL_len hc hi,df];refine fE_congr _ _ _ _ _ fun j hj=>?_;rw [rwL_get hc hi hj]
def plL (p:List Rat):LV:=.list 3 (p.map ratL)
theorem plE:EncOK plL 1 false:=⟨fun _=>rfl,fun _=>rfl,fun p=>pure_lst ratE 3 p⟩
def upR (V:Nat) (c:List Rat) (v U:Nat):List Rat:=rsL (fun p=>upP p v) V c (U+1)
def upN (U V:Nat) (c:List Rat) (u v:Nat):List Rat:=swL v u (rsL (fun p=>upP p u) U (swL U v (upR V c v U)) (v+1))
theorem upR_len {U V v:Nat} {c:List Rat} (hc:c.length=(U+1)*(V+1)) (hV:V<=v):(upR V c v U).length=(U+1)*(v+1) :=
 rsL_len (W:=v) (U:=U) (fun i hi=>upP_len kM) _ (an _)
theorem upN_len (U V:Nat) (c:List Rat) (u v:Nat):(upN U V c u v).length=(u+1)*(v+1):=swL_len v u _
theorem upP_mem {p:List Rat} {n:Nat} (hl:p.length<=n+1) (h:upS p n):∀ x∈upP p n,rl x<=1073741824:=h.2 _ J
theorem rs_one (V:Nat) (c:List Rat):∀ n,rsL (fun p=>p) V c n=c.take (n*(V+1))
 | 0=>by simp [rsL]
 | n+1=>by
  rw [rsL,rs_one V c n,rwL,cB];have h:=kK (n*(V+1)) (c.take (n*(V+1)+(V+1)));rw [List.take_take,eP J] at h;exact h
theorem sw_sw {U V:Nat} {c:List Rat} (hc:c.length=(U+1)*(V+1)):swL V U (swL U V c)=c:=by
 refine ext0 (by rw [swL_len,hc]) fun k hk=>?_;rw [swL_len] at hk;have h1:k/(V+1)<U+1:=zR (by rw [bz];exact hk);have h2:=dO k (show V+1 > 0 by omega);have e:k=k/(V+1)*(V+1)+k % (V+1):=by rw [bz];exact(n7 k (V+1)).symm
 rw [e,sw_get (U:=V) (V:=U) (i:=k % (V+1)) (j:=k/(V+1)) J J,sw_get (U:=U) (V:=V) (i:=k/(V+1)) (j:=k % (V+1)) J J]
theorem rs_congr {g h:List Rat->List Rat} {V U:Nat} {c:List Rat} (e:∀ i,i<=U->g (rwL V c i)=h (rwL V c i)):∀ {n},n<=U+1->rsL g V c n=rsL h V c n
 | 0,_=>rfl
 | n+1,hn=>by rw [rsL,rsL,rs_congr e J,e n J]
theorem upN_self {U V:Nat} {c:List Rat} (hc:c.length=(U+1)*(V+1)):upN U V c U V=c:=by
 have h1:upR V c V U=c:=by
  rw [upR,rs_congr (h:=fun p=>p) (fun i hi=>upP_self kM) (an _),rs_one,aH J]
 rw [upN,h1,rs_congr (h:=fun p=>p) (fun i hi=>upP_self (by rw [rwL_len (swL_len U V c) hi];omega)) (an _),rs_one,aH (by rw [swL_len];omega),sw_sw hc]
open H0 in
theorem c_DiffV (U V:Nat) (c:List Rat) (hc:c.length=(U+1)*(V+1)) (hl:c.length<=1048576) (eD:∀ x∈c,rl x<=1073741824) (sf:V<=900):CallP aa 169 [.agg [nI64 U,nI64 V,.list 3 (c.map ratL)]] (.agg [nI64 U,nI64 (V-1),.list 3 ((dfV U V c).map ratL)]):=by
 have hU:U+1<=c.length:=oX;have hV:V+1<=c.length:=od;have ov:=net_pureN U V c;have aaG:=net_pureN U (V-1) (dfV U V c);refine fnP Tryz.func169 (ht:=(fun g=>LV.ren_pure g _ (net_pureN _ _ _))) ?_;refine zg9 ?_;refine cp am2 (c_rows U V c hc hl 232 [] rfl (fun x hx=>by cases hx) difP (V-1) (fun i hi=>c_Diff _ kM (fun x hx=>eD x (rwL_mem hx))) (fun i hi=>dif_W (rwL_len hc hi)) (by have:=fx (U+1) (show V-1+1<=V+1 by omega);omega)) ?_;refine zg4 ?_;exact td
open H0 in
theorem c_up11 (p:List Rat) (d:Nat) (rJ:0<p.length) (hd:d<=40) (qX:p.length<=d+1) (kE:upS p d):CallP aa 292 [.list 3 (p.map ratL),.boxp (nI64 d)] (.list 3 ((upP p d).map ratL)):=by
 refine fnP Tryz.func292 ?_;refine zg9 ?_;refine cp am2 (c_Elev p d rJ hd qX kE) ?_;refine zg14 ?_;exact bf
open H0 in
theorem c_up1 (d:Nat):CallP aa 291 [nI64 d] (.clo 292 [.boxp (nI64 d)]):=by
 refine fnP Tryz.func291 (ht:=(fun g=>by simp [LV.ren,rens])) ?_;refine zg8 ?_;refine st_opc [1] rfl rfl (.mk (caps:=[.boxp (nI64 d)]) (.cons (.eptr rfl rfl rfl rfl (at_self (nI64 d) rfl) rfl rfl) .nil) (fun x hx=>by rw [bD.1 hx];exact⟨rfl,rfl⟩)) rfl ?_;refine zg4 ?_;exact dS
namespace H_c_up7
theorem zSm {p q:Prop} (k:q) (e:p=q:=by simp only [sNF,ar,au,aq,frz_nil,dfq,kills_map ratE,ratL_kill,spL_kill,LV.kill,kills];exact rfl):p:=e.mpr k
end H_c_up7
open H_c_up7 in
theorem c_up7 (U V:Nat) (c:List Rat) (hc:c.length=(U+1)*(V+1)) (hl:c.length<=1048576) (eD:∀ x∈c,rl x<=274877906944) (u v:Nat) (hUu:U<=u) (hVv:V<=v) (hu:u<=40) (hv:v<=40) (h1:∀ i,i<=U->upS (rwL V c i) v) (h2:∀ j,j<=v->upS (rwL U (swL U v (upR V c v U)) j) u):CallP aa 284 [.agg [nI64 U,nI64 V,.list 3 (c.map ratL)],nI64 u,nI64 v] (.agg [nI64 u,nI64 v,.list 3 ((upN U V c u v).map ratL)]):=by
 have hU:U+1<=c.length:=oX;have hV:V+1<=c.length:=od;have ov:=net_pureN U V c;have en:=upR_len hc hVv;have acC:(upR V c v U).length<=1048576:=by rw [en];exact aw (cx (show U+1<=41 by omega) (show v+1<=41 by omega)) ae
 have eW:=net_pureN U v (upR V c v U);have cQ:=c_rows U V c hc hl 292 [.boxp (nI64 v)] rfl (fun x hx=>by rw [bD.1 hx];exact⟨rfl,rfl⟩) (fun p=>upP p v) v (fun i hi=>c_up11 _ v kM hv kM (h1 i hi)) (fun i hi=>upP_len kM) (by rw [<-en];exact acC);have ja:∀ x∈(upR V c v U),rl x<=1073741824:=rs_mem (U:=U) (fun i hi=>upP_mem kM (h1 i hi)) (an _);have bg:=swL_len U v (upR V c v U);have hR2:=c_columns U v (upR V c v U) en acC (fun x hx=>aw (ja x hx) ae) 292 [.boxp (nI64 u)] rfl (fun x hx=>by rw [bD.1 hx];exact⟨rfl,rfl⟩) (fun p=>upP p u) u (fun j hj=>c_up11 _ u (by rw [rwL_len bg hj];omega) hu (by rw [rwL_len bg hj];omega) (h2 j hj)) (fun j hj=>upP_len (by rw [rwL_len bg hj];omega)) (by exact aw (cx (show v+1<=41 by omega) (show u+1<=41 by omega)) ae) (rs_mem (U:=v) (fun j hj x hx=>aw (upP_mem (by rw [rwL_len bg hj];omega) (h2 j hj) x hx) ae) (an _));refine fnP Tryz.func284 (ht:=(fun g=>LV.ren_pure g _ (net_pureN _ _ _))) ?_;refine zg12 ?_;refine wl_regD 9 ah ?_;refine zg3 ?_;refine st_opc [] rfl rfl (.clo (f:=291) (cap:=[]) (args:=[nI64 v]) rfl (.cons im0 .nil) ⟨rfl,fun _ h=>by cases h⟩ (c_up1 v).1 ae (fun _ h=>by cases h)) ((c_up1 v).2 _) ?_;refine st_callP rfl (.cons (.pure ov) (.cons (.pure rfl) .nil)) cQ ?_;refine zg2 ?_
 refine st_opc [] rfl rfl (.clo (f:=291) (cap:=[]) (args:=[nI64 u]) rfl (.cons im0 .nil) ⟨rfl,fun _ h=>by cases h⟩ (c_up1 u).1 ae (fun _ h=>by cases h)) ((c_up1 u).2 _) ?_;refine st_callP rfl (.cons (.pure eW) (.cons (.pure rfl) .nil)) hR2 ?_;refine zg4 ?_;exact td
theorem mx_u {a b u:Nat} (h1:a<=u) (h2:b<=u) (h:a=u\/b=u):(if ((b:Nat):Int) > ((a:Nat):Int) then((b:Nat):Int) else((a:Nat):Int))=((u:Nat):Int):=by split<;>omega
theorem mnE (a:Int):(if a<a then a else a)=a:=by split<;>rfl
structure upH (U V:Nat) (c:List Rat) (u v:Nat):Prop where
 hc:c.length=(U+1)*(V+1)
 hl:c.length<=1048576
 hR:∀ x∈c,rl x<=274877906944
 hU:U<=u
 hV:V<=v
 hu:u<=40
 hv:v<=40
 h1:∀ i,i<=U->upS (rwL V c i) v
 h2:∀ j,j<=v->upS (rwL U (swL U v (upR V c v U)) j) u
theorem upH.rl {U V u v:Nat} {c:List Rat} (h:upH U V c u v):∀ x∈upN U V c u v,Go.Lg.rl x<=1073741824 :=
 sw_rl ae fun x hx=>rs_mem (U:=v) (V:=U) (c:=swL U v (upR V c v U)) (n:=v+1) (fun j hj y hy=>upP_mem (by rw [rwL_len (swL_len U v _) hj];have:=h.hU;omega) (h.h2 j hj) y hy) (an _) x hx
theorem upH.g {U V u v:Nat} {c:List Rat} (h:upH U V c u v) (k:Nat):Go.Lg.rl ((upN U V c u v).getD k 0)<=1073741824:=getD_rl ae h.rl k
theorem upH.n {U V u v:Nat} {c:List Rat} (h:upH U V c u v):(u+1)*(v+1)<=1681 :=
 aw (cx (show u+1<=41 by have:=h.hu;omega) (show v+1<=41 by have:=h.hv;omega)) ae
namespace H_c_both7
theorem zSm {p q:Prop} (k:q) (e:p=q:=by simp only [sNF,ar,au,aq,frz_nil,dfq,tw,hmv,mnE,eg,take_gL,elp,elq,bA,aQ,bc,aR,bh,aZ,aS,kills_map ratE,ratL_kill,spL_kill,LV.kill,kills];exact rfl):p:=e.mpr k
end H_c_both7
open H_c_both7 in
theorem c_both7 (f:Nat) (g:Rat->Rat->Rat) (U1 V1 U2 V2:Nat) (a b:List Rat) (u v:Nat) (ha:upH U1 V1 a u v) (hb:upH U2 V2 b u v) (hu:U1=u\/U2=u) (hv:V1=v\/V2=v) (hf:∀ i,CallP aa f [ratL ((upN U1 V1 a u v).getD i 0),ratL ((upN U2 V2 b u v).getD i 0)] (ratL (g ((upN U1 V1 a u v).getD i 0) ((upN U2 V2 b u v).getD i 0)))):CallP aa 270 [.agg [nI64 U1,nI64 V1,.list 3 (a.map ratL)],.agg [nI64 U2,nI64 V2,.list 3 (b.map ratL)],.clo f []] (.agg [nI64 u,nI64 v,.list 3 ((zipG g (upN U1 V1 a u v) (upN U2 V2 b u v)).map ratL)]):=by
 have tw:=mx_u ha.hU hb.hU hu;have hmv:=mx_u ha.hV hb.hV hv;have elp:(upN U1 V1 a u v).length=(u+1)*(v+1):=upN_len _ _ _ _ _;have elq:(upN U2 V2 b u v).length=(u+1)*(v+1):=upN_len _ _ _ _ _;have hn:=ha.n;have eW:=net_pureN U1 V1 a;have fy:=net_pureN U2 V2 b;have nQ:=net_pureN u v (upN U1 V1 a u v);have hn4:=net_pureN u v (upN U2 V2 b u v);refine fnP Tryz.func270 (ht:=(fun g=>LV.ren_pure g _ (net_pureN _ _ _))) ?_;have eg:True:=trivial;have elp:True:=trivial;have elq:True:=trivial;refine zg8 ?_;refine wl_regD 12 ah ?_;refine zg15 ?_;refine wl_regD 8 ah ?_;refine zg3 ?_;refine cp am3 (c_up7 U1 V1 a ha.hc ha.hl ha.hR u v ha.hU ha.hV ha.hu ha.hv ha.h1 ha.h2) ?_;refine zg3 ?_;refine cp am3 (c_up7 U2 V2 b hb.hc hb.hl hb.hR u v hb.hU hb.hV hb.hu hb.hv hb.h1 hb.h2) ?_;refine zg27 ?_;refine wl_weak ((Weak.cell 9 rfl (fun Z μ w cs h=>rep_net 57 3 _ _ Z μ w cs h)).trans (Weak.newB _ 57 3 rfl)) ?_
 refine lp1 (fun(i:Nat) L=>(mS L [(3,⟨3,[.agg [nI64 u,nI64 v,.list 3 ((upN U1 V1 a u v).map ratL)]],true⟩),(4,⟨3,[.agg [nI64 u,nI64 v,.list 3 ((upN U2 V2 b u v).map ratL)]],true⟩),(6,⟨3,[.agg [.v (.int .i64 0),.v (.int .i64 0),.v (.slice none 0 0)]],true⟩),(9,⟨3,[.agg [nI64 u,nI64 v,.ref 57 3 0 i]],true⟩),(57,⟨3,(gL i (fun k=>g ((upN U1 V1 a u v).getD k 0) ((upN U2 V2 b u v).getD k 0))).map ratL,true⟩)] [(39,nI64 i),(38,nI64 ((u+1)*(v+1))),(9,.eptr 9 3 0 0),(6,.eptr 6 3 0 0),(4,.eptr 4 3 0 0),(3,.eptr 3 3 0 0),(2,.clo f [])])) (fun i=>i<=(u+1)*(v+1)) (fun i=>(u+1)*(v+1)-i) 0 (az _) ?_;rintro i L1 hi;refine zg6 ?_;refine wl_if rfl ?_ ?_<;>intro xK lD
 ·have hi2:i<(u+1)*(v+1):=J;have vq:=hf i;have rm:=gL_len i (fun k=>g ((upN U1 V1 a u v).getD k 0) ((upN U2 V2 b u v).getD k 0));have eg:gL (i+1) (fun k=>g ((upN U1 V1 a u v).getD k 0) ((upN U2 V2 b u v).getD k 0))=gL i (fun k=>g ((upN U1 V1 a u v).getD k 0) ((upN U2 V2 b u v).getD k 0))++[g ((upN U1 V1 a u v).getD i 0) ((upN U2 V2 b u v).getD i 0)]:=gL_succ _ _;refine zg10 ?_;refine wl_regD 15 ah ?_;refine zg13 ?_;refine st_opc [] rfl rfl (.clo (f:=f) (cap:=[]) (args:=[ratL ((upN U1 V1 a u v).getD i 0),ratL ((upN U2 V2 b u v).getD i 0)]) rfl (.cons im0 (.cons im0 .nil)) ⟨rfl,fun _ h=>by cases h⟩ vq.1 ae (fun _ h=>by cases h)) (vq.2 _) ?_;refine zg1 ?_;refine st_store rfl (.app (news:=[ratL (g ((upN U1 V1 a u v).getD i 0) ((upN U2 V2 b u v).getD i 0))]) rfl rfl rfl rfl rfl (by simp [gL_len]) (.inl rfl) ae aV aV Z32a T32 rfl B32 (.inl ⟨56,0,_,rfl,by decide,rfl,rfl,by simp,rfl,by simp [pures,ratE.pure]⟩) al al ae) ?_;refine zg5 ?_;refine wl_regW (Weak.kill _ 56) ?_;refine bq ?_;exact cq
 obtain rfl:i=(u+1)*(v+1):=J;have hE:gL ((u+1)*(v+1)) (fun k=>g ((upN U1 V1 a u v).getD k 0) ((upN U2 V2 b u v).getD k 0))=(zipG g (upN U1 V1 a u v) (upN U2 V2 b u v)):=by rw [zipG,upN_len];rfl
 refine zg12 ?_;rw [<-hE];exact retC [57] rfl rfl rfl rfl rfl T239 (.agg (.cons (.pure rfl) (.cons (.pure rfl) (.cons (imm_refm ratE rfl rfl (by rw [gL_len])) .nil))))
open H0 in
theorem c_TSub (U1 V1 U2 V2:Nat) (a b:List Rat) (u v:Nat) (ha:upH U1 V1 a u v) (hb:upH U2 V2 b u v) (hu:U1=u\/U2=u) (hv:V1=v\/V2=v):CallP aa 229 [.agg [nI64 U1,nI64 V1,.list 3 (a.map ratL)],.agg [nI64 U2,nI64 V2,.list 3 (b.map ratL)]] (.agg [nI64 u,nI64 v,.list 3 ((zipG (·-·) (upN U1 V1 a u v) (upN U2 V2 b u v)).map ratL)]):=by
 have eW:=net_pureN U1 V1 a;have fy:=net_pureN U2 V2 b;refine fnP Tryz.func229 (ht:=(fun g=>LV.ren_pure g _ (net_pureN _ _ _))) ?_;refine zg11 ?_;refine cp am3 (c_both7 184 (·-·) U1 V1 U2 V2 a b u v ha hb hu hv (fun i=>c_RSub _ _ (by have:=ha.g i;have:=hb.g i;omega))) ?_;refine zg4 ?_;exact td
theorem sm_comm:∀ (n m:Nat) (f:Nat->Nat->Rat),sm n (fun i=>sm m (f i))=sm m (fun j=>sm n (fun i=>f i j))
 | 0,m,f=>(sm_zero m _ (fun _ _=>rfl)).symm
 | n+1,m,f=>by rw [sm,sm_comm n m f,<-sm_add];rfl
def sx (U V:Nat) (c:List Rat) (i j:Nat):Rat:=cR U i*sq (rwL V c i) j
theorem wt_sx {U V i j:Nat} {c:List Rat} (hc:c.length=(U+1)*(V+1)) (hi:i<=U) (hj:j<=V):(wtL U V c).getD (i*(V+1)+j) 0=sx U V c i j:=by
 rw [wtL,gL_get (ix_lt hi hj),wtV,ix_div hj,ix_mod hj,sx,sq,rwL_len hc hi,df,rwL_get hc hi hj,lU];rfl
theorem sx_gt {U V i j:Nat} {c:List Rat} (hc:c.length=(U+1)*(V+1)) (hi:i<=U) (hj:V<j):sx U V c i j=0:=by
 rw [sx,sq_gt kM,pY]
theorem ix_inj {W i j r s:Nat} (hj:j<=W) (hs:s<=W) (h:i*(W+1)+j=r*(W+1)+s):i=r/\j=s:=by
 have h1:=congrArg (·/(W+1)) h;have h2:=congrArg (· % (W+1)) h;simp only [ix_div hj,ix_div hs,ix_mod hj,ix_mod hs] at h1 h2;exact⟨h1,h2⟩
section
variable {V1 V2 W U U2 r s:Nat} {x y o:List Rat} (i j k:Nat)
theorem mL_len:∀ l (o:List Rat),(mL V1 V2 W x y i j k l o).length=o.length
 | 0,o=>rfl
 | l+1,o=>by rw [mL,uW,mL_len l o]
theorem mK_len:∀ k (o:List Rat),(mK V1 V2 W x y i j k o).length=o.length
 | 0,o=>rfl
 | k+1,o=>by rw [mK,mL_len,mK_len k o]
theorem mJ_len:∀ j (o:List Rat),(mJ V1 V2 W U2 x y i j o).length=o.length
 | 0,o=>rfl
 | j+1,o=>by rw [mJ,mK_len,mJ_len j o]
theorem mI_len:∀ i (o:List Rat),(mI V1 V2 W U2 x y i o).length=o.length
 | 0,o=>rfl
 | i+1,o=>by rw [mI,mJ_len,mI_len i o]
theorem mL_get (hik:i+k<=U) (ho:o.length=(U+1)*(W+1)):∀ l,j+l<=W+1->∀ r s,s<=W->(mL V1 V2 W x y i j k l o).getD (r*(W+1)+s) 0=o.getD (r*(W+1)+s) 0+(if i+k=r/\j<=s/\s<j+l then x.getD (i*(V1+1)+j) 0*y.getD (k*(V2+1)+(s-j)) 0 else 0)
 | 0,_,r,s,hs=>by rw [mL,if_neg J,fw]
 | l+1,h,r,s,hs=>by
  have gY:=ix_lt (U:=U) (V:=W) (i:=i+k) (j:=j+l) J J;have ih:=mL_get hik ho l J;rw [mL,set_get0 _ _ _ _ (by rw [mL_len,ho];omega)];by_cases h1:(i+k)*(W+1)+j+l=r*(W+1)+s
  ·obtain⟨h2,h3⟩:=ix_inj (W:=W) (i:=i+k) (j:=j+l) (r:=r) (s:=s) J hs J;rw [if_pos h1,h1,ih r s hs,if_neg J,if_pos J,show s-j=l by omega];grind
  rw [if_neg h1,ih r s hs];have h4:¬ (i+k=r/\j+l=s):=fun⟨e1,e2⟩=>h1 (by rw [<-e1,<-e2];omega);by_cases h2:i+k=r/\j<=s/\s<j+l
  ·rw [if_pos h2,if_pos J]
  rw [if_neg h2,if_neg J]
theorem mK_get (hs:s<=W) (hj:j+V2<=W) (ho:o.length=(U+1)*(W+1)):∀ k,i+k<=U+1->(mK V1 V2 W x y i j k o).getD (r*(W+1)+s) 0=o.getD (r*(W+1)+s) 0+sm k (fun k=>if i+k=r/\j<=s/\s<j+(V2+1) then x.getD (i*(V1+1)+j) 0*y.getD (k*(V2+1)+(s-j)) 0 else 0)
 | 0,_=>by rw [mK,sm,fw]
 | k+1,h=>by
  rw [mK,mL_get (U:=U) i j k J (by rw [mK_len];exact ho) _ J r s hs,mK_get hs hj ho k J,aap];rfl
theorem mJ_get (hs:s<=W) (hV:V1+V2<=W) (ho:o.length=(U+1)*(W+1)) (hi:i+U2<=U):∀ j,j<=V1+1->(mJ V1 V2 W U2 x y i j o).getD (r*(W+1)+s) 0=o.getD (r*(W+1)+s) 0+sm j (fun j=>sm (U2+1) fun k=>if i+k=r/\j<=s/\s<j+(V2+1) then x.getD (i*(V1+1)+j) 0*y.getD (k*(V2+1)+(s-j)) 0 else 0)
 | 0,_=>by rw [mJ,sm,fw]
 | j+1,h=>by
  rw [mJ,mK_get (U:=U) i j hs J (by rw [mJ_len];exact ho) _ J,mJ_get hs hV ho hi j J,aap];rfl
theorem mI_get {U1:Nat} (hs:s<=W) (hV:V1+V2<=W) (ho:o.length=(U+1)*(W+1)) (hU:U1+U2<=U):∀ i,i<=U1+1->(mI V1 V2 W U2 x y i o).getD (r*(W+1)+s) 0=o.getD (r*(W+1)+s) 0+sm i (fun i=>sm (V1+1) fun j=>sm (U2+1) fun k=>if i+k=r/\j<=s/\s<j+(V2+1) then x.getD (i*(V1+1)+j) 0*y.getD (k*(V2+1)+(s-j)) 0 else 0)
 | 0,_=>by rw [mI,sm,fw]
 | i+1,h=>by
  rw [mI,mJ_get (U:=U) i hs hV (by rw [mI_len];exact ho) J _ (an _),mI_get hs hV ho hU i J,aap];rfl
end
def tpS (U1 V1 U2 V2:Nat) (a b:List Rat) (r s:Nat):Rat:=sm (U1+1) fun i=>sm (U2+1) fun k=>if i+k=r then cf (sx U1 V1 a i) (sx U2 V2 b k) s else 0
theorem top_get {U1 V1 U2 V2 r s:Nat} {a b:List Rat} (ha:a.length=(U1+1)*(V1+1)) (hb:b.length=(U2+1)*(V2+1)) (hs:s<=V1+V2):(mTop U1 V1 U2 V2 a b).getD (r*(V1+V2+1)+s) 0=tpS U1 V1 U2 V2 a b r s:=by
 rw [mTop,mI_get (U:=U1+U2) (U1:=U1) hs (an _) aj (an _) _ (an _),repl_get,qG];refine sm_congr _ _ _ fun i hi=>?_;rw [sm_comm];refine sm_congr _ _ _ fun k hk=>?_;by_cases h:i+k=r
 ·rw [if_pos h];have hG1:∀ j,V1+1<=j->(fun j=>if j<=s then sx U1 V1 a i j*sx U2 V2 b k (s-j) else 0) j=0:=fun j hj=>by
   show (if j<=s then sx U1 V1 a i j*sx U2 V2 b k (s-j) else 0)=0;split
   ·rw [sx_gt ha J J,fZ]
   rfl
  have hG2:∀ j,s+1<=j->(fun j=>if j<=s then sx U1 V1 a i j*sx U2 V2 b k (s-j) else 0) j=0:=fun j hj=>if_neg J;have e:cf (sx U1 V1 a i) (sx U2 V2 b k) s=sm (V1+1) (fun j=>if j<=s then sx U1 V1 a i j*sx U2 V2 b k (s-j) else 0):=by
   rw [<-sm_ext _ _ hG1 (s+1),dM,sm_ext _ _ hG2];exact sm_congr _ _ _ fun j hj=>(if_pos J).symm
  rw [e];refine sm_congr _ _ _ fun j hj=>?_;by_cases h2:j<=s
  ·rw [if_pos h2];by_cases h3:s<j+(V2+1)
   ·rw [if_pos ⟨h,h2,h3⟩,wt_sx ha J J,wt_sx hb J J]
   rw [if_neg J,sx_gt hb J J,pY]
  rw [if_neg h2,if_neg J]
 rw [if_neg h];exact sm_zero _ _ fun j _=>if_neg J
theorem tm_len (U1 V1 U2 V2:Nat) (a b:List Rat):(tmL U1 V1 U2 V2 a b).length=(U1+U2+1)*(V1+V2+1):=gL_len _ _
theorem tm_get {U1 V1 U2 V2 r s:Nat} {a b:List Rat} (ha:a.length=(U1+1)*(V1+1)) (hb:b.length=(U2+1)*(V2+1)) (hr:r<=U1+U2) (hs:s<=V1+V2):(tmL U1 V1 U2 V2 a b).getD (r*(V1+V2+1)+s) 0=tpS U1 V1 U2 V2 a b r s/(cR (U1+U2) r*cR (V1+V2) s):=by
 rw [tmL,gL_get (ix_lt hr hs),dvV,ix_div hs,ix_mod hs,top_get ha hb hs];rfl
section
variable {U1 V1 U2 V2 i k:Nat} {a b:List Rat} (ha:a.length=(U1+1)*(V1+1)) (hb:b.length=(U2+1)*(V2+1)) (hi:i<=U1) (hk:k<=U2)
end
section
variable {U1 V1 U2 V2 R:Nat} {a b:List Rat}
end
theorem gH_congr (a b:Rat):∀ (n:Nat) (f g:Nat->Rat),(∀ i,i<=n->f i=g i)->gH a b n f=gH a b n g
 | 0,f,g,h=>h 0 (an _)
 | n+1,f,g,h=>by rw [gH,gH,h 0 J,gH_congr a b n _ _ (fun i hi=>h (i+1) J)]
theorem gH_0 (a b:Rat) (n:Nat):gH a b n (fun _=>0)=0:=by
 have:=gH_mul a b 0 n (fun _=>0);simp only [fZ] at this;exact this
theorem gH_sm (a b:Rat) (n:Nat) (f:Nat->Nat->Rat):∀ m,gH a b n (fun k=>sm m (fun i=>f i k))=sm m (fun i=>gH a b n (f i))
 | 0=>gH_0 a b n
 | m+1=>by
  rw [sm,<-gH_sm a b n f m,<-gH_add];rfl
theorem gH_ite (a b:Rat) (n:Nat) (p:Prop) [Decidable p] (f:Nat->Rat):gH a b n (fun k=>if p then f k else 0)=if p then gH a b n f else 0:=by
 by_cases h:p
 ·simp only [if_pos h]
 simp only [if_neg h];exact gH_0 a b n
theorem rw_ev {U V i:Nat} {c:List Rat} (hc:c.length=(U+1)*(V+1)) (hi:i<=U) (v:Rat):cR U i*evP (rwL V c i) v=gH (1-v) v V (sx U V c i):=by
 rw [ev_gH kM,rwL_len hc hi,df,<-gH_mul];rfl
theorem col_get {U V i:Nat} {c:List Rat} (hi:i<=U) (v:Rat):(colT U V c v).getD i 0=evP (rwL V c i) v:=by
 have:=rs_get (g:=fun p=>[evP p v]) (V:=V) (W:=0) (U:=U) (c:=c) (fun i hi=>rfl) (i:=i) (j:=0) (an _) (n:=U+1) (an _) J;rw [show i*(0+1)+0=i by omega] at this;rw [colT,this];rfl
theorem row_get {U V j:Nat} {c:List Rat} (hj:j<=V) (u:Rat):(rowT U V c u).getD j 0=fE (1-u) u U (fun i=>c.getD (i*(V+1)+j) 0):=by
 have:=rs_get (g:=fun p=>[evP p u]) (V:=U) (W:=0) (U:=V) (c:=swL U V c) (fun i hi=>rfl) (i:=j) (j:=0) (an _) (n:=V+1) (an _) J;rw [show j*(0+1)+0=j by omega] at this;rw [rowT,this];show evP (rwL U (swL U V c) j) u=_;rw [ev_fE (by rw [rwL_len (swL_len U V c) hj];omega),rwL_len (swL_len U V c) hj,df];exact fE_congr _ _ _ _ _ fun i hi=>by rw [rwL_get (swL_len U V c) hj hi,sw_get hi hj]
theorem col_fE {U V i:Nat} {c:List Rat} (hc:c.length=(U+1)*(V+1)) (hi:i<=U) (v:Rat):(colT U V c v).getD i 0=fE (1-v) v V (fun j=>c.getD (i*(V+1)+j) 0):=by
 rw [col_get hi,ev_fE kM,rwL_len hc hi,df];exact fE_congr _ _ _ _ _ fun j hj=>rwL_get hc hi hj
theorem ev_col {U V:Nat} {c:List Rat} (hc:c.length=(U+1)*(V+1)) (u v:Rat):evP (colT U V c v) u=gH (1-u) u U (fun i=>gH (1-v) v V (sx U V c i)):=by
 rw [ev_gH (by rw [colT_len];omega),colT_len,df];refine gH_congr _ _ _ _ _ fun i hi=>?_;rw [sq,colT_len,df,col_get hi,rw_ev hc hi]
theorem sx_gtU {U V i:Nat} (c:List Rat) (hi:U<i):sx U V c i=fun _=>0:=by
 funext j;rw [sx,show cR U i=0 from by unfold cR;rw [chs_gt hi];rfl,fZ]
theorem sum_cf {n m r:Nat} {F G:Nat->Rat} (hF:∀ i,n<i->F i=0) (hG:∀ i,m<i->G i=0):sm (n+1) (fun i=>sm (m+1) fun k=>if i+k=r then F i*G k else 0)=cf F G r:=by
 have h1:∀ i,sm (m+1) (fun k=>if i+k=r then F i*G k else 0)=if i<=r then F i*G (r-i) else 0:=fun i=>by
  by_cases h:i<=r
  ·rw [if_pos h];have e:∀ M,sm M (fun k=>if i+k=r then F i*G k else 0)=if r-i<M then F i*G (r-i) else 0:=fun M=>by
    induction M with
    | zero=>rfl
    | succ M ih =>
     rw [sm,ih];by_cases h2:i+M=r
     ·rw [if_neg J,if_pos h2,if_pos J,qG,show r-i=M by omega]
     rw [if_neg h2,fw];by_cases h3:r-i<M
     ·rw [if_pos h3,if_pos J]
     rw [if_neg h3,if_neg J]
   rw [e];by_cases h2:r-i<m+1
   ·rw [if_pos h2]
   rw [if_neg h2,hG _ J,pY]
  rw [if_neg h];exact sm_zero _ _ fun k _=>if_neg J
 rw [sm_congr _ _ _ fun i _=>h1 i];have h2:∀ i,n+1<=i->(fun i=>if i<=r then F i*G (r-i) else 0) i=0:=fun i hi=>by
  show (if i<=r then F i*G (r-i) else 0)=0;rw [hF i J,fZ];split<;>rfl
 have h3:∀ i,r+1<=i->(fun i=>if i<=r then F i*G (r-i) else 0) i=0:=fun i hi=>if_neg J;rw [<-sm_ext _ _ h2 (r+1),dM,sm_ext _ _ h3];exact sm_congr _ _ _ fun i hi=>if_pos J
theorem evT_tm {U1 V1 U2 V2:Nat} {a b:List Rat} (ha:a.length=(U1+1)*(V1+1)) (hb:b.length=(U2+1)*(V2+1)) (u v:Rat):evT (U1+U2) (V1+V2) (tmL U1 V1 U2 V2 a b) u v=evT U1 V1 a u v*evT U2 V2 b u v:=by
 have ht:=tm_len U1 V1 U2 V2 a b;rw [<-evT_swap ht,<-evT_swap ha,<-evT_swap hb,ev_col ht,ev_col ha,ev_col hb];have hF:∀ i,U1<i->(fun i=>gH (1-v) v V1 (sx U1 V1 a i)) i=0:=fun i hi=>by
  show gH (1-v) v V1 (sx U1 V1 a i)=0;rw [sx_gtU a hi,gH_0]
 have hG:∀ i,U2<i->(fun i=>gH (1-v) v V2 (sx U2 V2 b i)) i=0:=fun i hi=>by
  show gH (1-v) v V2 (sx U2 V2 b i)=0;rw [sx_gtU b hi,gH_0]
 rw [dM U1 U2,<-gH_cf _ _ _ _ hG _ _ hF];refine gH_congr _ _ _ _ _ fun r hr=>?_;rw [<-sum_cf hF hG];have e:∀ s,s<=V1+V2->sx (U1+U2) (V1+V2) (tmL U1 V1 U2 V2 a b) r s=tpS U1 V1 U2 V2 a b r s:=fun s hs=>by
  have mb:=cR_ne (n:=U1+U2) (k:=r) J;have qn:=cR_ne hs;rw [sx,sq,rwL_len ht J,df,rwL_get ht J hs,tm_get ha hb J hs];have e1:=r8 _ mb;have e2:=r8 _ qn;rw [cj,adL];grind
 rw [dM U2 U1,gH_congr _ _ _ _ _ e];show gH (1-v) v (V1+V2) (fun s=>sm (U1+1) fun i=>sm (U2+1) fun k=>if i+k=r then cf (sx U1 V1 a i) (sx U2 V2 b k) s else 0)=_;rw [gH_sm];refine sm_congr _ _ _ fun i hi=>?_;rw [gH_sm];refine sm_congr _ _ _ fun k hk=>?_;rw [gH_ite];by_cases h:i+k=r
 ·rw [if_pos h,if_pos h,dM V1 V2];exact gH_cf _ _ _ _ (fun j hj=>sx_gt hb J hj) _ _ (fun j hj=>sx_gt ha J hj)
 rw [if_neg h,if_neg h]
theorem dif_at {p:List Rat} {V j:Nat} (hl:p.length=V+1) (hj:j<=V-1):(difP p).getD j 0=((V:Nat):Int)*(p.getD (j+1) 0-p.getD j 0):=by
 rcases nu V with rfl | hV
 ·obtain rfl:j=0:=J;have:difP p=[0]:=by unfold difP;rw [if_pos J]
  rw [this,show (((0:Nat):Int):Rat)=0 from rfl,fZ];rfl
 rw [difP_get J,hl,df]
theorem dfV_get {U V i j:Nat} {c:List Rat} (hc:c.length=(U+1)*(V+1)) (hi:i<=U) (hj:j<=V-1):(dfV U V c).getD (i*(V-1+1)+j) 0=((V:Nat):Int)*(c.getD (i*(V+1)+(j+1)) 0-c.getD (i*(V+1)+j) 0):=by
 rw [dfV,rs_get (W:=V-1) (U:=U) (fun i hi=>dif_W (rwL_len hc hi)) hj (an _) J,dif_at (rwL_len hc hi) hj];rcases nu V with rfl | hV
 ·rw [show (((0:Nat):Int):Rat)=0 from rfl,fZ,fZ]
 rw [rwL_get hc hi J,rwL_get hc hi J]
theorem dfV_len {U V:Nat} {c:List Rat} (hc:c.length=(U+1)*(V+1)):(dfV U V c).length=(U+1)*(V-1+1) :=
 rsL_len (W:=V-1) (U:=U) (fun i hi=>dif_W (rwL_len hc hi)) _ (an _)
theorem dfU_len (U V:Nat) (c:List Rat):(dfU U V c).length=(U-1+1)*(V+1):=swL_len _ _ _
theorem dfU_get {U V i j:Nat} {c:List Rat} (hi:i<=U-1) (hj:j<=V):(dfU U V c).getD (i*(V+1)+j) 0=((U:Nat):Int)*(c.getD ((i+1)*(V+1)+j) 0-c.getD (i*(V+1)+j) 0):=by
 have bg:=swL_len U V c;rw [dfU,sw_get (U:=V) (V:=U-1) (i:=j) (j:=i) hj hi,rs_get (W:=U-1) (U:=V) (fun i hi=>dif_W (rwL_len bg hi)) hi (an _) J,dif_at (rwL_len bg hj) hi];rcases nu U with rfl | hU
 ·rw [show (((0:Nat):Int):Rat)=0 from rfl,fZ,fZ]
 rw [rwL_get bg hj J,rwL_get bg hj J,sw_get J hj,sw_get J hj]
theorem row_dfV {U V:Nat} {c:List Rat} (hc:c.length=(U+1)*(V+1)) (u:Rat):rowT U (V-1) (dfV U V c) u=difP (rowT U V c u):=by
 have hr:=rowT_len U V c u;refine ext0 (by rw [rowT_len,dif_W hr]) fun j hj=>?_;rw [rowT_len] at hj;rw [row_get J,dif_at hr J];rcases nu V with rfl | hV
 ·rw [show (((0:Nat):Int):Rat)=0 from rfl,fZ,fE_congr _ _ _ _ (fun _=>0*0+0*0) fun i hi=>?_,fE_lin,fZ,qG];rw [dfV_get hc hi J];show ((0:Int):Rat)*_=_;rw [show ((0:Int):Rat)=0 from rfl,fZ];grind
 rw [row_get J,row_get J,fE_congr _ _ _ _ (fun i=>(((V:Nat):Int):Rat)*c.getD (i*(V+1)+(j+1)) 0+(-(((V:Nat):Int):Rat))*c.getD (i*(V+1)+j) 0) fun i hi=>?_,fE_lin]
 ·grind
 rw [dfV_get hc hi J];grind
theorem col_dfU {U V:Nat} {c:List Rat} (hc:c.length=(U+1)*(V+1)) (v:Rat):colT (U-1) V (dfU U V c) v=difP (colT U V c v):=by
 have hr:=colT_len U V c v;have hd:=dfU_len U V c;refine ext0 (by rw [colT_len,dif_W hr]) fun i hi=>?_;rw [colT_len] at hi;rw [col_fE hd J,dif_at hr J];rcases nu U with rfl | hU
 ·rw [show (((0:Nat):Int):Rat)=0 from rfl,fZ,fE_congr _ _ _ _ (fun _=>0*0+0*0) fun j hj=>?_,fE_lin,fZ,qG];rw [dfU_get J hj];show ((0:Int):Rat)*_=_;rw [show ((0:Int):Rat)=0 from rfl,fZ];grind
 rw [col_fE hc J,col_fE hc J,fE_congr _ _ _ _ (fun j=>(((U:Nat):Int):Rat)*c.getD ((i+1)*(V+1)+j) 0+(-(((U:Nat):Int):Rat))*c.getD (i*(V+1)+j) 0) fun j hj=>?_,fE_lin]
 ·grind
 rw [dfU_get J hj];grind
theorem ev_dfV {U V:Nat} {c:List Rat} (hc:c.length=(U+1)*(V+1)) (u v:Rat):evT U (V-1) (dfV U V c) u v=evP (difP (rowT U V c u)) v:=by rw [evT,row_dfV hc]
theorem ev_dfU {U V:Nat} {c:List Rat} (hc:c.length=(U+1)*(V+1)) (u v:Rat):evT (U-1) V (dfU U V c) u v=evP (difP (colT U V c v)) u:=by rw [<-evT_swap (dfU_len U V c),col_dfU hc]
theorem sm_rlT {B:Nat}:∀ (n:Nat) (f:Nat->Rat),(∀ i,i<n->rl (f i)<=B)->rl (sm n f)<=1+n*(B+1)
 | 0,f,_=>by show rl 0<=_;rw [show rl 0=1 from rfl];omega
 | n+1,f,h=>by
  have h1:=sm_rlT n f (fun i hi=>h i J);have h2:=h n J;have h3:=rl_add (sm n f) (f n);rw [sm,cB];omega
theorem upH_same {U V:Nat} {c:List Rat} (hc:c.length=(U+1)*(V+1)) (hU:U<=40) (hV:V<=40) (hR:∀ x∈c,rl x<=1073741824):upH U V c U V:=by
 have h1:upR V c V U=c:=by
  rw [upR,rs_congr (h:=fun p=>p) (fun i hi=>upP_self kM) (an _),rs_one,aH J]
 have h2:∀ {p:List Rat} {n:Nat},p.length=n+1->(∀ x∈p,rl x<=1073741824)->upS p n:=fun {p n} hp mY=>⟨mY,fun k hk=>by
  obtain rfl:k=0:=J;exact mY⟩
 refine⟨hc,?_,fun x hx=>aw (hR x hx) ae,an _,an _,hU,hV,fun i hi=>h2 (rwL_len hc hi) (fun x hx=>hR x (rwL_mem hx)),fun j hj=>?_⟩
 ·rw [hc];exact aw (cx (show U+1<=41 by omega) (show V+1<=41 by omega)) ae
 rw [h1];exact h2 (rwL_len (swL_len U V c) hj) (fun x hx=>hR x (sw_mem hc (rwL_mem hx)))
theorem dfV_rl {U V R:Nat} {c:List Rat} (hc:c.length=(U+1)*(V+1)) (hV:V<=900) (hR:1<=R) (h:∀ x∈c,rl x<=R):∀ x∈dfV U V c,rl x<=2*R+4 :=
 rs_mem (U:=U) (fun i hi=>difP_rl hR kM (fun x hx=>h x (rwL_mem hx))) (an _)
theorem dfU_rl {U V R:Nat} {c:List Rat} (hc:c.length=(U+1)*(V+1)) (hU:U<=900) (hR:1<=R) (h:∀ x∈c,rl x<=R):∀ x∈dfU U V c,rl x<=2*R+4 :=
 sw_rl J (rs_mem (U:=V) (fun j hj=>difP_rl hR (by rw [rwL_len (swL_len U V c) hj];omega) (fun x hx=>h x (sw_mem hc (rwL_mem hx)))) (an _))
theorem zipS_rl {R:Nat} {p q:List Rat} {g:Rat->Rat->Rat} (hg:∀ a b,rl (g a b)<=rl a+rl b+1) (hR:1<=R) (hp:∀ x∈p,rl x<=R) (hq:∀ x∈q,rl x<=R):∀ x∈zipG g p q,rl x<=2*R+1:=fun x hx=>by
 obtain⟨i,_,rfl⟩:=bS.1 hx;have h1:=getD_rl hR hp i;have h2:=getD_rl hR hq i;have h3:=hg (p.getD i 0) (q.getD i 0);omega
theorem dfr:(default:List PoR)=[]:=rfl
theorem rep_nets4 (d1 d2 d3 d4 sz:Nat) (x1 x2 x3 x4 y1 y2 y3 y4:LV) (Z:Nat->Prop) (μ:Nat->Option Nat) (w:World) (cs:List Value)
  (h:Rep Z μ w (.agg [.agg [x1,y1,.v (.slice none 0 0)],.agg [x2,y2,.v (.slice none 0 0)],.agg [x3,y3,.v (.slice none 0 0)],.agg [x4,y4,.v (.slice none 0 0)]]) cs) :
  Rep Z μ w (.agg [.agg [x1,y1,.ref d1 sz 0 0],.agg [x2,y2,.ref d2 sz 0 0],.agg [x3,y3,.ref d3 sz 0 0],.agg [x4,y4,.ref d4 sz 0 0]]) cs:=by
 rw [Rep] at h ⊢;simp only [RepFs] at h ⊢;obtain⟨a1,b1,e1,l1,g1,a2,b2,e2,l2,g2,a3,b3,e3,l3,g3,a4,b4,e4,l4,g4,e5⟩:=h;exact⟨a1,b1,e1,l1,rep_net _ _ _ _ _ _ _ _ g1,a2,b2,e2,l2,rep_net _ _ _ _ _ _ _ _ g2,a3,b3,e3,l3,rep_net _ _ _ _ _ _ _ _ g3,a4,b4,e4,l4,rep_net _ _ _ _ _ _ _ _ g4,e5⟩
theorem dropR {rows:List (List PoR)} {i:Nat} (h:i<rows.length):rows.drop i=rows.getD i [] :: rows.drop (i+1):=by
 rw [o8 h,ao,aB h];rfl
theorem dropP {po:List PoR} {j:Nat} (h:j<po.length):po.drop j=po.getD j default :: po.drop (j+1):=by
 rw [o8 h,ao,aB h];rfl
theorem getR_mem {rows:List (List PoR)} {i:Nat} (h:i<rows.length):rows.getD i []∈rows:=by
 rw [ao,aB h];exact fY h
structure rwOK (rows:List (List PoR)) (R:Nat):Prop where
 ok:∀ r∈rows,∀ q∈r,okP R q
 n:rows.length<=1000
 m:∀ r∈rows,r.length<=1000
 f:rows.flatten.length<=10000
structure rwI (rows:List (List PoR)) (i:Nat) (ps:List PoR):Prop where
 hi:i<=rows.length
 he:ps++(rows.drop i).flatten=rows.flatten
theorem rwI.le {rows:List (List PoR)} {i:Nat} {ps:List PoR} (h:rwI rows i ps):ps.length<=rows.flatten.length:=by
 rw [<-h.he];simp
theorem rwI.zero (rows:List (List PoR)):rwI rows 0 []:=⟨az _,rfl⟩
theorem rwI.last {rows:List (List PoR)} {ps:List PoR} (h:rwI rows rows.length ps):ps=rows.flatten:=by
 have:=h.he;rwa [uk,List.flatten_nil,aS] at this
structure rwJ (rows:List (List PoR)) (i j:Nat) (qs:List PoR):Prop where
 hi:i<rows.length
 hj:j<=(rows.getD i []).length
 he:qs++((rows.getD i []).drop j++(rows.drop (i+1)).flatten)=rows.flatten
theorem rwI.go {rows:List (List PoR)} {i:Nat} {ps:List PoR} (h:rwI rows i ps) (hi:i<rows.length):rwJ rows i 0 ps:=by
 refine⟨hi,az _,?_⟩;have:=h.he;rwa [dropR hi,pI] at this
theorem rwJ.le {rows:List (List PoR)} {i j:Nat} {qs:List PoR} (h:rwJ rows i j qs):qs.length<=rows.flatten.length:=by
 rw [<-h.he];simp
theorem rwJ.lt {rows:List (List PoR)} {i j:Nat} {qs:List PoR} (h:rwJ rows i j qs) (hj:j<(rows.getD i []).length):qs.length<rows.flatten.length:=by
 have:=congrArg List.length h.he;rw [cZ,cZ,fJ] at this;omega
theorem rwJ.next {rows:List (List PoR)} {i j:Nat} {qs:List PoR} (h:rwJ rows i j qs) (hj:j<(rows.getD i []).length):rwJ rows i (j+1) (qs++[(rows.getD i []).getD j default]):=by
 refine⟨h.hi,J,?_⟩;have:=h.he;rw [dropP hj] at this;rw [<-this];simp
theorem rwJ.last {rows:List (List PoR)} {i:Nat} {qs:List PoR} (h:rwJ rows i (rows.getD i []).length qs):rwI rows (i+1) qs:=by
 refine⟨h.hi,?_⟩;have:=h.he;rwa [uk,aR] at this
theorem nmP_sn (po:List PoR) (q:PoR) (k:Nat):nmP po k++[q.w*q.p.at k]=nmP (po++[q]) k:=by simp [nmP]
theorem wtP_sn (po:List PoR) (q:PoR):wtP po++[q.w]=wtP (po++[q]):=by simp [wtP]
namespace H_c_PNum
theorem zSm {p q:Prop} (k:q) (e:p=q:=by simp only [sNF,ar,au,aq,prL,ady,adr,u6,aen,aex,acU,wo,adv,len_snoc,prL_kill,kills_map prE,dfr,dfq,bA,aQ,bc,aR,bh,aZ,aS,aN,aK,aO,reduceIte,if_true,if_false,aX,LV.kill,kills];exact rfl):p:=e.mpr k
end H_c_PNum
open H_c_PNum in
theorem c_PNum (U V:Nat) (kU kV:List Rat) (rows:List (List PoR)) (hU:U<=1000000) (hV:V<=1000000) (R:Nat) (hR:R<=1000000) (hw:rwOK rows R):CallP aa 164 [.agg [nI64 U,nI64 V,.list 3 (kU.map ratL),.list 3 (kV.map ratL),.list 1 (rows.map prL)]] (.agg [.agg [nI64 U,nI64 V,.list 3 ((nmP rows.flatten 0).map ratL)],.agg [nI64 U,nI64 V,.list 3 ((nmP rows.flatten 1).map ratL)],.agg [nI64 U,nI64 V,.list 3 ((nmP rows.flatten 2).map ratL)],.agg [nI64 U,nI64 V,.list 3 ((wtP rows.flatten).map ratL)]]):=by
 have bK:LV.pure (.agg [nI64 U,nI64 V,.list 3 (kU.map ratL),.list 3 (kV.map ratL),.list 1 (rows.map prL)])=true:=bH;have wA:=hw.n;have hwf:=hw.f;refine fnP Tryz.func164 (ht:=(fun g=>LV.ren_pure g _ bH)) ?_;have ady:True:=trivial;have adr:True:=trivial;have u6:True:=trivial;have aen:True:=trivial;have aex:True:=trivial;have acU:True:=trivial;have wo:True:=trivial;have adv:True:=trivial;refine zg18 ?_;refine iR ?_;refine wl_regH rfl 8 3 [1,4,5] ah rfl ?_;simp only [pk,uI,sNF,ar,au,aq,bh7,dh1,dh2,dh3];refine zg8 ?_;refine wG ?_;simp only [vT,dY];refine zg12 ?_;refine iR ?_;refine wl_regH rfl 8 3 [1,4,5] ah rfl ?_;simp only [pk,uI,sNF,ar,au,aq,bh7,dh1,dh2,dh3];refine zg8 ?_;refine wG ?_;simp only [vT,dY];refine zg12 ?_;refine iR ?_;refine wl_regH rfl 8 3 [1,4,5] ah rfl ?_
 simp only [pk,uI,sNF,ar,au,aq,bh7,dh1,dh2,dh3];refine zg8 ?_;refine wG ?_;simp only [vT,dY];refine zg12 ?_;refine iR ?_;refine wl_regH rfl 8 3 [1,4,5] ah rfl ?_;simp only [pk,uI,sNF,ar,au,aq,bh7,dh1,dh2,dh3];refine zg8 ?_;refine wG ?_;simp only [vT,dY];refine zg12 ?_;refine km ?_;refine zg15 ?_;refine wl_weak (((Weak.cell 3 rfl (fun Z μ w cs h=>rep_nets4 1001 1002 1003 1004 3 _ _ _ _ _ _ _ _ Z μ w cs h)).trans ((Weak.newB _ 1001 3 rfl).trans ((Weak.newB _ 1002 3 rfl).trans ((Weak.newB _ 1003 3 rfl).trans (Weak.newB _ 1004 3 rfl)))))) ?_
 refine lp2 (fun(i:Nat) (ps:List PoR) L=>(mS L [(1,⟨5,[.agg [nI64 U,nI64 V,.list 3 (kU.map ratL),.list 3 (kV.map ratL),.list 1 (rows.map prL)]],true⟩),(2,⟨12,[.agg [.agg [.v (.int .i64 0),.v (.int .i64 0),.v (.slice none 0 0)],.agg [.v (.int .i64 0),.v (.int .i64 0),.v (.slice none 0 0)],.agg [.v (.int .i64 0),.v (.int .i64 0),.v (.slice none 0 0)],.agg [.v (.int .i64 0),.v (.int .i64 0),.v (.slice none 0 0)]]],true⟩),(3,⟨12,[.agg [.agg [nI64 U,nI64 V,.ref 1001 3 0 ps.length],.agg [nI64 U,nI64 V,.ref 1002 3 0 ps.length],.agg [nI64 U,nI64 V,.ref 1003 3 0 ps.length],.agg [nI64 U,nI64 V,.ref 1004 3 0 ps.length]]],true⟩),(1001,⟨3,(nmP ps 0).map ratL,true⟩),(1002,⟨3,(nmP ps 1).map ratL,true⟩),(1003,⟨3,(nmP ps 2).map ratL,true⟩),(1004,⟨3,(wtP ps).map ratL,true⟩)] [(28,nI64 i),(27,nI64 rows.length),(26,.list 1 (rows.map prL)),(3,.eptr 3 12 0 0),(2,.eptr 2 12 0 0)])) (fun i ps=>rwI rows i ps) (fun i ps=>rows.length-i) 0 ([]) (rwI.zero rows) ?_;rintro i ps L2 hI;refine zg6 ?_;refine wl_if rfl ?_ ?_<;>intro pg nY
 ·have hi2:i<rows.length:=J;refine zg19 ?_;refine lp2 (fun(j:Nat) (qs:List PoR) L=>(mS L [(1,⟨5,[.agg [nI64 U,nI64 V,.list 3 (kU.map ratL),.list 3 (kV.map ratL),.list 1 (rows.map prL)]],true⟩),(2,⟨12,[.agg [.agg [.v (.int .i64 0),.v (.int .i64 0),.v (.slice none 0 0)],.agg [.v (.int .i64 0),.v (.int .i64 0),.v (.slice none 0 0)],.agg [.v (.int .i64 0),.v (.int .i64 0),.v (.slice none 0 0)],.agg [.v (.int .i64 0),.v (.int .i64 0),.v (.slice none 0 0)]]],true⟩),(3,⟨12,[.agg [.agg [nI64 U,nI64 V,.ref 1001 3 0 qs.length],.agg [nI64 U,nI64 V,.ref 1002 3 0 qs.length],.agg [nI64 U,nI64 V,.ref 1003 3 0 qs.length],.agg [nI64 U,nI64 V,.ref 1004 3 0 qs.length]]],true⟩),(1001,⟨3,(nmP qs 0).map ratL,true⟩),(1002,⟨3,(nmP qs 1).map ratL,true⟩),(1003,⟨3,(nmP qs 2).map ratL,true⟩),(1004,⟨3,(wtP qs).map ratL,true⟩)] [(34,nI64 j),(33,nI64 (rows.getD i []).length),(32,.list 12 ((rows.getD i []).map poL)),(28,nI64 i),(27,nI64 rows.length),(26,.list 1 (rows.map prL)),(3,.eptr 3 12 0 0),(2,.eptr 2 12 0 0)])) (fun j qs=>rwJ rows i j qs) (fun j qs=>(rows.getD i []).length-j) 0 ps (hI.go hi2) ?_;rintro j qs L3 hJ;refine zg6 ?_;refine wl_if rfl ?_ ?_<;>intro nx nT
  ·have bo:j<(rows.getD i []).length:=J;have hJe:=hJ.hj;have hJl:=hJ.le;have rj:=hJ.hi;have qw:=getR_mem rj;have eG:=hw.m _ qw;have hqm:=getD_memP bo;have cF:=hw.ok _ qw _ hqm;have hJ2:=hJ.lt bo;have aex:(nmP qs 0)++[((rows.getD i []).getD j default).w*((rows.getD i []).getD j default).p.x]=(nmP (qs++[((rows.getD i []).getD j default)]) 0):=nmP_sn _ _ 0;have acU:(nmP qs 1)++[((rows.getD i []).getD j default).w*((rows.getD i []).getD j default).p.y]=(nmP (qs++[((rows.getD i []).getD j default)]) 1):=nmP_sn _ _ 1;have wo:(nmP qs 2)++[((rows.getD i []).getD j default).w*((rows.getD i []).getD j default).p.z]=(nmP (qs++[((rows.getD i []).getD j default)]) 2):=nmP_sn _ _ 2;have adv:(wtP qs)++[((rows.getD i []).getD j default).w]=(wtP (qs++[((rows.getD i []).getD j default)])):=wtP_sn _ _;have ady:((nmP qs 0).map ratL).take qs.length=(nmP qs 0).map ratL:=aH (by rw [aA,nmP_len];omega);have adr:((nmP qs 1).map ratL).take qs.length=(nmP qs 1).map ratL:=aH (by rw [aA,nmP_len];omega);have u6:((nmP qs 2).map ratL).take qs.length=(nmP qs 2).map ratL:=aH (by rw [aA,nmP_len];omega);have aen:((wtP qs).map ratL).take qs.length=(wtP qs).map ratL:=aH (by rw [aA,wtP_len];omega);have dE:=nmP_len qs 0;have eW:=nmP_len qs 1;have fy:=nmP_len qs 2
   have nQ:=wtP_len qs;refine zg15 ?_;refine cp am1 (c_Of2 ((rows.getD i []).getD j default) R hR cF) ?_;refine zg4 ?_;refine fq ?_;refine zg13 ?_;refine wl_regF 7 [0] ah ?_;refine zg7 ?_;refine st_store rfl (.appX (d:=1001) (news:=[ratL (((rows.getD i []).getD j default).w*((rows.getD i []).getD j default).p.x)]) rfl rfl rfl rfl al (.inl rfl) ae oQ oQ Z32a T32 rfl B32 (.inl ⟨50,0,_,rfl,by decide,rfl,rfl,by simp,rfl,by simp [pures,ratE.pure]⟩) al al ae) ?_;refine aal ?_;refine zg7 ?_;refine st_store rfl (.appX (d:=1002) (news:=[ratL (((rows.getD i []).getD j default).w*((rows.getD i []).getD j default).p.y)]) rfl rfl rfl rfl al (.inl rfl) ae oQ oQ Z32a T32 rfl B32 (.inl ⟨50,0,_,rfl,by decide,rfl,rfl,by simp,rfl,by simp [pures,ratE.pure]⟩) al al ae) ?_;refine aal ?_;refine zg7 ?_
   refine st_store rfl (.appX (d:=1003) (news:=[ratL (((rows.getD i []).getD j default).w*((rows.getD i []).getD j default).p.z)]) rfl rfl rfl rfl al (.inl rfl) ae oQ oQ Z32a T32 rfl B32 (.inl ⟨50,0,_,rfl,by decide,rfl,rfl,by simp,rfl,by simp [pures,ratE.pure]⟩) al al ae) ?_;refine aal ?_;refine zg7 ?_;refine st_store rfl (.appX (d:=1004) (news:=[ratL (((rows.getD i []).getD j default).w)]) rfl rfl rfl rfl al (.inl rfl) ae oQ oQ Z32a T32 rfl B32 (.inl ⟨50,0,_,rfl,by decide,rfl,rfl,by simp,rfl,by simp [pures,ratE.pure]⟩) al al ae) ?_;refine zg6 ?_;refine wl_regW ((Weak.kill _ 10).trans (Weak.kill _ 50)) ?_;refine zg4 ?_;refine km ?_;refine zg6 ?_;refine wl_regW (Weak.kill _ 8) ?_;refine bq ?_;exact nx2 (j+1) (qs++[((rows.getD i []).getD j default)]) (hJ.next bo)
  have hJe:=hJ.hj;have hJl:=hJ.le;have rj:=hJ.hi;have qw:=getR_mem rj;have eG:=hw.m _ qw;obtain rfl:j=(rows.getD i []).length:=J;refine zg7 ?_;refine bq ?_;exact nx2 (i+1) qs hJ.last (hm:=by have:=hJ.hi;omega)
 have hIi:=hI.hi;obtain rfl:i=rows.length:=J;have hE:=hI.last;subst hE;refine zg12 ?_;exact retC [1001,1002,1003,1004] rfl rfl rfl cs (at_all cs rfl) T240 (.agg (.cons (.agg (.cons (.pure rfl) (.cons (.pure rfl) (.cons (imm_refm ratE rfl rfl (nmP_len _ 0).symm) .nil)))) (.cons (.agg (.cons (.pure rfl) (.cons (.pure rfl) (.cons (imm_refm ratE rfl rfl (nmP_len _ 1).symm) .nil)))) (.cons (.agg (.cons (.pure rfl) (.cons (.pure rfl) (.cons (imm_refm ratE rfl rfl (nmP_len _ 2).symm) .nil)))) (.cons (.agg (.cons (.pure rfl) (.cons (.pure rfl) (.cons (imm_refm ratE rfl rfl (wtP_len _).symm) .nil)))) .nil)))))
structure pf (R U V:Nat) (rows:List (List PoR)):Prop where
 r1:1<=R
 rB:R<=1000000
 u1:1<=U
 u3:U<=3
 v1:1<=V
 v3:V<=3
 n:rows.length=U+1
 m:∀ r∈rows,r.length=V+1
 ok:∀ r∈rows,∀ q∈r,okP R q
theorem flat_len {rows:List (List PoR)} {m:Nat} (h:∀ r∈rows,r.length=m):rows.flatten.length=rows.length*m:=by
 induction rows with
 | nil=>simp
 | cons r rs ih =>
  rw [pI,cZ,ih fun x hx=>h x (abU _ hx),h r (yU ..),aQ,cB,dM]
section
variable {R U V:Nat} {rows:List (List PoR)} (h:pf R U V rows)
include h
theorem pf.len:rows.flatten.length=(U+1)*(V+1):=by rw [flat_len h.m,h.n]
theorem pf.l16:rows.flatten.length<=16:=by
 rw [h.len];have h1:=h.u3;have h2:=h.v3;exact aw (cx (show U+1<=4 by omega) (show V+1<=4 by omega)) ae
theorem pf.fok:∀ q∈rows.flatten,okP R q:=fun q hq=>by
 obtain⟨r,h1,h2⟩:=List.mem_flatten.1 hq;exact h.ok r h1 q h2
theorem pf.rw:rwOK rows R:=by
 have h1:=h.u3;have h2:=h.v3;have h3:=h.n;have h4:=h.l16;exact⟨h.ok,J,fun r hr=>by have:=h.m r hr;omega,J⟩
theorem pf.nl (k:Nat):(nmP rows.flatten k).length=(U+1)*(V+1):=by rw [nmP_len,h.len]
theorem pf.wl:(wtP rows.flatten).length=(U+1)*(V+1):=by rw [wtP_len,h.len]
theorem pf.nr (k:Nat):∀ x∈nmP rows.flatten k,rl x<=2*R:=nmP_rl h.fok k
theorem pf.wr:∀ x∈wtP rows.flatten,rl x<=R:=wtP_rl h.fok
end
theorem sx_rlR {U V i j R:Nat} {c:List Rat} (hU:U<=40) (hV:V<=40) (hc:c.length=(U+1)*(V+1)) (hi:i<=U) (hR:1<=R) (h:∀ x∈c,rl x<=R):rl (sx U V c i j)<=R+4:=by
 have h1:=chsQ_rl (n:=U) i hU;have h2:=chsQ_rl (n:=V) j hV;have h3:=getD_rl (S:=R) hR (fun x hx=>h x (rwL_mem (V:=V) (i:=i) hx)) j;have h4:=rl_mul (cR V j) ((rwL V c i).getD j 0);have h5:=rl_mul (cR U i) (cR V j*(rwL V c i).getD j 0);rw [sx,sq,rwL_len hc hi,df];unfold cR at *
 omega
theorem tm_rlR {S U1 V1 U2 V2:Nat} {a b:List Rat} (ha:a.length=(U1+1)*(V1+1)) (hb:b.length=(U2+1)*(V2+1)) (wH:U1<=3) (sf:V1<=3) (z9:U2<=3) (vz:V2<=3) (hS:1<=S) (ph:∀ x∈a,rl x<=S) (nK:∀ x∈b,rl x<=S):∀ x∈tmL U1 V1 U2 V2 a b,rl x<=224*S+1200:=by
 intro x hx;have ht:=tm_len U1 V1 U2 V2 a b;obtain⟨k,hk,rfl⟩:=mP hx;rw [ht] at hk;have h1:k/(V1+V2+1)<U1+U2+1:=zR (by rw [bz];exact hk);have h2:=dO k (show V1+V2+1 > 0 by omega);have e:k=k/(V1+V2+1)*(V1+V2+1)+k % (V1+V2+1):=by rw [bz];exact(n7 k _).symm
 have e2:(tmL U1 V1 U2 V2 a b)[k]=(tmL U1 V1 U2 V2 a b).getD k 0:=by rw [ao,aB (by rw [ht];exact hk)];rfl
 rw [e2,e];generalize k/(V1+V2+1)=r at *
 generalize k % (V1+V2+1)=s at *
 rw [tm_get ha hb J J];have c1:=chsQ_rl (n:=U1+U2) r J;have c2:=chsQ_rl (n:=V1+V2) s J;have c3:=rl_mul (cR (U1+U2) r) (cR (V1+V2) s);have hcf:∀ i,i<U1+1->∀ k,k<U2+1->rl (if i+k=r then cf (sx U1 V1 a i) (sx U2 V2 b k) s else 0)<=14*S+64:=fun i hi k hk=>by
  split
  ·have:=sm_rlT (B:=2*S+8) (s+1) (fun j=>sx U1 V1 a i j*sx U2 V2 b k (s-j)) (fun j _=>by
    have g1:=sx_rlR (j:=j) (show U1<=40 by omega) (show V1<=40 by omega) ha (show i<=U1 by omega) hS ph;have g2:=sx_rlR (j:=s-j) (show U2<=40 by omega) (show V2<=40 by omega) hb (show k<=U2 by omega) hS nK;have g3:=rl_mul (sx U1 V1 a i j) (sx U2 V2 b k (s-j));omega)
   refine aw this ?_;have:(s+1)*(2*S+8+1)<=7*(2*S+8+1):=cx J (an _);omega
  show rl 0<=_;rw [show rl 0=1 from rfl];omega
 have h3:=sm_rlT (B:=56*S+261) (U1+1) _ (fun i hi=>aw (sm_rlT (B:=14*S+64) (U2+1) _ (hcf i hi)) (by
  have:(U2+1)*(14*S+64+1)<=4*(14*S+64+1):=cx J (an _);omega))
 have h4:=rl_div (tpS U1 V1 U2 V2 a b r s) (cR (U1+U2) r*cR (V1+V2) s);have h5:rl (tpS U1 V1 U2 V2 a b r s)<=1+(U1+1)*(56*S+261+1):=h3;have h6:(U1+1)*(56*S+261+1)<=4*(56*S+261+1):=cx J (an _);unfold cR at *
 omega
def sgN (U V Ud Vd:Nat) (D:List Rat->List Rat) (F:List PoR) (k:Nat):List Rat:=zipG (·-·) (tmL Ud Vd U V (D (nmP F k)) (wtP F)) (tmL U V Ud Vd (nmP F k) (D (wtP F)))
structure dfS (U V Ud Vd:Nat) (D:List Rat->List Rat):Prop where
 u:Ud<=3
 v:Vd<=3
 l:∀ c:List Rat,c.length=(U+1)*(V+1)->(D c).length=(Ud+1)*(Vd+1)
 r:∀ (R:Nat) (c:List Rat),1<=R->c.length=(U+1)*(V+1)->(∀ x∈c,rl x<=R)->∀ x∈D c,rl x<=2*R+4
theorem dfS_U {U V:Nat} (hU:U<=3) (hV:V<=3):dfS U V (U-1) V (dfU U V) :=
 ⟨J,hV,fun c _=>dfU_len U V c,fun R c hR hc h=>dfU_rl (R:=R) hc J hR h⟩
theorem dfS_V {U V:Nat} (hU:U<=3) (hV:V<=3):dfS U V U (V-1) (dfV U V) :=
 ⟨hU,J,fun c hc=>dfV_len hc,fun R c hR hc h=>dfV_rl (R:=R) hc J hR h⟩
section
variable {R U V Ud Vd:Nat} {rows:List (List PoR)} {D:List Rat->List Rat} (h:pf R U V rows) (hd:dfS U V Ud Vd D) (k:Nat)
theorem sg_m1 (h:pf R U V rows) (hd:dfS U V Ud Vd D) (k:Nat):(tmL Ud Vd U V (D (nmP rows.flatten k)) (wtP rows.flatten)).length=(Ud+U+1)*(Vd+V+1)/\∀ x∈tmL Ud Vd U V (D (nmP rows.flatten k)) (wtP rows.flatten),rl x<=900*R+2100 :=
 ⟨tm_len ..,fun x hx=>by
  have hr:=h.r1;have:=tm_rlR (S:=4*R+4) (hd.l _ (h.nl k)) h.wl hd.u hd.v h.u3 h.v3 J (fun x hx=>by have:=hd.r _ _ (show 1<=2*R by omega) (h.nl k) (h.nr k) x hx;omega) (fun x hx=>by have:=h.wr x hx;omega) x hx;omega⟩
theorem sg_m2 (h:pf R U V rows) (hd:dfS U V Ud Vd D) (k:Nat):(tmL U V Ud Vd (nmP rows.flatten k) (D (wtP rows.flatten))).length=(Ud+U+1)*(Vd+V+1)/\∀ x∈tmL U V Ud Vd (nmP rows.flatten k) (D (wtP rows.flatten)),rl x<=900*R+2100 :=
 ⟨by rw [tm_len,dM U Ud,dM V Vd],fun x hx=>by
  have hr:=h.r1;have:=tm_rlR (S:=4*R+4) (h.nl k) (hd.l _ h.wl) h.u3 h.v3 hd.u hd.v J (fun x hx=>by have:=h.nr k x hx;omega) (fun x hx=>by have:=hd.r _ _ hr h.wl h.wr x hx;omega) x hx;omega⟩
theorem sg_len (h:pf R U V rows) (hd:dfS U V Ud Vd D) (k:Nat):(sgN U V Ud Vd D rows.flatten k).length=(Ud+U+1)*(Vd+V+1):=by rw [sgN,zipG_len];exact(sg_m1 h hd k).1
theorem sg_rl (h:pf R U V rows) (hd:dfS U V Ud Vd D) (k:Nat):∀ x∈sgN U V Ud Vd D rows.flatten k,rl x<=1800*R+4201:=fun x hx=>by
 have:=zipS_rl (R:=900*R+2100) rl_sub J (sg_m1 h hd k).2 (sg_m2 h hd k).2 x hx;omega
theorem sq_le {a b:Nat} (ha:a<=6) (hb:b<=6):(a+1)*(b+1)<=49:=aw (cx (show a+1<=7 by omega) (show b+1<=7 by omega)) ae
theorem sg_l49 (h:pf R U V rows) (hd:dfS U V Ud Vd D) (k:Nat):(sgN U V Ud Vd D rows.flatten k).length<=49:=by
 have h1:=h.u3;have h2:=h.v3;have h3:=hd.u;have h4:=hd.v;rw [sg_len h hd k];exact sq_le J J
end
def shX (x:Rat):Prop:=rl (1-x)+rl x+1<=20
theorem evT_sz {R U V:Nat} {c:List Rat} {u v:Rat} (hc:c.length=(U+1)*(V+1)) (hU:U<=6) (hV:V<=6) (cQ:1<=R) (hR:R<=100000) (h:∀ x∈c,rl x<=R) (hu:shX u) (hv:shX v) :
  (∀ j,j<=V->HS (rwL U (swL U V c) j) u)/\HS (rowT U V c u) v/\(∀ i,i<=U->HS (rwL V c i) v)/\HS (colT U V c v) u/\rl (evT U V c u v)<=4100*(R+30):=by
 unfold shX at hu hv;have h1:∀ j,j<=V->∀ x∈rwL U (swL U V c) j,rl x<=R:=fun j _ x hx=>h x (sw_mem hc (rwL_mem hx));have h2:∀ j,j<=V->(rwL U (swL U V c) j).length=U+1:=fun j hj=>rwL_len (swL_len U V c) hj;have h3:∀ i,i<=U->∀ x∈rwL V c i,rl x<=R:=fun j _ x hx=>h x (rwL_mem hx);have h4:∀ i,i<=U->(rwL V c i).length=V+1:=fun j hj=>rwL_len hc hj;have p6:∀ n,n<=6->2 ^ n<=64:=fun n hn=>gg (n:=2) ae hn;have xu:∀ x∈rowT U V c u,rl x<=(R+20)*64:=rs_mem (U:=V) (fun j hj x hx=>by
  rw [bD.1 hx];have:=ev_rl (p:=rwL U (swL U V c) j) (t:=u) (by rw [h2 j hj];omega) cQ (h1 j hj);rw [h2 j hj,df] at this;exact aw this (cx J (p6 U hU))) (an _)
 have aeX:∀ x∈colT U V c v,rl x<=(R+20)*64:=rs_mem (U:=U) (fun i hi x hx=>by
  rw [bD.1 hx];have:=ev_rl (p:=rwL V c i) (t:=v) (by rw [h4 i hi];omega) cQ (h3 i hi);rw [h4 i hi,df] at this;exact aw this (cx J (p6 V hV))) (an _)
 refine⟨fun j hj=>hs_ofL (by rw [h2 j hj];omega) (fun y hy=>by have:=h1 j hj y hy;omega) J,hs_ofL (by rw [rowT_len];omega) (fun y hy=>by have:=xu y hy;omega) J,
  fun j hj=>hs_ofL (by rw [h4 j hj];omega) (fun y hy=>by have:=h3 j hj y hy;omega) J,hs_ofL (by rw [colT_len];omega) (fun y hy=>by have:=aeX y hy;omega) J,?_⟩
 have:=ev_rl (p:=rowT U V c u) (t:=v) (by rw [rowT_len];omega) (show 1<=(R+20)*64 by omega) xu;rw [rowT_len,df] at this;refine aw this (aw (cx (show _<=(R+20)*64+20 by omega) (p6 V hV)) ?_);omega
namespace H_c_Sends
theorem zSm {p q:Prop} (k:q) (e:p=q:=by simp only [sNF,ar,au,aq,dfq,dZ,aC,dg,aA,aN,aK,aO,reduceIte,if_true,if_false,aX,LV.kill,kills];exact rfl):p:=e.mpr k
end H_c_Sends
open H_c_Sends in
theorem c_Sends (d:Nat) (a b:Rat) (ha:rl a<=100) (hb:rl b<=100) (aW:a<b) (h9:d<=6):CallP aa 77 [.list 3 ((kn2 d a b).map ratL)] (spL (a,b)):=by
 have dZ:=kn2_len d a b;have aC:=kn2_lo d a b;have dg:=kn2_hi d a b;have hkp:=pure_lst ratE 3 (kn2 d a b);have hS:=c_SOf a b J;rw [mn_lt2 aW,mx_lt2 aW] at hS;refine fnP Tryz.func77 ?_;refine zg13 ?_;refine wl_if rfl ?_ ?_<;>intro h5r h5
 ·omega
 refine zg3 ?_;refine wl_regD 10 ah ?_;refine zg6 ?_;refine fG ?_;refine zg2 ?_
 try simp only [t1,dfq,dZ,aC,dg,aA]
 refine cp am2 (hS) ?_;refine zg4 ?_;exact iW
namespace H_c_PDom
theorem zSm {p q:Prop} (k:q) (e:p=q:=by simp only [sNF,ar,au,aq,prL_kill,kills_map prE,dfr,dfq,bA,aQ,bc,aR,bh,aZ,aS,aN,aK,aO,reduceIte,if_true,if_false,aX,LV.kill,kills];exact rfl):p:=e.mpr k
end H_c_PDom
open H_c_PDom in
theorem c_PDom (U V:Nat) (ua ub va vb:Rat) (rows:List (List PoR)) (nG:rl ua<=100) (vC:rl ub<=100) (k9:rl va<=100) (ru:rl vb<=100) (hu:ua<ub) (hv:va<vb) (hU:U<=6) (hV:V<=6):CallP aa 33 [.agg [nI64 U,nI64 V,.list 3 ((kn2 U ua ub).map ratL),.list 3 ((kn2 V va vb).map ratL),.list 1 (rows.map prL)]] (.tup [spL (ua,ub),spL (va,vb)]):=by
 have bK:LV.pure (.agg [nI64 U,nI64 V,.list 3 ((kn2 U ua ub).map ratL),.list 3 ((kn2 V va vb).map ratL),.list 1 (rows.map prL)])=true:=bH;have iE:=pure_lst ratE 3 (kn2 U ua ub);have fg:=pure_lst ratE 3 (kn2 V va vb);refine fnP Tryz.func33 (ht:=(tame2 (spE.pure _) (spE.pure _))) ?_;refine zg8 ?_;refine wl_regD 6 ah ?_;refine zg2 ?_;refine cp am1 (c_Sends U ua ub nG vC hu hU) ?_;refine zg2 ?_;refine cp am1 (c_Sends V va vb k9 ru hv hV) ?_;refine zg5 ?_;exact zp
namespace H_c_FDom12
theorem zSm {p q:Prop} (k:q) (e:p=q:=by simp only [sNF,ar,au,aq,bO,aeC,afv,zd,aeB,aeN,prL_kill,kills_map prE,dfr,dfq,bA,aQ,bc,aR,bh,aZ,aS,aN,aK,aO,reduceIte,if_true,if_false,aX,LV.kill,kills];exact rfl):p:=e.mpr k
end H_c_FDom12
open H_c_FDom12 in
theorem c_FDom12 (U V:Nat) (ua ub va vb:Rat) (rows:List (List PoR)) (nG:rl ua<=100) (vC:rl ub<=100) (k9:rl va<=100) (ru:rl vb<=100) (hu:ua<ub) (hv:va<vb) (hU:U<=6) (hV:V<=6):CallP aa 29 [.agg [nI64 U,nI64 V,.list 3 ((kn2 U ua ub).map ratL),.list 3 ((kn2 V va vb).map ratL),.list 1 (rows.map prL)]] (.tup [spL (ua,ub),spL (va,vb)]):=by
 have bK:LV.pure (.agg [nI64 U,nI64 V,.list 3 ((kn2 U ua ub).map ratL),.list 3 ((kn2 V va vb).map ratL),.list 1 (rows.map prL)])=true:=bH;have iE:=pure_lst ratE 3 (kn2 U ua ub);have fg:=pure_lst ratE 3 (kn2 V va vb);have bO:=kn2_len U ua ub;have aeC:=kn2_lo U ua ub;have afv:=kn2_hi U ua ub;have zd:=kn2_len V va vb;have aeB:=kn2_lo V va vb;have aeN:=kn2_hi V va vb;refine fnP Tryz.func29 (ht:=(tame2 (spE.pure _) (spE.pure _))) ?_;refine zg8 ?_;refine wl_regH rfl 26 2 [13,14,15,16,17,18,19,20,21,22,23,24,25] ah rfl ?_;simp only [pk,uI,sNF,ar,au,aq,bh7,dh1,dh2,dh3];refine zg9 ?_;refine fG ?_;refine zg12 ?_;refine fG ?_;refine zg3 ?_;refine wG ?_;simp only [vT,dY];refine zg5 ?_;exact zp
def sbS (s t:Rat × Rat):Rat × Rat:=(s.1-t.2,s.2-t.1)
theorem sbS_bd {R S:Nat} {s t:Rat × Rat} (hs:bdS R s) (ht:bdS S t):bdS (R+S+1) (sbS s t):=by
 have m1:=rl_sub s.1 t.2;have m2:=rl_sub s.2 t.1;exact⟨by show rl (s.1-t.2)<=_;have:=hs.1;have:=ht.2;omega,by show rl (s.2-t.1)<=_;have:=hs.2;have:=ht.1;omega⟩
theorem sb_in {A B:Rat × Rat} {a b:Rat} (h1:A.1<=a) (h2:a<=A.2) (h3:B.1<=b) (h4:b<=B.2):(sbS A B).1<=a-b/\a-b<=(sbS A B).2:=by
 unfold sbS;constructor<;>simp only<;>grind
open H_c_Distinct in
theorem c_SSub (s t:Rat × Rat) (R:Nat) (hR:R<=1000000000) (hs:bdS R s) (ht:bdS R t):CallP aa 174 [spL s,spL t] (spL (sbS s t)):=by
 obtain⟨a1,a2⟩:=hs;obtain⟨y1,y2⟩:=ht;refine fnP Tryz.func174 ?_;refine zg8 ?_;refine wl_regD 11 ah ?_;refine zg4 ?_;refine cp am2 (c_RSub s.1 t.2 J) ?_;refine zg4 ?_;refine cp am2 (c_RSub s.2 t.1 J) ?_;refine zg5 ?_;exact iW
theorem sq_le3 {a b:Nat} (ha:a<=3) (hb:b<=3):(a+1)*(b+1)<=16:=aw (cx (show a+1<=4 by omega) (show b+1<=4 by omega)) ae
theorem pk_le {a b c d x:Nat} (ha:a<=3) (hb:b<=3) (hc:c<=3) (hd:d<=3):(a+1)*((b+1)*((c+1)*((d+1)*x)))<=256*x:=by
 have h1:(d+1)*x<=4*x:=bw _ J;have h2:(c+1)*((d+1)*x)<=4*(4*x):=cx J h1;have h3:(b+1)*((c+1)*((d+1)*x))<=4*(4*(4*x)):=cx J h2;have h4:(a+1)*((b+1)*((c+1)*((d+1)*x)))<=4*(4*(4*(4*x))):=cx J h3;omega
open H_c_Distinct in
theorem c_prod13 (U1 V1 U2 V2:Nat) (a b:List Rat) (ha:a.length=(U1+1)*(V1+1)) (hb:b.length=(U2+1)*(V2+1)) (wH:U1<=3) (sf:V1<=3) (z9:U2<=3) (vz:V2<=3) (S:Nat) (iz:1<=S) (hS:S<=1000000) (ph:∀ x∈a,rl x<=S) (nK:∀ x∈b,rl x<=S):CallP aa 230 [.agg [nI64 U1,nI64 V1,.list 3 (a.map ratL)],.agg [nI64 U2,nI64 V2,.list 3 (b.map ratL)]] (.agg [nI64 (U1+U2),nI64 (V1+V2),.list 3 ((tmL U1 V1 U2 V2 a b).map ratL)]):=by
 have mF:=sq_le3 wH sf;have gQ:=sq_le3 z9 vz;have eW:=net_pureN U1 V1 a;have fy:=net_pureN U2 V2 b;have gW:=pk_le (x:=2*S+14) wH sf z9 vz;have nQ:=net_pureN (U1+U2) (V1+V2) (tmL U1 V1 U2 V2 a b);refine fnP Tryz.func230 (ht:=(fun g=>LV.ren_pure g _ (net_pureN _ _ _))) ?_;refine zg11 ?_;refine cp am2 (c_TMulK U1 V1 U2 V2 a b ha hb J J J J S iz hS J ph nK) ?_;refine zg15 ?_;exact td
theorem c_tSub13 (U V:Nat) (a b:List Rat) (hU:U<=40) (hV:V<=40) (ha:a.length=(U+1)*(V+1)) (hb:b.length=(U+1)*(V+1)) (ph:∀ x∈a,rl x<=500000000) (nK:∀ x∈b,rl x<=500000000):CallP aa 229 [.agg [nI64 U,nI64 V,.list 3 (a.map ratL)],.agg [nI64 U,nI64 V,.list 3 (b.map ratL)]] (.agg [nI64 U,nI64 V,.list 3 ((zipG (·-·) a b).map ratL)]):=by
 have:=c_TSub U V U V a b U V (upH_same ha hU hV fun x hx=>by have:=ph x hx;omega) (upH_same hb hU hV fun x hx=>by have:=nK x hx;omega) (.inl rfl) (.inl rfl);rwa [upN_self ha,upN_self hb] at this
namespace H_c_turns13
theorem zSm {p q:Prop} (k:q) (e:p=q:=by simp only [sNF,ar,au,aq,frz_nil,prL_kill,kills_map prE,dfr,dfq,bA,aQ,bc,aR,bh,aZ,aS,aN,aK,aO,reduceIte,if_true,if_false,aX,LV.kill,kills];exact rfl):p:=e.mpr k
end H_c_turns13
open H_c_turns13 in
theorem c_turns13 (R U V Ud Vd:Nat) (kU kV:List Rat) (rows:List (List PoR)) (h:pf R U V rows) (hR:R<=200000) (D:List Rat->List Rat) (hd:dfS U V Ud Vd D) (f:Nat) (hf:∀ c:List Rat,c.length=(U+1)*(V+1)->(∀ x∈c,rl x<=2*R)->CallP aa f [.agg [nI64 U,nI64 V,.list 3 (c.map ratL)]] (.agg [nI64 Ud,nI64 Vd,.list 3 ((D c).map ratL)])):CallP aa 167 [.agg [nI64 U,nI64 V,.list 3 (kU.map ratL),.list 3 (kV.map ratL),.list 1 (rows.map prL)],.clo f []] (.agg [.agg [nI64 (Ud+U),nI64 (Vd+V),.list 3 ((sgN U V Ud Vd D rows.flatten 0).map ratL)],.agg [nI64 (Ud+U),nI64 (Vd+V),.list 3 ((sgN U V Ud Vd D rows.flatten 1).map ratL)],.agg [nI64 (Ud+U),nI64 (Vd+V),.list 3 ((sgN U V Ud Vd D rows.flatten 2).map ratL)]]):=by
 have bK:LV.pure (.agg [nI64 U,nI64 V,.list 3 (kU.map ratL),.list 3 (kV.map ratL),.list 1 (rows.map prL)])=true:=bH;have bG:=h.r1;have eC:=h.u3;have fj:=h.v3;have sn:=hd.u;have s8:=hd.v;have cS:=h.wl;have vK:=hd.l _ cS;have rD:=h.wr;have aay:=hd.r _ _ bG cS rD;have tQ:=net_pureN U V (wtP rows.flatten);have aha:=net_pureN Ud Vd (D (wtP rows.flatten));have xn:=h.nl 0;have aeU:=hd.l _ xn;have z5:=h.nr 0;have agc:=hd.r _ _ (show 1<=2*R by omega) xn z5;have agO:=net_pureN U V (nmP rows.flatten 0);have aiF:=net_pureN Ud Vd (D (nmP rows.flatten 0));have ahe:=net_pureN (Ud+U) (Vd+V) (tmL Ud Vd U V (D (nmP rows.flatten 0)) (wtP rows.flatten));have ahg:=net_pureN (Ud+U) (Vd+V) (tmL U V Ud Vd (nmP rows.flatten 0) (D (wtP rows.flatten)));have agF:=net_pureN (Ud+U) (Vd+V) (sgN U V Ud Vd D rows.flatten 0);obtain⟨aeL,aff⟩:=sg_m1 h hd 0;obtain⟨afZ,ae1⟩:=sg_m2 h hd 0;have hA0:=c_prod13 Ud Vd U V (D (nmP rows.flatten 0)) (wtP rows.flatten) aeU cS sn s8 eC fj (4*R+4) J J (fun x hx=>by have:=agc x hx;omega) (fun x hx=>by have:=rD x hx;omega);have lP:=c_prod13 U V Ud Vd (nmP rows.flatten 0) (D (wtP rows.flatten)) xn vK eC fj sn s8 (4*R+4) J J (fun x hx=>by have:=z5 x hx;omega) (fun x hx=>by have:=aay x hx;omega);rw [dM U Ud,dM V Vd] at lP
 have hS0:=c_tSub13 (Ud+U) (Vd+V) (tmL Ud Vd U V (D (nmP rows.flatten 0)) (wtP rows.flatten)) (tmL U V Ud Vd (nmP rows.flatten 0) (D (wtP rows.flatten))) J J aeL afZ (fun x hx=>by have:=aff x hx;omega) (fun x hx=>by have:=ae1 x hx;omega);have yc:=h.nl 1;have afy:=hd.l _ yc;have zQ:=h.nr 1;have afP:=hd.r _ _ (show 1<=2*R by omega) yc zQ;have agY:=net_pureN U V (nmP rows.flatten 1);have ais:=net_pureN Ud Vd (D (nmP rows.flatten 1));have agZ:=net_pureN (Ud+U) (Vd+V) (tmL Ud Vd U V (D (nmP rows.flatten 1)) (wtP rows.flatten));have agR:=net_pureN (Ud+U) (Vd+V) (tmL U V Ud Vd (nmP rows.flatten 1) (D (wtP rows.flatten)));have ahV:=net_pureN (Ud+U) (Vd+V) (sgN U V Ud Vd D rows.flatten 1);obtain⟨ae8,afY⟩:=sg_m1 h hd 1;obtain⟨afj,aeE⟩:=sg_m2 h hd 1;have pC:=c_prod13 Ud Vd U V (D (nmP rows.flatten 1)) (wtP rows.flatten) afy cS sn s8 eC fj (4*R+4) J J (fun x hx=>by have:=afP x hx;omega) (fun x hx=>by have:=rD x hx;omega);have rM:=c_prod13 U V Ud Vd (nmP rows.flatten 1) (D (wtP rows.flatten)) yc vK eC fj sn s8 (4*R+4) J J (fun x hx=>by have:=zQ x hx;omega) (fun x hx=>by have:=aay x hx;omega);rw [dM U Ud,dM V Vd] at rM
 have iz:=c_tSub13 (Ud+U) (Vd+V) (tmL Ud Vd U V (D (nmP rows.flatten 1)) (wtP rows.flatten)) (tmL U V Ud Vd (nmP rows.flatten 1) (D (wtP rows.flatten))) J J ae8 afj (fun x hx=>by have:=afY x hx;omega) (fun x hx=>by have:=aeE x hx;omega);have wU:=h.nl 2;have afX:=hd.l _ wU;have aa7:=h.nr 2;have afM:=hd.r _ _ (show 1<=2*R by omega) wU aa7;have aiC:=net_pureN U V (nmP rows.flatten 2);have ahu:=net_pureN Ud Vd (D (nmP rows.flatten 2));have ahh:=net_pureN (Ud+U) (Vd+V) (tmL Ud Vd U V (D (nmP rows.flatten 2)) (wtP rows.flatten));have ahF:=net_pureN (Ud+U) (Vd+V) (tmL U V Ud Vd (nmP rows.flatten 2) (D (wtP rows.flatten)));have ahH:=net_pureN (Ud+U) (Vd+V) (sgN U V Ud Vd D rows.flatten 2);obtain⟨afq,af9⟩:=sg_m1 h hd 2;obtain⟨afs,afQ⟩:=sg_m2 h hd 2;have lp:=c_prod13 Ud Vd U V (D (nmP rows.flatten 2)) (wtP rows.flatten) afX cS sn s8 eC fj (4*R+4) J J (fun x hx=>by have:=afM x hx;omega) (fun x hx=>by have:=rD x hx;omega);have xZ:=c_prod13 U V Ud Vd (nmP rows.flatten 2) (D (wtP rows.flatten)) wU vK eC fj sn s8 (4*R+4) J J (fun x hx=>by have:=aa7 x hx;omega) (fun x hx=>by have:=aay x hx;omega);rw [dM U Ud,dM V Vd] at xZ
 have mW:=c_tSub13 (Ud+U) (Vd+V) (tmL Ud Vd U V (D (nmP rows.flatten 2)) (wtP rows.flatten)) (tmL U V Ud Vd (nmP rows.flatten 2) (D (wtP rows.flatten))) J J afq afs (fun x hx=>by have:=af9 x hx;omega) (fun x hx=>by have:=afQ x hx;omega);have hfw:=hf (wtP rows.flatten) cS (fun x hx=>by have:=rD x hx;omega);have hf0:=hf (nmP rows.flatten 0) xn z5;have nA:=hf (nmP rows.flatten 1) yc zQ;have gD:=hf (nmP rows.flatten 2) wU aa7;refine fnP Tryz.func167 (ht:=(fun g=>LV.ren_pure g _ (by simp [LV.pure,pures,pures_map ratE]))) ?_;refine zg9 ?_;refine cp am1 (c_PNum U V kU kV rows J J R J h.rw) ?_;refine zg9 ?_;refine st_opc [] rfl rfl (.clo (f:=f) (cap:=[]) (args:=[.agg [nI64 U,nI64 V,.list 3 ((wtP rows.flatten).map ratL)]]) rfl (.cons im0 .nil) ⟨rfl,fun _ h=>by cases h⟩ hfw.1 ae (fun _ h=>by cases h)) (hfw.2 _) ?_;refine zg16 ?_;refine iR ?_;refine wl_regD 16 ah ?_;refine zg5 ?_;refine st_opc [] rfl rfl (.clo (f:=f) (cap:=[]) (args:=[.agg [nI64 U,nI64 V,.list 3 ((nmP rows.flatten 0).map ratL)]]) rfl (.cons im0 .nil) ⟨rfl,fun _ h=>by cases h⟩ hf0.1 ae (fun _ h=>by cases h)) (hf0.2 _) ?_;refine zg2 ?_;refine cp am2 (hA0) ?_;refine zg4 ?_;refine cp am2 (lP) ?_;refine cp am2 (hS0) ?_;refine zg10 ?_;refine iR ?_
 refine wl_regD 16 ah ?_;refine zg5 ?_;refine st_opc [] rfl rfl (.clo (f:=f) (cap:=[]) (args:=[.agg [nI64 U,nI64 V,.list 3 ((nmP rows.flatten 1).map ratL)]]) rfl (.cons im0 .nil) ⟨rfl,fun _ h=>by cases h⟩ nA.1 ae (fun _ h=>by cases h)) (nA.2 _) ?_;refine zg2 ?_;refine cp am2 (pC) ?_;refine zg4 ?_;refine cp am2 (rM) ?_;refine cp am2 (iz) ?_;refine zg10 ?_;refine iR ?_;refine wl_regD 16 ah ?_;refine zg5 ?_;refine st_opc [] rfl rfl (.clo (f:=f) (cap:=[]) (args:=[.agg [nI64 U,nI64 V,.list 3 ((nmP rows.flatten 2).map ratL)]]) rfl (.cons im0 .nil) ⟨rfl,fun _ h=>by cases h⟩ gD.1 ae (fun _ h=>by cases h)) (gD.2 _) ?_;refine zg2 ?_;refine cp am2 (lp) ?_;refine zg4 ?_;refine cp am2 (xZ) ?_;refine cp am2 (mW) ?_;refine zg10 ?_;refine km ?_;refine zg12 ?_;exact retC [] rfl rfl rfl cs (at_all cs rfl) T242 (.pure (by simp [LV.pure,pures,pures_map ratE]))
section
variable {R U V:Nat} {rows:List (List PoR)} (h:pf R U V rows)
include h
theorem pf.pos:0<rows.flatten.length:=by rw [h.len];exact Nat.mul_pos (mi U) (mi V)
theorem pf.wlo:0<(bndP (wtP rows.flatten)).1:=by
 have h0:0<(wtP rows.flatten).length:=by rw [wtP_len];exact h.pos
 obtain⟨i,hi,e⟩:=((bk_spec (wtP rows.flatten) (wtP rows.flatten).length).2 h0).1;show 0<(bkP (wtP rows.flatten) (wtP rows.flatten).length).1;rw [e];obtain⟨q,hq,hw⟩:=bS.1 (getD_mem (p:=wtP rows.flatten) hi);rw [<-hw];exact(h.fok q hq).2.2
theorem pf.wsq:bdS (2*R) (sqS (bndP (wtP rows.flatten)))/\hasR (sqS (bndP (wtP rows.flatten))) 0=false:=by
 have h0:0<(wtP rows.flatten).length:=by rw [wtP_len];exact h.pos
 exact⟨sqS_bd (bnd_rl h.r1 h.wr) h.r1,(sq_pos h.wlo (bnd_le12 h0)).2⟩
end
def psK (U V Ud Vd:Nat) (D:List Rat->List Rat) (F:List PoR) (wd:Rat) (k:Nat):Rat × Rat:=muS (quS (bndP (sgN U V Ud Vd D F k)) (sqS (bndP (wtP F)))) (1/wd,1/wd)
def psB (U V Ud Vd:Nat) (D:List Rat->List Rat) (F:List PoR) (wd:Rat):Bx3:=⟨psK U V Ud Vd D F wd 0,psK U V Ud Vd D F wd 1,psK U V Ud Vd D F wd 2⟩
theorem rc_pt (w:Rat):rcS (w,w)=(1/w,1/w):=by
 unfold rcS mnR mxR;simp only [ite_self]
theorem qu_pt (s:Rat × Rat) (w:Rat):quS s (w,w)=muS s (1/w,1/w):=by unfold quS;rw [rc_pt]
theorem pt_no0 {a b:Rat} (h:a<b):hasR (b-a,b-a) 0=false:=by
 unfold hasR;rw [decide_eq_false (by show ¬(b-a<=0);grind)];rfl
theorem shX_of {x:Rat} (h:rl x<=8):shX x:=by
 have:=rl_sub 1 x;have:rl 1=1:=rfl;unfold shX;omega
theorem sg_bnd {R U V Ud Vd:Nat} {rows:List (List PoR)} {D:List Rat->List Rat} (h:pf R U V rows) (hd:dfS U V Ud Vd D) (k:Nat):bdS (1800*R+4201) (bndP (sgN U V Ud Vd D rows.flatten k)):=bnd_rl J (sg_rl h hd k)
theorem psK_bd {R U V Ud Vd:Nat} {rows:List (List PoR)} {D:List Rat->List Rat} (h:pf R U V rows) (hd:dfS U V Ud Vd D) {wd:Rat} (hw:rl wd<=1000) (k:Nat) :
  bdS (1802*R+4202) (quS (bndP (sgN U V Ud Vd D rows.flatten k)) (sqS (bndP (wtP rows.flatten))))/\bdS 1001 (1/wd,1/wd)/\bdS (1802*R+5203) (psK U V Ud Vd D rows.flatten wd k):=by
 have h1:=quS_bd (sg_bnd h hd k) h.wsq.1;have h2:=rl_div 1 wd;have h3:rl 1=1:=rfl;have h4:bdS 1001 (1/wd,1/wd):=⟨by show rl (1/wd)<=_;omega,by show rl (1/wd)<=_;omega⟩;have h5:bdS (1802*R+4202) (quS (bndP (sgN U V Ud Vd D rows.flatten k)) (sqS (bndP (wtP rows.flatten)))):=h1.le J;exact⟨h5,h4,(muS_bd h5 h4).le J⟩
theorem psB_bd {R U V Ud Vd:Nat} {rows:List (List PoR)} {D:List Rat->List Rat} (h:pf R U V rows) (hd:dfS U V Ud Vd D) {wd:Rat} (hw:rl wd<=1000):bdB (1802*R+5203) (psB U V Ud Vd D rows.flatten wd) :=
 ⟨(psK_bd h hd hw 0).2.2,(psK_bd h hd hw 1).2.2,(psK_bd h hd hw 2).2.2⟩
structure pdS (Du Dv:Nat) (q:List Rat) (x y:Rat):Prop where
 hl:q.length=(Du+1)*(Dv+1)
 du:Du<=6
 dv:Dv<=6
 qr:∀ t∈q,rl t<=49231
 hx:shX x
 hy:shX y
theorem pdS.e {Du Dv:Nat} {q:List Rat} {x y:Rat} (h:pdS Du Dv q x y):rl (evT Du Dv q x y)<=201970100 :=
 aw (evT_sz h.hl h.du h.dv (by omega:1<=49231) J h.qr h.hx h.hy).2.2.2.2 ae
open H_c_PDom in
theorem c_box13 (Du Dv:Nat) (nk nq nw:List Rat) (a b:Rat) (w:Rat × Rat) (S:Nat) (iz:1<=S) (hS:S<=49000000) (ha:rl a<=100) (hb:rl b<=100) (aW:a<b) (hw:bdS S w) (hz:hasR w 0=false) (xP:nk.length<=49) (fH:∀ t∈nk,rl t<=S) (en:nq.length<=49) (bG:∀ t∈nq,rl t<=S) (gI:nw.length<=49) (ir:∀ t∈nw,rl t<=S):CallP aa 165 [.agg [.agg [nI64 Du,nI64 Dv,.list 3 (nk.map ratL)],.agg [nI64 Du,nI64 Dv,.list 3 (nq.map ratL)],.agg [nI64 Du,nI64 Dv,.list 3 (nw.map ratL)]],spL (a,b),.boxp (spL w)] (bxL ⟨(muS (quS (bndP nk) w) (1/(b-a),1/(b-a))),(muS (quS (bndP nq) w) (1/(b-a),1/(b-a))),(muS (quS (bndP nw) w) (1/(b-a),1/(b-a)))⟩):=by
 have cY:∀ l:List Rat,pures (l.map ratL)=true:=fun l=>pures_map ratE l;have aiD:=net_pureN Du Dv nk;have ahL:=net_pureN Du Dv nq;have aiv:=net_pureN Du Dv nw;have hp3:LV.pure (.agg [.agg [nI64 Du,nI64 Dv,.list 3 (nk.map ratL)],.agg [nI64 Du,nI64 Dv,.list 3 (nq.map ratL)],.agg [nI64 Du,nI64 Dv,.list 3 (nw.map ratL)]])=true:=by simp [LV.pure,pures,pures_map ratE]
 have fC:=rl_sub b a;have uU:bdS (2*S+1001) (b-a,b-a):=⟨by show rl (b-a)<=_;omega,by show rl (b-a)<=_;omega⟩;have acL:=bnd_rl iz fH;have afK:bdS (2*S+1001) (quS (bndP nk) w):=(quS_bd acL hw).le J;have hz0:=c_SQuo (quS (bndP nk) w) (b-a,b-a) (2*S+1001) J afK uU (pt_no0 aW);rw [qu_pt] at hz0;have adq:=bnd_rl iz bG;have afC:bdS (2*S+1001) (quS (bndP nq) w):=(quS_bd adq hw).le J;have jA:=c_SQuo (quS (bndP nq) w) (b-a,b-a) (2*S+1001) J afC uU (pt_no0 aW);rw [qu_pt] at jA;have ab6:=bnd_rl iz ir;have af6:bdS (2*S+1001) (quS (bndP nw) w):=(quS_bd ab6 hw).le J;have kh:=c_SQuo (quS (bndP nw) w) (b-a,b-a) (2*S+1001) J af6 uU (pt_no0 aW);rw [qu_pt] at kh;refine fnP Tryz.func165 (ht:=(fun r=>LV.ren_pure r _ (bxE.pure _))) ?_;refine zg20 ?_;refine fq ?_;refine zg14 ?_;refine wl_regF 8 [6] ah ?_;refine zg1 ?_;refine cp am1 (c_TBnd Du Dv nk J (fun t ht=>by have:=fH t ht;omega)) ?_;refine zg1 ?_;refine cp am2 (c_SQuo (bndP nk) w S J acL hw hz) ?_;refine aaV ?_;refine cp am2 (hz0) ?_;refine zg8 ?_;refine wl_regW ((Weak.kill _ 9).trans (Weak.kill _ 8)) ?_;refine zg4 ?_;refine wl_unroll ?_;refine zg6 ?_
 refine wl_condX (b:=_) rfl ae ?_;refine zg14 ?_;refine wl_regF 8 [6] ah ?_;refine zg1 ?_;refine cp am1 (c_TBnd Du Dv nq J (fun t ht=>by have:=bG t ht;omega)) ?_;refine zg1 ?_;refine cp am2 (c_SQuo (bndP nq) w S J adq hw hz) ?_;refine aaV ?_;refine cp am2 (jA) ?_;refine zg8 ?_;refine wl_regW ((Weak.kill _ 9).trans (Weak.kill _ 8)) ?_;refine zg4 ?_;refine fq ?_;refine zg14 ?_;refine wl_regF 8 [6] ah ?_;refine zg1 ?_;refine cp am1 (c_TBnd Du Dv nw J (fun t ht=>by have:=ir t ht;omega)) ?_;refine zg1 ?_;refine cp am2 (c_SQuo (bndP nw) w S J ab6 hw hz) ?_;refine aaV ?_;refine cp am2 (kh) ?_;refine zg8 ?_;refine wl_regW ((Weak.kill _ 9).trans (Weak.kill _ 8)) ?_;refine zg4 ?_;refine km ?_;refine zg12 ?_;exact retC [] rfl rfl rfl cs (at_all cs rfl) T96 (.pure pu)
open H_c_turns13 in
theorem c_PSpd (R U V:Nat) (ua ub va vb:Rat) (rows:List (List PoR)) (h:pf R U V rows) (nG:rl ua<=100) (vC:rl ub<=100) (k9:rl va<=100) (ru:rl vb<=100) (hu:ua<ub) (hv:va<vb) (hR:R<=20000):CallP aa 90 [.agg [nI64 U,nI64 V,.list 3 ((kn2 U ua ub).map ratL),.list 3 ((kn2 V va vb).map ratL),.list 1 (rows.map prL)]] (.tup [bxL (psB U V (U-1) V (dfU U V) rows.flatten (ub-ua)),bxL (psB U V U (V-1) (dfV U V) rows.flatten (vb-va))]):=by
 have cY:∀ l:List Rat,pures (l.map ratL)=true:=fun l=>pures_map ratE l;have bK:LV.pure (.agg [nI64 U,nI64 V,.list 3 ((kn2 U ua ub).map ratL),.list 3 ((kn2 V va vb).map ratL),.list 1 (rows.map prL)])=true:=bH;have iE:=pure_lst ratE 3 (kn2 U ua ub);have fg:=pure_lst ratE 3 (kn2 V va vb);have eC:=h.u3;have fj:=h.v3;have bG:=h.r1;have aht:=rl_sub ub ua;have aiu:=rl_sub vb va;have sg:dfS U V (U-1) V (dfU U V):=dfS_U h.u3 h.v3;have pe:dfS U V U (V-1) (dfV U V):=dfS_V h.u3 h.v3;have yd:=h.wsq;have hwb:=bnd_rl h.r1 h.wr;have cS:=h.wl;have tt:=sq_le3 eC fj;have aif:(wtP rows.flatten).length<=49:=J;have hpW:=net_pureN U V (wtP rows.flatten);have hpU:LV.pure (.agg [.agg [nI64 ((U-1)+U),nI64 (V+V),.list 3 ((sgN U V (U-1) V (dfU U V) rows.flatten 0).map ratL)],.agg [nI64 ((U-1)+U),nI64 (V+V),.list 3 ((sgN U V (U-1) V (dfU U V) rows.flatten 1).map ratL)],.agg [nI64 ((U-1)+U),nI64 (V+V),.list 3 ((sgN U V (U-1) V (dfU U V) rows.flatten 2).map ratL)]])=true:=by simp [LV.pure,pures,pures_map ratE]
 have hpV:LV.pure (.agg [.agg [nI64 (U+U),nI64 ((V-1)+V),.list 3 ((sgN U V U (V-1) (dfV U V) rows.flatten 0).map ratL)],.agg [nI64 (U+U),nI64 ((V-1)+V),.list 3 ((sgN U V U (V-1) (dfV U V) rows.flatten 1).map ratL)],.agg [nI64 (U+U),nI64 ((V-1)+V),.list 3 ((sgN U V U (V-1) (dfV U V) rows.flatten 2).map ratL)]])=true:=by simp [LV.pure,pures,pures_map ratE]
 have p8:pures [.boxp (spL (sqS (bndP (wtP rows.flatten))))]=true:=by simp [pures,LV.pure,spE.pure]
 have hAU:=c_box13 ((U-1)+U) (V+V) (sgN U V (U-1) V (dfU U V) rows.flatten 0) (sgN U V (U-1) V (dfU U V) rows.flatten 1) (sgN U V (U-1) V (dfU U V) rows.flatten 2) ua ub (sqS (bndP (wtP rows.flatten))) (1800*R+4201) J J nG vC hu (yd.1.le J) yd.2 (sg_l49 h sg 0) (sg_rl h sg 0) (sg_l49 h sg 1) (sg_rl h sg 1) (sg_l49 h sg 2) (sg_rl h sg 2);have hTU:=c_turns13 R U V (U-1) V (kn2 U ua ub) (kn2 V va vb) rows h J (dfU U V) sg 168 (fun c hc hr=>c_DiffU U V c hc (by rw [hc];have:=sq_le3 eC fj;omega) (fun t ht=>by have:=hr t ht;omega) J);have hAV:=c_box13 (U+U) ((V-1)+V) (sgN U V U (V-1) (dfV U V) rows.flatten 0) (sgN U V U (V-1) (dfV U V) rows.flatten 1) (sgN U V U (V-1) (dfV U V) rows.flatten 2) va vb (sqS (bndP (wtP rows.flatten))) (1800*R+4201) J J k9 ru hv (yd.1.le J) yd.2 (sg_l49 h pe 0) (sg_rl h pe 0) (sg_l49 h pe 1) (sg_rl h pe 1) (sg_l49 h pe 2) (sg_rl h pe 2);have hTV:=c_turns13 R U V U (V-1) (kn2 U ua ub) (kn2 V va vb) rows h J (dfV U V) pe 169 (fun c hc hr=>c_DiffV U V c hc (by rw [hc];have:=sq_le3 eC fj;omega) (fun t ht=>by have:=hr t ht;omega) J);refine fnP Tryz.func90 (ht:=(tame2 (bxE.pure _) (bxE.pure _))) ?_;refine zg10 ?_;refine cp am1 (c_PNum U V (kn2 U ua ub) (kn2 V va vb) rows J J R J h.rw) ?_;refine zg1 ?_;refine cp am1 (c_TBnd U V (wtP rows.flatten) J (fun t ht=>by have:=h.wr t ht;omega)) ?_
 refine cp am1 (c_SSqr (bndP (wtP rows.flatten)) R J hwb) ?_;refine zg6 ?_;refine st_opc [4] rfl rfl (.mk (caps:=[.boxp (spL (sqS (bndP (wtP rows.flatten))))]) (.cons (.eptr rfl rfl rfl (spE.csize _) (spL_all _) (spE.pure _) rfl) .nil) (fun x hx=>by rw [bD.1 hx];exact⟨rfl,rfl⟩)) rfl ?_;refine zg6 ?_;refine cp am1 (c_PDom U V ua ub va vb rows nG vC k9 ru hu hv J J) ?_;refine zg10 ?_;refine wl_regD 10 ah ?_;refine zg2 ?_;refine cp am2 (hTU) ?_;refine zg1 ?_;refine st_opc [] rfl rfl (.clo (f:=165) (cap:=[.boxp (spL (sqS (bndP (wtP rows.flatten))))]) (args:=[.agg [.agg [nI64 ((U-1)+U),nI64 (V+V),.list 3 ((sgN U V (U-1) V (dfU U V) rows.flatten 0).map ratL)],.agg [nI64 ((U-1)+U),nI64 (V+V),.list 3 ((sgN U V (U-1) V (dfU U V) rows.flatten 1).map ratL)],.agg [nI64 ((U-1)+U),nI64 (V+V),.list 3 ((sgN U V (U-1) V (dfU U V) rows.flatten 2).map ratL)]],spL (ua,ub)]) rfl (.cons im0 (.cons im0 .nil)) ⟨p8,(fun x hx=>by rw [bD.1 hx];exact⟨rfl,rfl⟩)⟩ hAU.1 ae (fun _ h=>by cases h)) (hAU.2 _) ?_;refine zg2 ?_;refine cp am2 (hTV) ?_;refine zg1 ?_
 refine st_opc [] rfl rfl (.clo (f:=165) (cap:=[.boxp (spL (sqS (bndP (wtP rows.flatten))))]) (args:=[.agg [.agg [nI64 (U+U),nI64 ((V-1)+V),.list 3 ((sgN U V U (V-1) (dfV U V) rows.flatten 0).map ratL)],.agg [nI64 (U+U),nI64 ((V-1)+V),.list 3 ((sgN U V U (V-1) (dfV U V) rows.flatten 1).map ratL)],.agg [nI64 (U+U),nI64 ((V-1)+V),.list 3 ((sgN U V U (V-1) (dfV U V) rows.flatten 2).map ratL)]],spL (va,vb)]) rfl (.cons im0 (.cons im0 .nil)) ⟨p8,(fun x hx=>by rw [bD.1 hx];exact⟨rfl,rfl⟩)⟩ hAV.1 ae (fun _ h=>by cases h)) (hAV.2 _) ?_;refine zg5 ?_;exact retCC [] rfl rfl rfl cs (at_all cs rfl) T96 (.pure pu) rfl rfl cs (at_all cs rfl) T96 (.pure pu)
def eqV (p q:V3):Bool:=decide (p.x=q.x) && (decide (p.y=q.y) && decide (p.z=q.z))
theorem eqV_iff {p q:V3}:eqV p q=true↔p=q:=by
 obtain⟨a,b,c⟩:=p;obtain⟨d,e,f⟩:=q;simp [eqV]
section
variable {R U V:Nat} {rows:List (List PoR)} (h:pf R U V rows)
include h
theorem pf.r0 {i:Nat} (hi:i<=U):(rows.getD i []).length=V+1:=h.m _ (getR_mem (by rw [h.n];omega))
theorem pf.pt {i j:Nat} (hi:i<=U) (hj:j<=V):bd3 R ((rows.getD i []).getD j default).p:=(h.ok _ (getR_mem (by rw [h.n];omega)) _ (getD_memP (by rw [h.r0 hi];omega))).1
theorem pf.fp {i:Nat} (hi:i<(rows.flatten.map (·.p)).length):bd3 R ((rows.flatten.map (·.p)).getD i default):=by
 rw [ps_get];exact(h.fok _ (getD_memP (by rw [aA] at hi;exact hi))).1
end
open H_c_Distinct in
theorem c_FPtEq (p q:V3) (hp:bd3 100000000000 p) (hq:bd3 100000000000 q):CallP aa 15 [ptL p,ptL q] (bL (eqV p q)):=by
 obtain⟨a1,a2,a3⟩:=hp;obtain⟨y1,y2,y3⟩:=hq;refine fnP Tryz.func15 ?_;refine zg13 ?_;refine cp am2 (c_FSame p.x q.x J) ?_;refine zg1 ?_;refine op_if 10 rfl ?_ ?_<;>intro fB iN
 ·refine zg4 ?_;refine cp am2 (c_FSame p.y q.y J) ?_;refine zg2 ?_;refine op_if 17 rfl ?_ ?_<;>intro ng kf
  ·refine zg4 ?_;refine cp am2 (c_FSame p.z q.z J) ?_;refine zg5 ?_;rw [show eqV p q=decide (p.z=q.z) from by unfold eqV;simp [show p.x=q.x by simpa using iN,show p.y=q.y by simpa using kf]];exact dS
  refine zg10 ?_;rw [show eqV p q=false from by unfold eqV;simp [show ¬p.y=q.y by simpa using kf]];exact dS
 refine zg17 ?_;rw [show eqV p q=false from by unfold eqV;simp [show ¬p.x=q.x by simpa using iN]];exact dS
namespace H_c_ppts
theorem zSm {p q:Prop} (k:q) (e:p=q:=by simp only [sNF,ar,au,aq,prL,a9,dJ,adw,len_snoc,prL_kill,kills_map prE,dfr,dfq,bA,aQ,bc,aR,bh,aZ,aS,aN,aK,aO,reduceIte,if_true,if_false,aX,LV.kill,kills];exact rfl):p:=e.mpr k
end H_c_ppts
open H_c_ppts in
theorem c_ppts (U V:Nat) (kU kV:List Rat) (rows:List (List PoR)) (R:Nat) (hw:rwOK rows R):CallP aa 89 [.agg [nI64 U,nI64 V,.list 3 (kU.map ratL),.list 3 (kV.map ratL),.list 1 (rows.map prL)]] (.list 9 ((rows.flatten.map (·.p)).map ptL)):=by
 have bK:LV.pure (.agg [nI64 U,nI64 V,.list 3 (kU.map ratL),.list 3 (kV.map ratL),.list 1 (rows.map prL)])=true:=bH;have wA:=hw.n;have hwf:=hw.f;refine fnP Tryz.func89 (ht:=(fun g=>LV.ren_pure g _ (pure_lst ptE 9 _))) ?_;have a9:True:=trivial;have dJ:True:=trivial;have adw:True:=trivial;refine zg21 ?_;refine wl_weak ((Weak.kill _ 1).trans (Weak.own (t:=3) 25 9 rfl rfl)) ?_;refine lp2 (fun(i:Nat) (ps:List PoR) L=>(mS L [(25,⟨9,(ps.map (·.p)).map ptL,true⟩)] [(11,nI64 i),(10,nI64 rows.length),(9,.list 1 (rows.map prL)),(3,.ref 25 9 0 ps.length)])) (fun i ps=>rwI rows i ps) (fun i ps=>rows.length-i) 0 ([]) (rwI.zero rows) ?_;rintro i ps L1 hI;refine zg6 ?_;refine wl_if rfl ?_ ?_<;>intro vv wI
 ·have hi2:i<rows.length:=J;refine zg19 ?_;refine lp2 (fun(j:Nat) (qs:List PoR) L=>(mS L [(25,⟨9,(qs.map (·.p)).map ptL,true⟩)] [(17,nI64 j),(16,nI64 (rows.getD i []).length),(15,.list 12 ((rows.getD i []).map poL)),(11,nI64 i),(10,nI64 rows.length),(9,.list 1 (rows.map prL)),(3,.ref 25 9 0 qs.length)])) (fun j qs=>rwJ rows i j qs) (fun j qs=>(rows.getD i []).length-j) 0 ps (hI.go hi2) ?_;rintro j qs L2 hJ;refine zg6 ?_;refine wl_if rfl ?_ ?_<;>intro jU kg
  ·have bo:j<(rows.getD i []).length:=J;have hJe:=hJ.hj;have hJl:=hJ.le;have rj:=hJ.hi;have qw:=getR_mem rj;have eG:=hw.m _ qw;have dJ:(qs.map (·.p))++[((rows.getD i []).getD j default).p]=((qs++[((rows.getD i []).getD j default)]).map (·.p)):=aj;have a9:((qs.map (·.p)).map ptL).take qs.length=(qs.map (·.p)).map ptL:=aH aj;have adw:(qs.map (·.p)).length=qs.length:=aA ..;have hJ2:=hJ.lt bo;refine zg17 ?_;refine st_store rfl (.appX (d:=25) (news:=[ptL ((rows.getD i []).getD j default).p]) rfl rfl rfl rfl aj (.inl rfl) ae tF tF Z54 T54 cs B54 (.inl ⟨24,0,_,rfl,by decide,rfl,rfl,by simp,rfl,by simp [pures,ptE.pure]⟩) al al ae) ?_;refine zg4 ?_;refine wl_regW ((Weak.kill _ 7).trans (Weak.kill _ 24)) ?_;refine bq ?_;exact nx2 (j+1) (qs++[((rows.getD i []).getD j default)]) (hJ.next bo)
  have hJe:=hJ.hj;have hJl:=hJ.le;have rj:=hJ.hi;have qw:=getR_mem rj;have eG:=hw.m _ qw;obtain rfl:j=(rows.getD i []).length:=J;refine zg7 ?_;refine bq ?_;exact nx2 (i+1) qs hJ.last (hm:=by have:=hJ.hi;omega)
 have hIi:=hI.hi;obtain rfl:i=rows.length:=J;have hE:=hI.last;subst hE;refine zg12 ?_;exact ret1f [25] rfl rfl (imm_refm ptE rfl rfl (by rw [aA]))
open H_c_PDom in
theorem c_PBox (R U V:Nat) (kU kV:List Rat) (rows:List (List PoR)) (h:pf R U V rows) (hR:R<=200000):CallP aa 38 [.agg [nI64 U,nI64 V,.list 3 (kU.map ratL),.list 3 (kV.map ratL),.list 1 (rows.map prL)]] (bxL (bxP (rows.flatten.map (·.p)))):=by
 have bK:LV.pure (.agg [nI64 U,nI64 V,.list 3 (kU.map ratL),.list 3 (kV.map ratL),.list 1 (rows.map prL)])=true:=bH;have ks:=h.l16;have h0:=h.pos;have dW:(rows.flatten.map (·.p)).length=rows.flatten.length:=aA ..;refine fnP Tryz.func38 (ht:=(fun r=>LV.ren_pure r _ (bxE.pure _))) ?_;refine zg9 ?_;refine cp am1 (c_ppts U V kU kV rows R h.rw) ?_;refine cp am1 (c_VBoxOf (rows.flatten.map (·.p)) J J R J (fun i hi=>h.fp hi)) ?_;refine zg15 ?_;exact retC [] rfl rfl rfl cs (at_all cs rfl) T96 (.pure pu)
def evF (U V:Nat) (f:Nat->Nat->Rat) (u v:Rat):Rat:=fE (1-v) v V (fun j=>fE (1-u) u U (fun i=>f i j))
theorem evT_F {U V:Nat} (c:List Rat) (u v:Rat):evT U V c u v=evF U V (fun i j=>c.getD (i*(V+1)+j) 0) u v:=by
 rw [evT,ev_fE (by rw [rowT_len];omega),rowT_len,df];exact fE_congr _ _ _ _ _ fun j hj=>row_get hj u
theorem evF_congr {U V:Nat} {f g:Nat->Nat->Rat} (u v:Rat) (h:∀ i j,i<=U->j<=V->f i j=g i j):evF U V f u v=evF U V g u v :=
 fE_congr _ _ _ _ _ fun j hj=>fE_congr _ _ _ _ _ fun i hi=>h i j hi hj
theorem fE_lin4 (a b p q r s:Rat) (n:Nat) (f g h k:Nat->Rat):fE a b n (fun i=>p*f i+q*g i+r*h i+s*k i)=p*fE a b n f+q*fE a b n g+r*fE a b n h+s*fE a b n k:=by
 have e:(fun i=>p*f i+q*g i+r*h i+s*k i)=fun i=>1*(p*f i+q*g i)+1*(r*h i+s*k i):=by funext i;grind
 rw [e,fE_lin,fE_lin,fE_lin];grind
theorem evF_lin4 {U V:Nat} (p q r s:Rat) (f g h k:Nat->Nat->Rat) (u v:Rat):evF U V (fun i j=>p*f i j+q*g i j+r*h i j+s*k i j) u v=p*evF U V f u v+q*evF U V g u v+r*evF U V h u v+s*evF U V k u v:=by
 unfold evF;rw [<-fE_lin4];exact fE_congr _ _ _ _ _ fun j _=>fE_lin4 ..
theorem evF_nn {U V:Nat} {f:Nat->Nat->Rat} {u v:Rat} (q8:0<=u) (jx:u<=1) (qR:0<=v) (kI:v<=1) (h:∀ i j,i<=U->j<=V->0<=f i j):0<=evF U V f u v :=
 fE_nn ay qR _ _ fun j hj=>fE_nn ay q8 _ _ fun i hi=>h i j hi hj
theorem evT_sub {U V:Nat} {a b:List Rat} (ha:a.length=(U+1)*(V+1)) (u v:Rat):evT U V (zipG (·-·) a b) u v=evT U V a u v-evT U V b u v:=by
 rw [evT_F,evT_F,evT_F];have e:=evF_lin4 (U:=U) (V:=V) 1 (-1) 0 0 (fun i j=>a.getD (i*(V+1)+j) 0) (fun i j=>b.getD (i*(V+1)+j) 0) (fun _ _=>0) (fun _ _=>0) u v;rw [evF_congr (g:=fun i j=>1*a.getD (i*(V+1)+j) 0+-1*b.getD (i*(V+1)+j) 0+0*0+0*0) u v fun i j hi hj=>by
  rw [zipG_get (by rw [ha];exact ix_lt hi hj)];grind]
 rw [e];grind
def peV (U V:Nat) (F:List PoR) (x y:Rat):V3:=v3m (1/evT U V (wtP F) x y) ⟨evT U V (nmP F 0) x y,evT U V (nmP F 1) x y,evT U V (nmP F 2) x y⟩
section
variable {R U V:Nat} {rows:List (List PoR)} (h:pf R U V rows) {x y:Rat} (x0:0<=x) (x1:x<=1) (y0:0<=y) (y1:y<=1)
include h x0 x1 y0 y1
theorem pf.win:(bndP (wtP rows.flatten)).1<=evT U V (wtP rows.flatten) x y/\evT U V (wtP rows.flatten) x y<=(bndP (wtP rows.flatten)).2 :=
 evT_in h.wl x0 x1 y0 y1 fun z hz=>by
  obtain⟨i,hi,rfl⟩:=mP hz;have:=(bk_spec (wtP rows.flatten) (wtP rows.flatten).length).1 i hi;rwa [ao,aB hi] at this
theorem pf.wpos:0<evT U V (wtP rows.flatten) x y:=lt_le_trans h.wlo (pf.win h x0 x1 y0 y1).1
theorem pf.nn {p q r s:Rat} (hq:∀ o∈rows.flatten,0<=p*o.w+q*(o.w*o.p.x)+r*(o.w*o.p.y)+s*(o.w*o.p.z)) :
  0<=p*evT U V (wtP rows.flatten) x y+q*evT U V (nmP rows.flatten 0) x y+r*evT U V (nmP rows.flatten 1) x y+s*evT U V (nmP rows.flatten 2) x y:=by
 rw [evT_F,evT_F,evT_F,evT_F,<-evF_lin4];refine evF_nn x0 x1 y0 y1 fun i j hi hj=>?_;have hx:i*(V+1)+j<rows.flatten.length:=by rw [h.len];exact ix_lt hi hj
 have:=hq _ (getD_memP hx);rw [wt_get hx,nm_get hx,nm_get hx,nm_get hx];exact this
theorem pe_lin {lo hi a b c d:Rat} (hq:∀ o∈rows.flatten,lo<=a*o.p.x+b*o.p.y+c*o.p.z-d/\a*o.p.x+b*o.p.y+c*o.p.z-d<=hi) :
  lo<=a*(peV U V rows.flatten x y).x+b*(peV U V rows.flatten x y).y+c*(peV U V rows.flatten x y).z-d/\a*(peV U V rows.flatten x y).x+b*(peV U V rows.flatten x y).y+c*(peV U V rows.flatten x y).z-d<=hi:=by
 have hw:=pf.wpos h x0 x1 y0 y1;have kG:=(inv_mono hw dD).1;have hr:1/evT U V (wtP rows.flatten) x y*evT U V (wtP rows.flatten) x y=1:=gz ay;have k1:=pf.nn h x0 x1 y0 y1 (p:=hi+d) (q:=-a) (r:=-b) (s:=-c) fun o ho=>by
  have:=cO (dp (h.fok o ho).2.2) (show 0<=hi-(a*o.p.x+b*o.p.y+c*o.p.z-d) by have:=(hq o ho).2;grind);grind
 have k2:=pf.nn h x0 x1 y0 y1 (p:=-lo-d) (q:=a) (r:=b) (s:=c) fun o ho=>by
  have:=cO (dp (h.fok o ho).2.2) (show 0<=(a*o.p.x+b*o.p.y+c*o.p.z-d)-lo by have:=(hq o ho).1;grind);grind
 have m1:=cO (dp kG) k1;have m2:=cO (dp kG) k2;unfold peV v3m;simp only;clear hq k1 k2;generalize 1/evT U V (wtP rows.flatten) x y=r at *
 generalize evT U V (wtP rows.flatten) x y=w at *
 generalize evT U V (nmP rows.flatten 0) x y=n0 at *
 generalize evT U V (nmP rows.flatten 1) x y=n1 at *
 generalize evT U V (nmP rows.flatten 2) x y=n2 at *
 have e1:r*((hi+d)*w+-a*n0+-b*n1+-c*n2)=(hi+d)*(r*w)-(a*(r*n0)+b*(r*n1)+c*(r*n2)):=ay;have e2:r*((-lo-d)*w+a*n0+b*n1+c*n2)=(a*(r*n0)+b*(r*n1)+c*(r*n2))-(lo+d)*(r*w):=ay;rw [e1,hr] at m1;rw [e2,hr] at m2;constructor<;>grind
theorem pe_box (k:Nat) (hk:k<3):hasR (bxN (rows.flatten.map (·.p)) k ((rows.flatten.map (·.p)).length-1)) ((peV U V rows.flatten x y).at k)=true:=by
 have hb:∀ o∈rows.flatten,(bxN (rows.flatten.map (·.p)) k ((rows.flatten.map (·.p)).length-1)).1<=o.p.at k/\o.p.at k<=(bxN (rows.flatten.map (·.p)) k ((rows.flatten.map (·.p)).length-1)).2:=fun q hq=>by
  obtain⟨i,hi,rfl⟩:=List.mem_iff_getElem.1 hq;have:=bxN_in (rows.flatten.map (·.p)) k ((rows.flatten.map (·.p)).length-1) i lN;rw [ps_get,ao,aB hi] at this;exact this
 generalize bxN (rows.flatten.map (·.p)) k ((rows.flatten.map (·.p)).length-1)=B at *
 have:B.1<=(peV U V rows.flatten x y).at k/\(peV U V rows.flatten x y).at k<=B.2:=by
  rcases(show k=0\/k=1\/k=2 by omega) with rfl | rfl | rfl
  ·have:=pe_lin h x0 x1 y0 y1 (lo:=B.1) (hi:=B.2) (a:=1) (b:=0) (c:=0) (d:=0) fun o ho=>by
    obtain⟨g1,g2⟩:=hb o ho;have g1:B.1<=o.p.x:=g1;have g2:o.p.x<=B.2:=g2;constructor<;>grind
   show B.1<=(peV U V rows.flatten x y).x/\(peV U V rows.flatten x y).x<=B.2;constructor<;>grind
  ·have:=pe_lin h x0 x1 y0 y1 (lo:=B.1) (hi:=B.2) (a:=0) (b:=1) (c:=0) (d:=0) fun o ho=>by
    obtain⟨g1,g2⟩:=hb o ho;have g1:B.1<=o.p.y:=g1;have g2:o.p.y<=B.2:=g2;constructor<;>grind
   show B.1<=(peV U V rows.flatten x y).y/\(peV U V rows.flatten x y).y<=B.2;constructor<;>grind
  have:=pe_lin h x0 x1 y0 y1 (lo:=B.1) (hi:=B.2) (a:=0) (b:=0) (c:=1) (d:=0) fun o ho=>by
   obtain⟨g1,g2⟩:=hb o ho;have g1:B.1<=o.p.z:=g1;have g2:o.p.z<=B.2:=g2;constructor<;>grind
  show B.1<=(peV U V rows.flatten x y).z/\(peV U V rows.flatten x y).z<=B.2;constructor<;>grind
 unfold hasR;rw [decide_eq_true this.1,decide_eq_true this.2];rfl
theorem ps_in {Ud Vd:Nat} {D:List Rat->List Rat} (hd:dfS U V Ud Vd D) (wd:Rat) (k:Nat) :
  (psK U V Ud Vd D rows.flatten wd k).1<=1/(wd*(evT U V (wtP rows.flatten) x y*evT U V (wtP rows.flatten) x y))*evT (Ud+U) (Vd+V) (sgN U V Ud Vd D rows.flatten k) x y /\
  1/(wd*(evT U V (wtP rows.flatten) x y*evT U V (wtP rows.flatten) x y))*evT (Ud+U) (Vd+V) (sgN U V Ud Vd D rows.flatten k) x y<=(psK U V Ud Vd D rows.flatten wd k).2:=by
 obtain⟨t1,t2⟩:(bndP (sgN U V Ud Vd D rows.flatten k)).1<=evT (Ud+U) (Vd+V) (sgN U V Ud Vd D rows.flatten k) x y/\evT (Ud+U) (Vd+V) (sgN U V Ud Vd D rows.flatten k) x y<=(bndP (sgN U V Ud Vd D rows.flatten k)).2 :=
  evT_in (sg_len h hd k) x0 x1 y0 y1 fun z hz=>by
   obtain⟨i,hi,rfl⟩:=mP hz;have:=(bk_spec (sgN U V Ud Vd D rows.flatten k) (sgN U V Ud Vd D rows.flatten k).length).1 i hi;rwa [ao,aB hi] at this
 obtain⟨w1,w2⟩:=pf.win h x0 x1 y0 y1;have aC:=h.wlo;have xP:0<(wtP rows.flatten).length:=by rw [wtP_len];exact h.pos
 have e:=(sq_pos aC (bnd_le12 xP)).1;have hw:=lt_le_trans aC w1;have q1:=lS w1 (dp aC);have q2:=fM w1 (dp hw);have q3:evT U V (wtP rows.flatten) x y*evT U V (wtP rows.flatten) x y<=(bndP (wtP rows.flatten)).2*(bndP (wtP rows.flatten)).2 :=
  cA (lS w2 (dp hw)) (fM w2 (cA (dp hw) w2))
 have r:=rc_in (B:=sqS (bndP (wtP rows.flatten))) (b:=evT U V (wtP rows.flatten) x y*evT U V (wtP rows.flatten) x y) (by rw [e];exact Rat.mul_pos aC aC) (by rw [e];exact cA q1 q2) (by rw [e];exact q3);have m:=mu_in t1 t2 r.1 r.2;have m2:=mu_in (A:=muS (bndP (sgN U V Ud Vd D rows.flatten k)) (rcS (sqS (bndP (wtP rows.flatten))))) (B:=(1/wd,1/wd)) (b:=1/wd) m.1 m.2 dD dD;have e2:∀ t W:Rat,t*(1/W)*(1/wd)=1/(wd*W)*t:=fun t W=>by
  rw [cj,cj,cj,fN,fN,fN,adL];grind
 rw [e2] at m2;unfold psK quS;exact m2
end
def swR (V:Nat) (rows:List (List PoR)):List (List PoR):=(b9 (V+1)).map fun j=>rows.map fun r=>r.getD j default
theorem swR_len (V:Nat) (rows:List (List PoR)):(swR V rows).length=V+1:=by simp [swR]
theorem swR_at {V:Nat} (rows:List (List PoR)) {j:Nat} (h:j<V+1):(swR V rows)[j]?=some (rows.map fun r=>r.getD j default):=by
 rw [swR,bU,vA h];rfl
theorem swR_getD {V:Nat} (rows:List (List PoR)) {j:Nat} (h:j<V+1):(swR V rows).getD j []=rows.map fun r=>r.getD j default:=by
 rw [ao,swR_at rows h];rfl
theorem swR_take {V:Nat} (rows:List (List PoR)) {j:Nat} (h:j<V+1):(swR V rows).take j++[rows.map fun r=>r.getD j default]=(swR V rows).take (j+1):=by
 rw [nV,swR_at rows h];rfl
theorem mapT {α β:Type} [Inhabited α] (f:α->β) (l:List α) (d:α) {i:Nat} (h:i<l.length):(l.map f).take i++[f (l.getD i d)]=(l.map f).take (i+1):=by
 rw [nV,bU,ao,aB h];rfl
theorem swR_pf {R U V:Nat} {rows:List (List PoR)} (h:pf R U V rows):pf R V U (swR V rows) where
 r1:=h.r1
 rB:=h.rB
 u1:=h.v1
 u3:=h.v3
 v1:=h.u1
 v3:=h.u3
 n:=swR_len ..
 m:=fun r hr=>by
  obtain⟨j,_,rfl⟩:=bS.1 hr;rw [aA,h.n]
 ok:=fun r hr q hq=>by
  obtain⟨j,hj,rfl⟩:=bS.1 hr;obtain⟨r',fF,rfl⟩:=bS.1 hq;have bo:j<r'.length:=by rw [h.m r' fF];exact my.1 hj
  exact h.ok r' fF _ (getD_memP bo)
namespace H_c_FSwap
theorem zSm {p q:Prop} (k:q) (e:p=q:=by simp only [sNF,ar,au,aq,prL,a9,iC,gq,eJ,kills_map ratE,kills_map prE,aA,aZ,aR,len_snoc,prL_kill,kills_map prE,dfr,dfq,bA,aQ,bc,aR,bh,aZ,aS,aN,aK,aO,reduceIte,if_true,if_false,aX,LV.kill,kills];exact rfl):p:=e.mpr k
end H_c_FSwap
open H_c_FSwap in
theorem c_FSwap (R U V:Nat) (kU kV:List Rat) (rows:List (List PoR)) (h:pf R U V rows) (iE:kU.length<=100) (fg:kV.length<=100):CallP aa 103 [.agg [nI64 U,nI64 V,.list 3 (kU.map ratL),.list 3 (kV.map ratL),.list 1 (rows.map prL)]] (.agg [nI64 V,nI64 U,.list 3 (kV.map ratL),.list 3 (kU.map ratL),.list 1 ((swR V rows).map prL)]):=by
 have bK:LV.pure (.agg [nI64 U,nI64 V,.list 3 (kU.map ratL),.list 3 (kV.map ratL),.list 1 (rows.map prL)])=true:=bH;have me:=pures_map ratE kV;have cY:=pures_map ratE kU;have dC:=pures_map prE rows;have eC:=h.u3;have fj:=h.v3;have jr:=h.n;have fH:=h.r0 (az U);have bg:=swR_len V rows;refine fnP Tryz.func103 (ht:=(fun g=>LV.ren_pure g _ bH)) ?_;have a9:True:=trivial;have iC:True:=trivial;have gq:True:=trivial;have eJ:True:=trivial;refine zg7 ?_;refine wl_cut (fun L=>∃  (L1:St),(True)/\L=(mS L1 [(2,⟨5,[.agg [.v (.int .i64 0),.v (.int .i64 0),.v (.slice none 0 0),.v (.slice none 0 0),.v (.slice none 0 0)]],true⟩),(3,⟨5,[.agg [nI64 V,nI64 U,.ref 11 3 0 kV.length,.ref 15 3 0 kU.length,.v (.slice none 0 0)]],true⟩),(11,⟨3,kV.map ratL,true⟩),(15,⟨3,kU.map ratL,true⟩)] [(3,.eptr 3 5 0 0),(2,.eptr 2 5 0 0),(1,.boxp (.agg [nI64 U,nI64 V,.list 3 (kU.map ratL),.list 3 (kV.map ratL),.list 1 (rows.map prL)]))])) ?_ ?_
 ·refine wl_regAW (Weak.boxp (t:=1) (b:=1) rfl rfl cs rfl bK) ?_;refine sM ?_;refine any_hoistC 2 rfl rfl ah (.pure faA) fmV fmA ?_;refine any_hoistC 3 rfl rfl ah (.pure ldA) fmV fmA ?_;refine any_hoistC 5 rfl rfl ah (.pure faA) fmV fmA ?_;refine any_hoistC 6 rfl rfl ah (.pure (.ldbx rfl (pure_lst ratE 3 kV) rfl rfl)) fmV fmA ?_;refine any_hoistC 9 rfl rfl ah (.pure faA) fmV fmA ?_;refine any_hoistC 10 rfl rfl ah (.pure (.ldbx rfl (pure_lst ratE 3 kU) rfl rfl)) fmV fmA ?_
  repeat' first
   | (refine any_0 ah ?_;refine zg1 ?_;exact⟨_,trivial,((put_id' (put_id' (put_id' (mk_id' ox) cl) cl) cl)).symm⟩)
   | refine any_3 4 8 13 _ _ _ ah rfl rfl rfl ?_ ?_ ?_
   | refine any_3 7 8 13 _ _ _ ah rfl rfl rfl ?_ ?_ ?_
   | refine any_2 8 13 _ _ ah rfl rfl ?_ ?_
   | refine any_2 11 13 _ _ ah rfl rfl ?_ ?_
   | refine any_2 12 13 _ _ ah rfl rfl ?_ ?_
   | refine any_1 13 _ ah rfl ?_
   | refine any_1 14 _ ah rfl ?_
   | refine any_1 12 _ ah rfl ?_
   | refine any_1 11 _ ah rfl ?_
   | refine any_1 8 _ ah rfl ?_
   | refine any_2 7 13 _ _ ah rfl rfl ?_ ?_
   | refine any_1 7 _ ah rfl ?_
   | refine any_2 7 8 _ _ ah rfl rfl ?_ ?_
   | refine any_2 4 13 _ _ ah rfl rfl ?_ ?_
   | refine any_1 4 _ ah rfl ?_
   | refine any_2 4 8 _ _ ah rfl rfl ?_ ?_
   | (refine st_store rfl (.appX (d:=11) (news:=kV.map ratL) rfl rfl rfl rfl aj (.inl rfl) ae aV aV Z32a T32 rfl B32 (.inr (.inl rfl)) al al ae) ?_;refine st_nil ?_)
   | (refine st_store rfl (.appX (d:=15) (news:=kU.map ratL) rfl rfl rfl rfl aj (.inl rfl) ae aV aV Z32a T32 rfl B32 (.inr (.inl rfl)) al al ae) ?_;refine st_nil ?_)
   | (refine zg1 ?_;refine st_nil ?_)
   | fail
 rintro _ ⟨LR1,-,rfl⟩;refine zg8 ?_;refine wl_weak ((Weak.cell 3 rfl (fun Z μ w cs h=>rep_srf 100 1 _ _ _ _ Z μ w cs h)).trans (Weak.newB _ 100 1 rfl)) ?_;refine lp1 (fun(j:Nat) L=>(mS L [(2,⟨5,[.agg [.v (.int .i64 0),.v (.int .i64 0),.v (.slice none 0 0),.v (.slice none 0 0),.v (.slice none 0 0)]],true⟩),(3,⟨5,[.agg [nI64 V,nI64 U,.ref 11 3 0 kV.length,.ref 15 3 0 kU.length,.ref 100 1 0 j]],true⟩),(11,⟨3,kV.map ratL,true⟩),(15,⟨3,kU.map ratL,true⟩),(100,⟨1,((swR V rows).take j).map prL,true⟩)] [(4,nI64 j),(3,.eptr 3 5 0 0),(2,.eptr 2 5 0 0),(1,.boxp (.agg [nI64 U,nI64 V,.list 3 (kU.map ratL),.list 3 (kV.map ratL),.list 1 (rows.map prL)]))])) (fun j=>j<=V+1) (fun j=>V+1-j) 0 (az _) ?_;rintro j L1 hj;refine zg12 ?_;refine wl_if rfl ?_ ?_<;>intro af4 h26
 ·have bo:j<V+1:=J;have iC:(((swR V rows).take j).map prL).take j=((swR V rows).take j).map prL:=aH al;have gq:((swR V rows).take j).map prL++[LV.list 12 ((rows.map fun r=>r.getD j default).map poL)]=((swR V rows).take (j+1)).map prL:=by
   show ((swR V rows).take j).map prL++[prL (rows.map fun r=>r.getD j default)]=_;rw [map_snoc,swR_take rows bo]
  refine zg16 ?_;refine wl_weak (Weak.own (t:=5) 95 12 rfl rfl) ?_;refine lp1 (fun(i:Nat) L=>(mS L [(2,⟨5,[.agg [.v (.int .i64 0),.v (.int .i64 0),.v (.slice none 0 0),.v (.slice none 0 0),.v (.slice none 0 0)]],true⟩),(3,⟨5,[.agg [nI64 V,nI64 U,.ref 11 3 0 kV.length,.ref 15 3 0 kU.length,.ref 100 1 0 j]],true⟩),(11,⟨3,kV.map ratL,true⟩),(15,⟨3,kU.map ratL,true⟩),(100,⟨1,((swR V rows).take j).map prL,true⟩),(95,⟨12,((rows.map fun r=>r.getD j default).take i).map poL,true⟩)] [(6,nI64 i),(5,.ref 95 12 0 i),(4,nI64 j),(3,.eptr 3 5 0 0),(2,.eptr 2 5 0 0),(1,.boxp (.agg [nI64 U,nI64 V,.list 3 (kU.map ratL),.list 3 (kV.map ratL),.list 1 (rows.map prL)]))])) (fun i=>i<=U+1) (fun i=>U+1-i) 0 (az _) ?_;rintro i L2 hi;refine zg10 ?_;refine wl_if rfl ?_ ?_<;>intro si h33
  ·have hi2:i<U+1:=J;have et:=h.r0 (qL hi2);have a9:(((rows.map fun r=>r.getD j default).take i).map poL).take i=((rows.map fun r=>r.getD j default).take i).map poL:=aH al;have eJ:=mapT (fun r:List PoR=>r.getD j default) rows [] (i:=i) J;refine zg15 ?_;refine st_store rfl (.appX (d:=95) (news:=[poL ((rows.getD i []).getD j default)]) rfl rfl rfl rfl al (.inl rfl) ae eI eI Z119 T119 cs B119 (.inl ⟨45,0,_,rfl,by decide,rfl,rfl,by simp,rfl,by simp [pures,poE.pure]⟩) al al ae) ?_;refine zg4 ?_;refine wl_regW (Weak.kill _ 45) ?_;refine zg1 ?_;refine bq ?_;exact cq
  obtain rfl:i=U+1:=J;rw [(aH lN:(rows.map fun r=>r.getD j default).take (U+1)=(rows.map fun r=>r.getD j default))];refine zg5 ?_;refine wl_regW (Weak.hand (t:=5) (b:=95) poE rfl rfl al) ?_;refine zg4 ?_;refine st_store rfl (.appX (d:=100) (news:=[prL (rows.map fun r=>r.getD j default)]) rfl rfl rfl rfl lJ (.inl rfl) ae jG jG prZ T59 cs B59 (.inl ⟨50,0,_,rfl,by decide,rfl,rfl,by simp,rfl,by simp [pures,prE.pure]⟩) lJ lJ ae) ?_;refine zg5 ?_;refine wl_regW (Weak.kill _ 50) ?_;refine zg1 ?_;refine bq ?_;exact mH
 obtain rfl:j=V+1:=J;rw [aH (by omega:(swR V rows).length<=V+1)];refine zg12 ?_;exact retC [11,15,100] rfl rfl rfl cs (at_all cs rfl) T29 (.agg (.cons (.pure rfl) (.cons (.pure rfl) (.cons (imm_refm ratE rfl rfl rfl) (.cons (imm_refm ratE rfl rfl rfl) (.cons (imm_refm prE rfl rfl (swR_len V rows).symm) .nil))))))
theorem rep_crv (d sz:Nat) (x y:LV) (Z:Nat->Prop) (μ:Nat->Option Nat) (w:World) (cs:List Value) (h:Rep Z μ w (.agg [x,y,.v (.slice none 0 0)]) cs):Rep Z μ w (.agg [x,y,.ref d sz 0 0]) cs:=by
 simp only [Rep,RepFs] at h ⊢;obtain⟨c1,c2,e1,e2,e3,c3,c4,e4,e5,e6,c9,c10,g4,g5,g6,g7⟩:=h;exact⟨c1,c2,e1,e2,e3,c3,c4,e4,e5,e6,c9,c10,g4,g5,.inl ⟨g6.1,trivial⟩,g7⟩
def isoP (po:List PoR) (x:Rat):PoR:=⟨evV po x,evP (wtP po) x⟩
theorem cvR.wp {po:List PoR} {d R:Nat} (h:cvR po d R) {x:Rat} (h0:0<=x) (h1:x<=1):0<evP (wtP po) x:=by
 have hl:=wtP_len po;have hp:0<(wtP po).length:=by rw [hl,h.hl];omega
 have hb:=ev_bnd (p:=wtP po) h0 h1 hp;unfold hasR at hb;simp only [dG,decide_eq_true_eq] at hb;refine lt_le_trans ?_ hb.1;obtain⟨i,hi,e⟩:=((bk_spec (wtP po) (wtP po).length).2 hp).1;show 0<(bkP (wtP po) (wtP po).length).1;rw [e];obtain⟨q,hq,hw⟩:=bS.1 (getD_mem (p:=wtP po) hi);rw [<-hw];exact(h.ok q hq).2.2
theorem iso_ok {po:List PoR} {d:Nat} (h:cvR po d 4) (hd:d<=3) {x:Rat} (hx:shX x) (h0:0<=x) (h1:x<=1):okP 600 (isoP po x):=by
 unfold shX at hx;have hl:=h.hl;have hp:2 ^ d<=8:=gg (n:=2) ae hd;have hN:∀ k,rl (evP (nmP po k) x)<=224:=fun k=>by
  have:=ev_rl (p:=nmP po k) (t:=x) (R:=8) (by rw [nmP_len];omega) ae (nmP_rl h.ok k);rw [nmP_len,hl,df] at this;refine aw this (aw (cx (show _<=28 by omega) hp) ae)
 have hW:rl (evP (wtP po) x)<=192:=by
  have:=ev_rl (p:=wtP po) (t:=x) (R:=4) (by rw [wtP_len];omega) ae (wtP_rl h.ok);rw [wtP_len,hl,df] at this;refine aw this (aw (cx (show _<=24 by omega) hp) ae)
 have hI:=rl_div 1 (evP (wtP po) x);have h1r:rl 1=1:=rfl;have m0:=rl_mul (1/evP (wtP po) x) (evP (nmP po 0) x);have m1:=rl_mul (1/evP (wtP po) x) (evP (nmP po 1) x);have m2:=rl_mul (1/evP (wtP po) x) (evP (nmP po 2) x);have n0:=hN 0;have n1:=hN 1;have n2:=hN 2;refine⟨⟨?_,?_,?_⟩,?_,h.wp h0 h1⟩
 ·show rl (1/evP (wtP po) x*evP (nmP po 0) x)<=600;omega
 ·show rl (1/evP (wtP po) x*evP (nmP po 1) x)<=600;omega
 ·show rl (1/evP (wtP po) x*evP (nmP po 2) x)<=600;omega
 show rl (evP (wtP po) x)<=600;omega
theorem iso_nm {po:List PoR} {d R:Nat} (h:cvR po d R) {x:Rat} (h0:0<=x) (h1:x<=1) (k:Nat) (hk:k<3):(isoP po x).w*(isoP po x).p.at k=evP (nmP po k) x:=by
 have hw:evP (wtP po) x≠0:=fun e=>by
  have:=h.wp h0 h1;rw [e] at this;exact absurd this ae
 have key:∀ a:Rat,evP (wtP po) x*(1/evP (wtP po) x*a)=a:=fun a=>by
  rw [<-lU,cj,fN,r8 _ hw,fN]
 rcases k with _ | _ | _ | k
 ·exact key _
 ·exact key _
 ·exact key _
 omega
theorem flat_get {m:Nat}:∀ {rows:List (List PoR)},(∀ r∈rows,r.length=m)->∀ i j,i<rows.length->j<m->rows.flatten.getD (i*m+j) default=(rows.getD i []).getD j default
 | [],_,i,j,hi,_=>absurd hi aj
 | r :: rs,h,0,j,hi,hj=>by
  have hr:=h r (yU ..);rw [pI,jm,cJ,ao,List.getElem?_append_left J];rfl
 | r :: rs,h,i+1,j,hi,hj=>by
  have hr:=h r (yU ..);rw [pI,ao,uX (by rw [hr,cB];omega),hr,show (i+1)*m+j-m=i*m+j by rw [cB];omega,<-ao,
   flat_get (fun x hx=>h x (abU _ hx)) i j (by simpa using hi) hj]
  rfl
section
variable {R U V:Nat} {rows:List (List PoR)} (h:pf R U V rows)
include h
theorem pf.cv {i:Nat} (hi:i<=U):cvR (rows.getD i []) V R where
 hl:=h.r0 hi
 hd:=h.v1
 h6:=by have:=h.v3;omega
 ok:=fun q hq=>h.ok _ (getR_mem (by rw [h.n];omega)) q hq
theorem pcol_get {i j:Nat} (hi:i<=U) (hj:j<=V):((swR V rows).getD j []).getD i default=rows.flatten.getD (i*(V+1)+j) default:=by
 rw [flat_get h.m i j (by rw [h.n];omega) J,swR_getD rows J,ao,bU,ao (l:=rows),aB (show i<rows.length by rw [h.n];omega)];rfl
theorem col_nm (k:Nat) {j:Nat} (hj:j<=V):nmP ((swR V rows).getD j []) k=rwL U (swL U V (nmP rows.flatten k)) j:=by
 have hl:=((swR_pf h).cv hj).hl;refine ext0 (by rw [nmP_len,hl,rwL_len (swL_len U V _) hj]) fun i hi=>?_;rw [nmP_len,hl] at hi;rw [nm_get J,rwL_get (swL_len U V _) hj J,sw_get J hj,nm_get (by rw [h.len];exact ix_lt J hj),pcol_get h J hj]
theorem col_wt {j:Nat} (hj:j<=V):wtP ((swR V rows).getD j [])=rwL U (swL U V (wtP rows.flatten)) j:=by
 have hl:=((swR_pf h).cv hj).hl;refine ext0 (by rw [wtP_len,hl,rwL_len (swL_len U V _) hj]) fun i hi=>?_;rw [wtP_len,hl] at hi;rw [wt_get J,rwL_get (swL_len U V _) hj J,sw_get J hj,wt_get (by rw [h.len];exact ix_lt J hj),pcol_get h J hj]
end
theorem rowT_get (U V:Nat) (c:List Rat) (u:Rat) {j:Nat} (hj:j<=V):(rowT U V c u).getD j 0=evP (rwL U (swL U V c) j) u:=by
 have:=rs_get (g:=fun p=>[evP p u]) (V:=U) (W:=0) (U:=V) (c:=swL U V c) (fun i hi=>rfl) (i:=j) (j:=0) (an _) (n:=V+1) (an _) J;rw [show j*(0+1)+0=j by omega] at this;rw [rowT,this];rfl
def isoL (V:Nat) (rows:List (List PoR)) (x:Rat):List PoR:=(swR V rows).map fun r=>isoP r x
theorem isoL_len (V:Nat) (rows:List (List PoR)) (x:Rat):(isoL V rows x).length=V+1:=by rw [isoL,aA,swR_len]
theorem isoL_get (V:Nat) (rows:List (List PoR)) (x:Rat) {j:Nat} (hj:j<=V):(isoL V rows x).getD j default=isoP ((swR V rows).getD j []) x:=by
 rw [isoL,ao,bU,swR_at rows J,swR_getD rows J];rfl
theorem iso_rowW {R U V:Nat} {rows:List (List PoR)} (h:pf R U V rows) {x:Rat}:wtP (isoL V rows x)=rowT U V (wtP rows.flatten) x:=by
 refine ext0 (by rw [wtP_len,isoL_len,rowT_len]) fun j hj=>?_;rw [wtP_len,isoL_len] at hj;rw [wt_get (by rw [isoL_len];exact hj),isoL_get V rows x J,rowT_get U V _ x J,<-col_wt h J];rfl
section
variable {R U V:Nat} {rows:List (List PoR)} (h:pf R U V rows) {x:Rat} (x0:0<=x) (x1:x<=1)
include h x0 x1
theorem iso_row (k:Nat) (hk:k<3):nmP (isoL V rows x) k=rowT U V (nmP rows.flatten k) x:=by
 refine ext0 (by rw [nmP_len,isoL_len,rowT_len]) fun j hj=>?_;rw [nmP_len,isoL_len] at hj;rw [nm_get (by rw [isoL_len];exact hj),isoL_get V rows x J,iso_nm ((swR_pf h).cv (i:=j) J) x0 x1 k hk,col_nm h k J,rowT_get U V _ x J]
theorem iso_ev (y:Rat):evV (isoL V rows x) y=peV U V rows.flatten x y:=by
 unfold evV peV evT;rw [iso_row h x0 x1 0 ae,iso_row h x0 x1 1 ae,iso_row h x0 x1 2 ae,iso_rowW h]
end
theorem iso_cv {U V:Nat} {rows:List (List PoR)} (h:pf 4 U V rows) {x:Rat} (hx:shX x) (x0:0<=x) (x1:x<=1):cvR (isoL V rows x) V 600 where
 hl:=isoL_len ..
 hd:=h.v1
 h6:=by have:=h.v3;omega
 ok:=fun q hq=>by
  obtain⟨r,hr,rfl⟩:=bS.1 hq;obtain⟨j,hj,e⟩:=mP hr;have hs:=swR_len V rows;have hc:=(swR_pf h).cv (i:=j) J;rw [ao,aB hj,e] at hc;exact iso_ok hc h.u3 hx x0 x1
namespace H_c_FRow
theorem zSm {p q:Prop} (k:q) (e:p=q:=by simp only [sNF,ar,au,aq,prL,prL_kill,kills_map prE,dfr,dfq,bA,aQ,bc,aR,bh,aZ,aS,aN,aK,aO,reduceIte,if_true,if_false,aX,LV.kill,kills];exact rfl):p:=e.mpr k
end H_c_FRow
open H_c_FRow in
theorem c_FRow (U V:Nat) (kU kV:List Rat) (rows:List (List PoR)) (i:Nat) (hi:i<rows.length) (hn:rows.length<=100):CallP aa 68 [.agg [nI64 U,nI64 V,.list 3 (kU.map ratL),.list 3 (kV.map ratL),.list 1 (rows.map prL)],nI64 i] (.agg [nI64 V,.list 3 (kV.map ratL),.list 12 ((rows.getD i []).map poL)]):=by
 have bK:LV.pure (.agg [nI64 U,nI64 V,.list 3 (kU.map ratL),.list 3 (kV.map ratL),.list 1 (rows.map prL)])=true:=bH;have me:=pures_map ratE kV;have cY:=pures_map ratE kU;have dC:=pures_map prE rows;have nM:=pures_map poE (rows.getD i []);have bN:LV.pure (.agg [nI64 V,.list 3 (kV.map ratL),.list 12 ((rows.getD i []).map poL)])=true:=qt;refine fnP Tryz.func68 (ht:=(fun g=>LV.ren_pure g _ qt)) ?_;refine zg7 ?_;refine wl_regD 10 ah ?_;refine zg14 ?_;exact retC [] rfl rfl rfl cs (at_all cs rfl) T61 (.pure bN)
namespace H_c_FIsoV
theorem zSm {p q:Prop} (k:q) (e:p=q:=by simp only [sNF,ar,au,aq,a9,eJ,kills_map ratE,kills_map poE,aA,aZ,aR,prL_kill,kills_map prE,dfr,dfq,bA,aQ,bc,aR,bh,aZ,aS,aN,aK,aO,reduceIte,if_true,if_false,aX,LV.kill,kills];exact rfl):p:=e.mpr k
end H_c_FIsoV
open H_c_FIsoV in
theorem c_FIsoV (U V:Nat) (kU:List Rat) (a b t x:Rat) (rows:List (List PoR)) (h:pf 4 U V rows) (iE:kU.length<=100) (aW:b-a≠0) (hx:(t-a)/(b-a)=x) (hT:rl a<=100) (fU:rl b<=100) (ht:rl t<=1000) (h1:a<=t) (h2:t<=b):CallP aa 102 [.agg [nI64 U,nI64 V,.list 3 (kU.map ratL),.list 3 ((kn2 V a b).map ratL),.list 1 (rows.map prL)],ratL t] (.tup [.agg [nI64 U,.list 3 (kU.map ratL),.list 12 ((rows.map fun r=>isoP r x).map poL)],iL 0]):=by
 have bK:LV.pure (.agg [nI64 U,nI64 V,.list 3 (kU.map ratL),.list 3 ((kn2 V a b).map ratL),.list 1 (rows.map prL)])=true:=bH;have me:=pures_map ratE (kn2 V a b);have cY:=pures_map ratE kU;have dC:=pures_map prE rows;have eC:=h.u3;have fj:=h.v3;have jr:=h.n;refine fnP Tryz.func102 (ht:=(tame2 (by simp [LV.pure,pures,pures_map ratE,pures_map poE,-vx]) rfl)) ?_;have a9:True:=trivial;have eJ:True:=trivial;refine zg16 ?_;refine cp am3 (c_GIvl V a b t J hT fU ht h1 h2) ?_;refine zg13 ?_;refine wl_if rfl ?_ ?_<;>intro py oA
 ·first | exact oA.elim | cases py
 refine zg3 ?_;refine wl_cut (fun L=>∃  (L1:St),(True)/\L=(mS L1 [(3,⟨3,[ratL t],true⟩),(4,⟨3,[.agg [.v (.int .i64 0),.v (.slice none 0 0),.v (.slice none 0 0)]],true⟩),(8,⟨3,[.agg [nI64 U,.ref 25 3 0 kU.length,.v (.slice none 0 0)]],true⟩),(25,⟨3,kU.map ratL,true⟩)] [(8,.eptr 8 3 0 0),(5,iL 0),(4,.eptr 4 3 0 0),(3,.eptr 3 3 0 0),(2,.boxp (.agg [nI64 U,nI64 V,.list 3 (kU.map ratL),.list 3 ((kn2 V a b).map ratL),.list 1 (rows.map prL)]))])) ?_ ?_
 ·refine wl_regAW (Weak.boxp (t:=2) (b:=2) rfl rfl cs rfl bK) ?_;refine sM ?_;refine any_hoistC 3 rfl rfl ah (.pure faA) fmV fmA ?_;refine any_hoistC 4 rfl rfl ah (.pure ldA) fmV fmA ?_
  repeat' first
   | (refine any_0 ah ?_;refine zg1 ?_;exact⟨_,trivial,((put_id' (put_id' (put_id' (put_id' (put_id' (mk_id' ox) cl) cl) cl) cl) cl)).symm⟩)
   | refine any_2 2 7 _ _ ah rfl rfl ?_ ?_
   | refine any_2 5 7 _ _ ah rfl rfl ?_ ?_
   | refine any_2 6 7 _ _ ah rfl rfl ?_ ?_
   | refine any_1 7 _ ah rfl ?_
   | refine any_1 8 _ ah rfl ?_
   | refine any_1 6 _ ah rfl ?_
   | refine any_1 5 _ ah rfl ?_
   | refine any_1 2 _ ah rfl ?_
   | (refine st_store rfl (.appX (d:=25) (news:=kU.map ratL) rfl rfl rfl rfl aj (.inl rfl) ae aV aV Z32a T32 rfl B32 (.inr (.inl rfl)) al al ae) ?_;refine st_nil ?_)
   | (refine zg1 ?_;refine st_nil ?_)
   | fail
 rintro _ ⟨LR4,-,rfl⟩;refine zg8 ?_;refine wl_weak ((Weak.cell 8 rfl (fun Z μ w cs h=>rep_crv 100 12 _ _ Z μ w cs h)).trans (Weak.newB _ 100 12 rfl)) ?_;refine lp1 (fun(i:Nat) L=>(mS L [(3,⟨3,[ratL t],true⟩),(4,⟨3,[.agg [.v (.int .i64 0),.v (.slice none 0 0),.v (.slice none 0 0)]],true⟩),(8,⟨3,[.agg [nI64 U,.ref 25 3 0 kU.length,.ref 100 12 0 i]],true⟩),(25,⟨3,kU.map ratL,true⟩),(100,⟨12,((rows.map fun r=>isoP r x).take i).map poL,true⟩)] [(9,nI64 i),(8,.eptr 8 3 0 0),(5,iL 0),(4,.eptr 4 3 0 0),(3,.eptr 3 3 0 0),(2,.boxp (.agg [nI64 U,nI64 V,.list 3 (kU.map ratL),.list 3 ((kn2 V a b).map ratL),.list 1 (rows.map prL)]))])) (fun i=>i<=U+1) (fun i=>U+1-i) 0 (az _) ?_;rintro i L1 hi;refine zg10 ?_;refine wl_if rfl ?_ ?_<;>intro vy oO
 ·have hi2:i<U+1:=J;have jS:=h.cv (qL hi2);have a9:(((rows.map fun r=>isoP r x).take i).map poL).take i=((rows.map fun r=>isoP r x).take i).map poL:=aH al;have eJ:=mapT (fun r:List PoR=>isoP r x) rows [] (i:=i) J;have hN:∀ k,∀ z∈nmP (rows.getD i []) k,rl z<=100000:=fun k z hz=>aw (nmP_rl jS.ok k z hz) ae;have hW:∀ z∈wtP (rows.getD i []),rl z<=100000:=fun z hz=>aw (wtP_rl jS.ok z hz) ae;have hb:=hg_bd (po:=(rows.getD i [])) (a:=a) (b:=b) (t:=t) jS.h6 hN hW (ng_rl (a:=a) (b:=b) (t:=t) jS.h6 J J ht) (V+1) (an _);have he:=hg_ev aW hx jS;have zT:CallP aa 59 [.agg [ratL (hgS V a b t (rows.getD i []) 0 (V+1)),ratL (hgS V a b t (rows.getD i []) 1 (V+1)),ratL (hgS V a b t (rows.getD i []) 2 (V+1)),ratL (hgS V a b t (rows.getD i []) 3 (V+1))]] (poL (isoP (rows.getD i []) x)):=by
   have:=c_FDrop _ _ _ _ 6000000 ae (hb 0) (hb 1) (hb 2) (hb 3);rw [he.1 0 ae,he.1 1 ae,he.1 2 ae,he.2] at this ⊢;exact this
  have afb:LV.pure (.agg [ratL (hgS V a b t (rows.getD i []) 0 (V+1)),ratL (hgS V a b t (rows.getD i []) 1 (V+1)),ratL (hgS V a b t (rows.getD i []) 2 (V+1)),ratL (hgS V a b t (rows.getD i []) 3 (V+1))])=true:=ny;have bN:LV.pure (.agg [nI64 V,.list 3 ((kn2 V a b).map ratL),.list 12 ((rows.getD i []).map poL)])=true:=qt;refine zg4 ?_;refine wl_regD 9 ah ?_;refine zg4 ?_;refine cp am2 (c_FRow U V kU (kn2 V a b) rows i J J) ?_;refine zg1 ?_;refine cp am2 (c_GHom V a b t (rows.getD i []) 4 ae jS hN hW J hT fU ht h1 h2) ?_;refine cp am1 (zT) ?_;refine zg1 ?_;refine st_store rfl (.appX (d:=100) (news:=[poL (isoP (rows.getD i []) x)]) rfl rfl rfl rfl al (.inl rfl) ae eI eI Z119 T119 cs B119 (.inl ⟨45,0,_,rfl,by decide,rfl,rfl,by simp,rfl,by simp [pures,poE.pure]⟩) al al ae) ?_;refine zg5 ?_;refine wl_regW (Weak.kill _ 45) ?_;refine zg1 ?_;refine bq ?_;exact cq
 obtain rfl:i=U+1:=J;rw [(aH lN:(rows.map fun r=>isoP r x).take (U+1)=(rows.map fun r=>isoP r x))];refine zg13 ?_;exact retCT [25,100] rfl rfl rfl cs (at_all cs rfl) T61 (.agg (.cons (.pure rfl) (.cons (imm_refm ratE rfl rfl rfl) (.cons (imm_refm poE rfl rfl al) .nil)))) rfl (.pure rfl)
open H_c_PDom in
theorem c_FIsoU (U V:Nat) (kV:List Rat) (a b t x:Rat) (rows:List (List PoR)) (h:pf 4 U V rows) (fg:kV.length<=100) (aW:b-a≠0) (hx:(t-a)/(b-a)=x) (hT:rl a<=100) (fU:rl b<=100) (ht:rl t<=1000) (h1:a<=t) (h2:t<=b):CallP aa 46 [.agg [nI64 U,nI64 V,.list 3 ((kn2 U a b).map ratL),.list 3 (kV.map ratL),.list 1 (rows.map prL)],ratL t] (.tup [.agg [nI64 V,.list 3 (kV.map ratL),.list 12 ((isoL V rows x).map poL)],iL 0]):=by
 have bK:LV.pure (.agg [nI64 U,nI64 V,.list 3 ((kn2 U a b).map ratL),.list 3 (kV.map ratL),.list 1 (rows.map prL)])=true:=bH;have agK:LV.pure (.agg [nI64 V,nI64 U,.list 3 (kV.map ratL),.list 3 ((kn2 U a b).map ratL),.list 1 ((swR V rows).map prL)])=true:=bH;have bN:LV.pure (.agg [nI64 V,.list 3 (kV.map ratL),.list 12 ((isoL V rows x).map poL)])=true:=qt;have eC:=h.u3;have dZ:=kn2_len U a b;have hI:CallP aa 102 [.agg [nI64 V,nI64 U,.list 3 (kV.map ratL),.list 3 ((kn2 U a b).map ratL),.list 1 ((swR V rows).map prL)],ratL t] (.tup [.agg [nI64 V,.list 3 (kV.map ratL),.list 12 ((isoL V rows x).map poL)],iL 0]):=c_FIsoV V U kV a b t x (swR V rows) (swR_pf h) fg aW hx hT fU ht h1 h2;refine fnP Tryz.func46 (ht:=(tame2 (by simp [LV.pure,pures,pures_map ratE,pures_map poE,-vx]) rfl)) ?_;refine zg9 ?_;refine wl_regD 6 ah ?_;refine zg1 ?_;refine cp am1 (c_FSwap 4 U V (kn2 U a b) kV rows h J fg) ?_;refine zg1 ?_;refine cp am2 (hI) ?_;refine zg7 ?_;exact retCT [] rfl rfl rfl cs (at_all cs rfl) T61 (.pure bN) rfl (.pure rfl)
open H_c_PDom in
theorem c_FEval12 (U V:Nat) (a b a2 b2 t s x y:Rat) (rows:List (List PoR)) (h:pf 4 U V rows) (aW:b-a≠0) (hx:(t-a)/(b-a)=x) (hT:rl a<=100) (fU:rl b<=100) (ht:rl t<=1000) (h1:a<=t) (h2:t<=b) (aeM:b2-a2≠0) (hy:(s-a2)/(b2-a2)=y) (gT:rl a2<=100) (gT1:rl b2<=100) (gt:rl s<=1000) (g1:a2<=s) (g2:s<=b2) (ma:shX x) (x0:0<=x) (x1:x<=1):CallP aa 14 [.agg [nI64 U,nI64 V,.list 3 ((kn2 U a b).map ratL),.list 3 ((kn2 V a2 b2).map ratL),.list 1 (rows.map prL)],ratL t,ratL s] (.tup [ptL (peV U V rows.flatten x y),iL 0]):=by
 have bK:LV.pure (.agg [nI64 U,nI64 V,.list 3 ((kn2 U a b).map ratL),.list 3 ((kn2 V a2 b2).map ratL),.list 1 (rows.map prL)])=true:=bH;have bN:LV.pure (.agg [nI64 V,.list 3 ((kn2 V a2 b2).map ratL),.list 12 ((isoL V rows x).map poL)])=true:=qt;have eC:=h.u3;have fj:=h.v3;have dZ:=kn2_len V a2 b2;have jS:=iso_cv h ma x0 x1;have hN:∀ k,∀ z∈nmP (isoL V rows x) k,rl z<=100000:=fun k z hz=>aw (nmP_rl jS.ok k z hz) ae;have hW:∀ z∈wtP (isoL V rows x),rl z<=100000:=fun z hz=>aw (wtP_rl jS.ok z hz) ae;have hE:=c_GEval V a2 b2 s y (isoL V rows x) 600 ae jS hN hW aeM hy gT gT1 gt g1 g2;rw [iso_ev h x0 x1] at hE;refine fnP Tryz.func14 (ht:=(tame2 (ptE.pure _) rfl)) ?_;refine zg13 ?_;refine cp am2 (c_FIsoU U V (kn2 V a2 b2) a b t x rows h J aW hx hT fU ht h1 h2) ?_;refine zg15 ?_;refine wl_if rfl ?_ ?_<;>intro ng kf
 ·first | exact kf.elim | cases ng
 refine zg6 ?_;refine cp am2 (hE) ?_;refine zg7 ?_;exact retCT [] rfl rfl rfl cs (at_all cs rfl) T54 (.pure pu) rfl (.pure rfl)
theorem mulP_rlQ {p q:List Rat} {R:Nat} (h:p.length-1+(q.length-1)<=40) (dW:p.length<=41) (ey:q.length<=41) (cQ:1<=R) (mY:∀ x∈p,rl x<=R) (vk:∀ x∈q,rl x<=R):∀ x∈mulP p q,rl x<=p.length*(q.length*(2*R+5))+5:=fun x hx=>by
 obtain⟨k,hk,rfl⟩:=bS.1 hx;have hS:=allM_rl dW ey cQ mY vk p.length;have eH:=getD_rl J hS k;have lh:=getD_rl (S:=2) ae (chR_rl (n:=p.length-1+(q.length-1)) h) k;have h3:=rl_div ((allM p q p.length).getD k 0) ((chR (p.length-1+(q.length-1))).getD k 0);omega
theorem mulP_rl5 {p q:List Rat} {R a b:Nat} (ha:p.length=a) (hb:q.length=b) (h1:a*b<=30) (h2:a<=6) (h3:b<=6) (cQ:1<=R) (mY:∀ x∈p,rl x<=R) (vk:∀ x∈q,rl x<=R):∀ x∈mulP p q,rl x<=60*R+155:=fun x hx=>by
 have h:=mulP_rlQ J J J cQ mY vk x hx;rw [ha,hb,<-Nat.mul_assoc] at h;have:a*b*(2*R+5)<=30*(2*R+5):=bw _ h1;omega
structure cvD (po:List PoR) (d R:Nat):Prop where
 c:cvR po d R
 d5:d<=5
 R1:1<=R
 R2:R<=1000
section
variable {po:List PoR} {d R:Nat} (h:cvD po d R)
include h
theorem cvD.n (k:Nat):(nmP po k).length=d+1/\∀ x∈nmP po k,rl x<=2*R:=⟨by rw [nmP_len,h.c.hl],nmP_rl h.c.ok k⟩
theorem cvD.w:(wtP po).length=d+1/\∀ x∈wtP po,rl x<=R:=⟨by rw [wtP_len,h.c.hl],wtP_rl h.c.ok⟩
theorem cvD.dn (k:Nat):(difP (nmP po k)).length=d/\∀ x∈difP (nmP po k),rl x<=4*R+4:=by
 obtain⟨h1,h2⟩:=h.n k;have:=h.c.hd;have:=h.d5;have:=h.R1;exact⟨by rw [difP_len,h1,if_neg J];omega,fun x hx=>aw (difP_rl J J h2 x hx) J⟩
theorem cvD.dw:(difP (wtP po)).length=d/\∀ x∈difP (wtP po),rl x<=4*R+4:=by
 obtain⟨h1,h2⟩:=h.w;have:=h.c.hd;have:=h.d5;exact⟨by rw [difP_len,h1,if_neg J];omega,fun x hx=>aw (difP_rl h.R1 J h2 x hx) J⟩
theorem cvD.dd:d*(d+1)<=30:=aw (cx h.d5 (show d+1<=6 by have:=h.d5;omega)) ae
theorem cvD.m1 (k:Nat):(mulP (difP (nmP po k)) (wtP po)).length=2*d-1+1/\∀ x∈mulP (difP (nmP po k)) (wtP po),rl x<=240*R+395:=by
 obtain⟨h1,h2⟩:=h.dn k;obtain⟨h3,h4⟩:=h.w;have:=h.c.hd;have:=h.d5;have h9:=h.dd;exact⟨by rw [mulP_len,h1,h3];omega,fun x hx=>aw (mulP_rl5 h1 h3 h9 J J J h2 (fun x hx=>aw (h4 x hx) J) x hx) J⟩
theorem cvD.m2 (k:Nat):(mulP (nmP po k) (difP (wtP po))).length=2*d-1+1/\∀ x∈mulP (nmP po k) (difP (wtP po)),rl x<=240*R+395:=by
 obtain⟨h1,h2⟩:=h.n k;obtain⟨h3,h4⟩:=h.dw;have:=h.c.hd;have:=h.d5;have h9:=h.dd;exact⟨by rw [mulP_len,h1,h3];omega,fun x hx=>aw (mulP_rl5 h1 h3 (by rw [bz];exact h9) J J J (fun x hx=>aw (h2 x hx) J) h4 x hx) J⟩
theorem cvD.t (k:Nat):(trP po k).length=2*d-1+1/\∀ x∈trP po k,rl x<=480*R+791:=by
 obtain⟨h1,h2⟩:=h.m1 k;obtain⟨_,h4⟩:=h.m2 k;exact⟨by rw [trP,zipG_len,h1],fun x hx=>aw (zipK_rl rl_sub J h2 h4 x hx) J⟩
theorem cvD.lo:0<(bndP (wtP po)).1:=by
 have hl:=wtP_len po;have h0:0<(wtP po).length:=by rw [hl,h.c.hl];omega
 obtain⟨i,hi,e⟩:=((bk_spec (wtP po) (wtP po).length).2 h0).1;show 0<(bkP (wtP po) (wtP po).length).1;rw [e];obtain⟨q,hq,hw⟩:=bS.1 (getD_mem (p:=wtP po) hi);rw [<-hw];exact(h.c.ok q hq).2.2
theorem cvD.sq:bdS (2*R) (sqS (bndP (wtP po)))/\hasR (sqS (bndP (wtP po))) 0=false:=by
 have h0:0<(wtP po).length:=by rw [wtP_len,h.c.hl];omega
 exact⟨sqS_bd (bnd_rl h.R1 h.w.2) h.R1,(sq_pos h.lo (bnd_le12 h0)).2⟩
end
def spW (W:Rat) (po:List PoR) (k:Nat):Rat × Rat:=quS (quS (bndP (trP po k)) (sqS (bndP (wtP po)))) (W,W)
def spdW (W:Rat) (po:List PoR):Bx3:=⟨spW W po 0,spW W po 1,spW W po 2⟩
def tanW (W:Rat) (po:List PoR) (x:Rat):V3:=v3m (1/(W*(evP (wtP po) x*evP (wtP po) x))) ⟨evP (trP po 0) x,evP (trP po 1) x,evP (trP po 2) x⟩
abbrev Sp:=Rat × Rat
abbrev BoxT:=List Sp × Nat × List Int
abbrev CelT:=List Sp × List Sp × Nat × Nat
def mdS (s:Sp):Rat:=(s.1+s.2)/2
def loS (s:Sp):Sp:=(s.1,mdS s)
def hiS (s:Sp):Sp:=(mdS s,s.2)
def lstA (t:List Int):Nat->Nat
 | 0=>0
 | k+1=>if t.getD k 0<t.getD (lstA t k) 0 then k else lstA t k
theorem lstA_lt {t:List Int}:∀ k,k<=t.length->0<t.length->lstA t k<t.length
 | 0,_,h=>h
 | k+1,h,h0=>by
   have:=lstA_lt k J h0;unfold lstA;split<;>omega
def atB (x:BoxT):Nat:=lstA x.2.2 x.2.2.length
def hafB (x:BoxT) (s:Sp):BoxT:=(x.1.set (atB x) s,x.2.1+1,x.2.2.set (atB x) (x.2.2.getD (atB x) 0+1))
def loB (x:BoxT):BoxT:=hafB x (loS (x.1.getD (atB x) default))
def hiB (x:BoxT):BoxT:=hafB x (hiS (x.1.getD (atB x) default))
def wideB (l:List Sp) (w:Rat):Bool:=l.any fun s=>decide (w<s.2-s.1)
abbrev LookT:=List Sp->List Sp->Bool × Nat × Nat
abbrev RunT:=List BoxT × Nat × List CelT
def kindV (v:Bool × Nat × Nat):Nat:=if v.2.1=0 then 1 else v.2.1
def kV (v:Bool × Nat × Nat):Nat:=if v.2.1=0 then 0 else v.2.2
def celB (na:Nat) (x:BoxT) (v:Bool × Nat × Nat):CelT:=(x.1.take na,x.1.drop na,kindV v,kV v)
def doneB (D:Nat) (wd:Rat) (x:BoxT) (v:Bool × Nat × Nat):Bool :=
 (decide (kindV v=3\/kindV v=4) && (decide (wd=0) || !wideB x.1 wd)) || decide (D<=x.2.1)
def stepP (D W na:Nat) (wd:Rat) (lk:LookT):RunT->RunT
 | ([],n,cs)=>([],n,cs)
 | (x :: st,n,cs) =>
  if W<=n then(st,n,cs++[celB na x (false,0,0)])
  else if (lk (x.1.take na) (x.1.drop na)).1 then(st,n+1,cs)
  else if doneB D wd x (lk (x.1.take na) (x.1.drop na)) then(st,n+1,cs++[celB na x (lk (x.1.take na) (x.1.drop na))])
  else(loB x :: hiB x :: st,n+1,cs)
def runP (D W na:Nat) (wd:Rat) (lk:LookT):Nat->RunT->RunT
 | 0,s=>s
 | k+1,s=>runP D W na wd lk k (stepP D W na wd lk s)
def wgt (D:Nat) (x:BoxT):Nat:=2*2 ^ (D-x.2.1)-1
def muP (D:Nat) (st:List BoxT):Nat:=(st.map (wgt D)).sum
theorem wgt_pos (D:Nat) (x:BoxT):1<=wgt D x:=by
 unfold wgt;have:=aaw (n:=D-x.2.1);omega
theorem wgt_half {D:Nat} {x:BoxT} {s s':Sp} (h:x.2.1<D):wgt D (hafB x s)+wgt D (hafB x s')<wgt D x:=by
 simp only [wgt,hafB];have h1:=aaw (n:=D-(x.2.1+1));have h2:2 ^ (D-x.2.1)=2*2 ^ (D-(x.2.1+1)):=by
  rw [show D-x.2.1=(D-(x.2.1+1))+1 by omega,dz,bz]
 omega
theorem doneB_depth {D:Nat} {wd:Rat} {x:BoxT} {v:Bool × Nat × Nat} (h:doneB D wd x v=false):x.2.1<D:=by
 unfold doneB at h;simp only [Bool.or_eq_false_iff,decide_eq_false_iff_not] at h;omega
theorem muP_step {D W na:Nat} {wd:Rat} {lk:LookT} {x:BoxT} {st:List BoxT} {n:Nat} {cs:List CelT}:muP D (stepP D W na wd lk (x :: st,n,cs)).1<muP D (x :: st):=by
 have hw:=wgt_pos D x;have tw:muP D (x :: st)=wgt D x+muP D st:=by simp [muP]
 rw [stepP];split
 ·show muP D st<_;omega
 split
 ·show muP D st<_;omega
 split
 ·show muP D st<_;omega
 rename_i h;have hd:=doneB_depth dX;have:=wgt_half (x:=x) (s:=loS (x.1.getD (atB x) default)) (s':=hiS (x.1.getD (atB x) default)) hd;have e:muP D (loB x :: hiB x :: st)=wgt D (loB x)+(wgt D (hiB x)+muP D st):=by simp [muP]
 show muP D (loB x :: hiB x :: st)<_;rw [e,tw];unfold loB hiB;omega
theorem runP_nil {D W na:Nat} {wd:Rat} {lk:LookT} {n:Nat} {cs:List CelT}:∀ k,runP D W na wd lk k ([],n,cs)=([],n,cs)
 | 0=>rfl
 | k+1=>by rw [runP,stepP,runP_nil k]
def EndP (D W na:Nat) (wd:Rat) (lk:LookT) (s R:RunT):Prop:=∃ k,muP D s.1<=k/\runP D W na wd lk k s=R
theorem EndP.step {D W na:Nat} {wd:Rat} {lk:LookT} {x:BoxT} {st:List BoxT} {n:Nat} {cs:List CelT} {R:RunT} (h:EndP D W na wd lk (x :: st,n,cs) R) :
  EndP D W na wd lk (stepP D W na wd lk (x :: st,n,cs)) R:=by
 obtain⟨k,h1,h2⟩:=h;have tw:muP D (x :: st)=wgt D x+muP D st:=by simp [muP]
 have hw:=wgt_pos D x
 match k,h1,h2 with
 | 0,h1,_=>exact absurd (show muP D (x :: st)<=0 from h1) J
 | k+1,h1,h2 =>
  have:=muP_step (D:=D) (W:=W) (na:=na) (wd:=wd) (lk:=lk) (x:=x) (st:=st) (n:=n) (cs:=cs);exact⟨k,by have:muP D (x :: st)<=k+1:=h1;omega,h2⟩
theorem EndP.nil {D W na:Nat} {wd:Rat} {lk:LookT} {n:Nat} {cs:List CelT} {R:RunT} (h:EndP D W na wd lk ([],n,cs) R):R=([],n,cs):=by
 obtain⟨k,_,h2⟩:=h;rw [runP_nil] at h2;exact h2.symm
def endP (D W na:Nat) (wd:Rat) (lk:LookT) (s:RunT):RunT:=runP D W na wd lk (muP D s.1) s
theorem endP_spec (D W na:Nat) (wd:Rat) (lk:LookT) (s:RunT):EndP D W na wd lk s (endP D W na wd lk s):=⟨_,an _,rfl⟩
theorem endP_ind {D W na:Nat} {wd:Rat} {lk:LookT} (I:RunT->Prop) (hI:∀ x st n cs,I (x :: st,n,cs)->I (stepP D W na wd lk (x :: st,n,cs))) :
  ∀ (m:Nat) {s R:RunT},muP D s.1<=m->I s->EndP D W na wd lk s R->I R/\R.1=[]
 | m,([],n,cs),R,_,hs,h=>by rw [h.nil];exact⟨hs,rfl⟩
 | 0,(x :: st,n,cs),R,hm,_,_=>by
   have tw:muP D (x :: st)=wgt D x+muP D st:=by simp [muP]
   have hw:=wgt_pos D x;exact absurd (show muP D (x :: st)<=0 from hm) J
 | m+1,(x :: st,n,cs),R,hm,hs,h=>by
   have:=muP_step (D:=D) (W:=W) (na:=na) (wd:=wd) (lk:=lk) (x:=x) (st:=st) (n:=n) (cs:=cs);exact endP_ind I hI m (by have:muP D (x :: st)<=m+1:=hm;omega) (hI x st n cs hs) h.step
def ngS (s:Rat × Rat):Rat × Rat:=(-s.2,-s.1)
def adS (s t:Rat × Rat):Rat × Rat:=(s.1+t.1,s.2+t.2)
def ngB (b:Bx3):Bx3:=⟨ngS b.x,ngS b.y,ngS b.z⟩
def d2S (p q r s:Rat × Rat):Rat × Rat:=sbS (muS p s) (muS q r)
def d3S (a b c:Bx3):Rat × Rat:=adS (sbS (muS a.x (d2S b.y c.y b.z c.z)) (muS b.x (d2S a.y c.y a.z c.z))) (muS c.x (d2S a.y b.y a.z b.z))
def meS (s t:Rat × Rat):Bool:=decide (mxR s.1 t.1<=mnR s.2 t.2)
def meB (a b:Bx3):Bool:=meS a.x b.x && meS a.y b.y && meS a.z b.z
def crV (u v:V3):Rat:=u.x*v.y-u.y*v.x
section
variable {u v:V3} (h:crV u v≠0)
include h
end
def dyQ (n:Nat) (q:Rat):Prop:=∃ z:Int,q=(z:Rat)/((2 ^ n:Nat):Int)
theorem two_pos (n:Nat):(0:Rat)<((2 ^ n:Nat):Int):=by
 have:=aaw (n:=n);exact Rat.intCast_pos.2 J
theorem two_succ (n:Nat):(((2 ^ (n+1):Nat):Int):Rat)=((2 ^ n:Nat):Int)*2:=by
 rw [dz];push_cast;rfl
theorem dyQ.mul {n:Nat} {q:Rat} (h:dyQ n q):∃ z:Int,q*((2 ^ n:Nat):Int)=z:=by
 obtain⟨z,rfl⟩:=h;exact⟨z,gz (by have:=two_pos n;grind)⟩
theorem dyQ.of {n:Nat} {q:Rat} {z:Int} (h:q*((2 ^ n:Nat):Int)=z):dyQ n q:=⟨z,by
 have:=two_pos n;rw [<-h,mc ay]⟩
theorem dyQ.succ {n:Nat} {q:Rat} (h:dyQ n q):dyQ (n+1) q:=by
 obtain⟨z,e⟩:=h.mul;refine dyQ.of (z:=z*2) ?_;rw [two_succ,<-lU,e];push_cast;rfl
theorem dyQ.md {n:Nat} {p q:Rat} (hp:dyQ n p) (hq:dyQ n q):dyQ (n+1) ((p+q)/2):=by
 obtain⟨z,e⟩:=hp.mul;obtain⟨y,f⟩:=hq.mul;refine dyQ.of (z:=z+y) ?_;rw [two_succ];have h2:(p+q)/2*2=p+q:=gz ae;have:(p+q)/2*(((2 ^ n:Nat):Int)*2:Rat)=(p+q)/2*2*((2 ^ n:Nat):Int):=ay;rw [this,h2];push_cast;push_cast at e f;rw [<-e,<-f];grind
theorem dyQ_int (z:Int):dyQ 0 (z:Rat):=⟨z,by
 have:(((2 ^ 0:Nat):Int):Rat)=1:=rfl;rw [this];grind⟩
theorem dyQ.le {n m:Nat} {q:Rat} (h:dyQ n q) (hm:n<=m):dyQ m q:=by
 induction m with
 | zero =>
      obtain rfl:n=0:=J;exact h
 | succ m ih =>
  rcases cu n (m+1) with g | g
  ·exact(ih J).succ
  obtain rfl:n=m+1:=J;exact h
theorem dyQ.rl {n:Nat} {q:Rat} (h:dyQ n q) (hn:n<=24) (h1:-64<=q) (h2:q<=64):Go.Lg.rl q<=1:=by
 obtain⟨z,e⟩:=h.mul;have hp:=two_pos n;have qX:2 ^ n<=2 ^ 24:=gg ae hn;have jA:z<=64*((2 ^ n:Nat):Int):=by
  have:(z:Rat)<=((64*((2 ^ n:Nat):Int):Int):Rat):=by
   rw [<-e];rw [lI];exact fM h2 (dp hp)
  exact tu.1 this
 have kh:-64*((2 ^ n:Nat):Int)<=z:=by
  have:((-64*((2 ^ n:Nat):Int):Int):Rat)<=(z:Rat):=by
   rw [<-e];rw [lI];exact fM h1 (dp hp)
  exact tu.1 this
 have:q=(z:Rat)/((2 ^ n:Nat):Int):=by rw [<-e,mc ay]
 rw [this];exact rl_ints J J
def one01:Sp:=(0,1)
section
variable {a u p v:V3}
end
def boxL (x:BoxT):LV:=.agg [.list 6 (x.1.map spL),nI64 x.2.1,.list 1 (x.2.2.map i64L)]
def celV (c:CelT):LV:=.agg [.list 6 (c.1.map spL),.list 6 (c.2.1.map spL),nI64 c.2.2.1,nI64 c.2.2.2]
def vdL (v:Bool × Nat × Nat):LV:=.agg [.v (.bool v.1),nI64 v.2.1,nI64 v.2.2]
def prW (d w:Nat) (wd:Rat):LV:=.agg [nI64 d,nI64 w,ratL wd]
theorem boxL_pure (x:BoxT):(boxL x).pure=true:=by simp [boxL,LV.pure,pures,pures_map spE,pures_map i64E]
theorem celV_pure (c:CelT):(celV c).pure=true:=by simp [celV,LV.pure,pures,pures_map spE]
theorem vdL_pure (v:Bool × Nat × Nat):(vdL v).pure=true:=by simp [vdL,LV.pure,pures]
theorem prW_pure (d w:Nat) (wd:Rat):(prW d w wd).pure=true:=by simp [prW,LV.pure,pures,ratE.pure]
theorem boxL_cs (x:BoxT):(boxL x).csize=3:=rfl
theorem celV_cs (c:CelT):(celV c).csize=4:=rfl
theorem boxE:EncOK boxL 3 true:=⟨boxL_cs,fun _=>rfl,boxL_pure⟩
theorem celE:EncOK celV 4 true:=⟨celV_cs,fun _=>rfl,celV_pure⟩
theorem pures_cel (l:List CelT):pures (l.map celV)=true:=pures_map celE l
structure LookOK (P:Program) (f:Nat) (cap:List LV) (D na n:Nat) (lk:LookT) (I:BoxT->Prop):Prop where
 len:∀ x,I x->x.1.length=n/\x.2.2.length=n
 tm:∀ x,I x->∀ t∈x.2.2,0<=t/\t<=1000
 dep:∀ x,I x->x.2.1<=D
 sp:∀ x,I x->∀ s∈x.1,bdS 1000 s/\s.1<=s.2
 half:∀ x,I x->x.2.1<D->I (loB x)/\I (hiB x)
 look:∀ x,I x->CallP P f ([.list 6 ((x.1.take na).map spL),.list 6 ((x.1.drop na).map spL)]++cap) (vdL (lk (x.1.take na) (x.1.drop na)))
 kd:∀ x,I x->(lk (x.1.take na) (x.1.drop na)).2.1<=4/\(lk (x.1.take na) (x.1.drop na)).2.2<=4
def sgS (n:Nat) (s:Sp):Prop:=dyQ n s.1/\dyQ n s.2/\0<=s.1/\s.1<s.2/\s.2<=1
def sgI (D:Nat) (x:BoxT):Prop:=∃ (s t:Sp) (i j:Int),x.1=[s,t]/\x.2.2=[i,j]/\(0<=i/\i<=x.2.1/\0<=j/\j<=x.2.1)/\x.2.1<=D/\sgS x.2.1 s/\sgS x.2.1 t
theorem sgS.succ {n:Nat} {s:Sp} (h:sgS n s):sgS (n+1) s:=⟨h.1.succ,h.2.1.succ,h.2.2⟩
theorem sgS.half {n:Nat} {s:Sp} (h:sgS n s):sgS (n+1) (loS s)/\sgS (n+1) (hiS s):=by
 obtain⟨h1,h2,h3,h4,h5⟩:=h;have hm:=h1.md h2;have e:(s.1+s.2)/2*2=s.1+s.2:=gz ae;unfold loS hiS mdS;exact⟨⟨h1.succ,hm,h3,by show s.1<(s.1+s.2)/2;grind,by show (s.1+s.2)/2<=1;grind⟩,⟨hm,h2.succ,by show 0<=(s.1+s.2)/2;grind,by show (s.1+s.2)/2<s.2;grind,h5⟩⟩
theorem sgS.rl {n:Nat} {s:Sp} (h:sgS n s) (hn:n<=24):Go.Lg.rl s.1<=1/\Go.Lg.rl s.2<=1:=by
 obtain⟨h1,h2,h3,h4,h5⟩:=h;exact⟨h1.rl hn ay ay,h2.rl hn ay ay⟩
end Go.Proofs.YtlipjipfpkbppaaGreat
end
section
set_option linter.unusedVariables false
set_option linter.unusedSimpArgs false
namespace Go.Lg
section
variable {P:Program} {W w w':World} {X:XS} {Z0 Z Zr:Nat->Prop} {μ a5:Nat->Option Nat} {H:Heap} {a:Act} {L L':St} {n:Nat} {ops:Array Oper}
def SemStep (P:Program) (ops:Array Oper) (o:Oper) (L L':St):Prop :=
 ∀ (n:Nat) (W:World) (X:XS) (Z0:Nat->Prop) (a:Act) (w:World) (K:Act->World->Prop) (Q:Exit->Act->World->Prop),Sim n W X Z0 L a w->(∀ t,o.dst=some t->t<n) ->
  (∀ a' w',Sim n W X Z0 L' a' w'->K a' w')->if Region.wanted o (yielded ops a.tmps) then o.wp P a w K Q else K (a.put o.dst undef) w
def opsX (P:Program) (ops:Array Oper):List Oper->St->(St->Prop)->Prop
 | [],L,K=>K L
 | o :: r,L,K=>∃ L',SemStep P ops o L L'/\opsX P ops r L' K
theorem opsX_mono {K K':St->Prop} (h:∀ L,K L->K' L):∀ (l:List Oper) (L:St),opsX P ops l L K->opsX P ops l L K'
 | [],L,k=>h L k
 | o :: r,L,⟨L',h1,h2⟩=>⟨L',h1,opsX_mono h r L' h2⟩
theorem opsX_app {K:St->Prop}:∀ (l m:List Oper) (L:St),opsX P ops l L (fun L'=>opsX P ops m L' K)->opsX P ops (l++m) L K
 | [],m,L,h=>h
 | o :: r,m,L,⟨L',h1,h2⟩=>⟨L',h1,opsX_app r m L' h2⟩
theorem opsX_of {dr:Bool} {K:St->Prop}:∀ (l:List Oper) (L:St),opsL P dr ops l L K->opsX P ops l L K
 | [],L,h=>by unfold opsL at h;exact h
 | o :: r,L,h=>by
   unfold opsL at h;obtain⟨L',h1,h2⟩:=h;exact⟨L',fun n W X Z0 a w K' Q hs hd hK=>step_sound hs h1 hd hK,opsX_of r L' h2⟩
theorem opsX_sound {Q:Exit->Act->World->Prop} {K:St->Prop}:∀ (l:List Oper) (L:St) (a:Act) (w:World),Sim n W X Z0 L a w->opsX P ops l L K->(∀ o∈l,∀ t,o.dst=some t->t<n) ->
  (∀ L' a' w',K L'->Sim n W X Z0 L' a' w'->Q .normal a' w')->wpList P ops Q l a w
 | [],L,a,w,hs,hk,_,hq=>hq L a w hk hs
 | o :: r,L,a,w,hs,⟨L',h1,h2⟩,hd,hq=>by
   have:=h1 n W X Z0 a w (wpList P ops Q r) Q hs (hd o aj) (fun a' w' cH=>opsX_sound r L' a' w' cH h2 (fun o' jH=>hd o' (by simp [jH])) hq);unfold wpList;split
   ·rename_i h;rw [if_pos h] at this;exact .inl this
   rename_i h;rw [if_neg h] at this;exact this
variable {Q:LEx->St->Prop}
def SemK (P:Program) (l:List Oper) (k:Nat) (K:St->Prop) (L:St):Prop:=∃ o L2,l[k]?=some o/\SemStep P l.toArray o L L2/\opsL P false l.toArray (l.drop (k+1)) L2 K
theorem wl_regX {l:List Oper} {id:Nat} (k:Nat) (h:opsL P false l.toArray (l.take k) L (SemK P l k (Q .normal))):wpL P (.region id l.toArray false) Q L:=by
 refine wl_regE fun n W X Z0 a w hs hd id=>?_;have cC:∀ o'∈l,∀ t,o'.dst=some t->t<n:=fun o' ho t ht=>by
  simp only [dstsOk,ie] at hd;have:=hd o' (by simpa using ho);rw [ht] at this;simpa using this
 have hx:opsX P l.toArray l L (Q .normal):=by
  have h1:opsX P l.toArray (l.take k++l.drop k) L (Q .normal) :=
   opsX_app (l.take k) _ L (opsX_mono (fun L1 ⟨o,L2,h0,h1,h2⟩=>by
    obtain⟨hk,e⟩:=fV.1 h0;rw [o8 hk,e];exact⟨L2,h1,opsX_of _ _ h2⟩) _ _ (opsX_of _ _ h))
  rwa [kK] at h1
 exact wp_region_list (opsX_sound _ _ _ _ hs hx cC (fun L' a' w' hk cH=>⟨L',hk,cH⟩))
theorem st_semX {l:List Oper} {k:Nat} {K:St->Prop} {ops:Array Oper} {o:Oper} {L2:St} (h1:l[k]?=some o) (h2:SemStep P l.toArray o L L2) (h3:opsL P false l.toArray (l.drop (k+1)) L2 K):opsL P false ops [] L (SemK P l k K):=by
 unfold opsL;exact⟨o,L2,h1,h2,h3⟩
end
end Go.Lg
namespace Go.Lg
section
variable {P:Program} {W w w':World} {X X0:XS} {Z0 Z Zr:Nat->Prop} {μ a5:Nat->Option Nat} {H H' Hr:Heap} {a:Act} {L L':St} {n d:Nat} {ops:Array Oper} {σ:Nat->Nat}
def callMapN (μ a5:Nat->Option Nat) (d:Nat):Nat->Option Nat:=fun c=>if 1000000+d*16<c/\c<1000000+d*16+16 then(a5 (c-(1000000+d*16))).or (μ c) else μ c
theorem Core.callN (hc:Core W X Z0 μ Z H w) (hr:Core w X0 Z a5 Zr Hr w') (re:∀ k id,a5 k=some id->k≠0->k<16/\σ k=callName d k/\μ (callName d k)=none)
  (hb:∀ id,X0.x id->μ (σ 0)=some id/\¬ Z id) (hy:∀ id,X0.y id->(∀ c,μ c≠some id)/\¬ Z id/\(W.heap.size<=id\/X.y id)) (h0:∀ id,a5 0=some id->X0.x id) (hH:∀ k id blk,a5 k=some id->Hr k=some blk->H' (σ k)=some ⟨blk.sz,rens σ blk.vals,blk.mt⟩)
  (hold:∀ c id,μ c=some id->¬ X0 id->H' c=H c) :
  Core W X Z0 (callMapN μ a5 d) Zr H' w'/\(∀ c id,μ c=some id->callMapN μ a5 d c=some id)/\Frame Z μ w w'/\(∀ k id,a5 k=some id->callMapN μ a5 d (σ k)=some id):=by
 have x6:∀ c id,μ c=some id->callMapN μ a5 d c=some id:=fun c id h=>by
  unfold callMapN;split
  ·rename_i lF
   cases hq:a5 (c-(1000000+d*16)) with
   | none=>simpa using h
   | some vL =>
    have:=(re _ _ hq J).2.2;have e:callName d (c-(1000000+d*16))=c:=by unfold callName;omega
    rw [e,h] at this;cases this
  exact h
 have afW:∀ k id,a5 k=some id->k≠0->callMapN μ a5 d (callName d k)=some id:=fun k id h hk=>by
  have:=(re _ _ h hk).1;unfold callMapN callName;rw [if_pos J];have e:1000000+d*16+k-(1000000+d*16)=k:=J;rw [e,h];rfl
 have fo:∀ k id,a5 k=some id->callMapN μ a5 d (σ k)=some id:=fun k id h=>by
  by_cases hk:k=0
  ·subst hk;exact x6 _ _ (hb id (h0 id h)).1
  rw [(re _ _ h hk).2.1];exact afW k id h hk
 have hinv:∀ c id,callMapN μ a5 d c=some id->(∃ k,k≠0/\c=callName d k/\a5 k=some id)\/μ c=some id:=fun c id h=>by
  unfold callMapN at h;split at h
  ·rename_i lF
   cases hq:a5 (c-(1000000+d*16)) with
   | none=>rw [hq] at h;exact .inr dX
   | some vL =>
    rw [hq] at h;simp only [Option.some_or,bF] at h;subst h;exact .inl ⟨c-(1000000+d*16),J,by unfold callName;omega,hq⟩
  exact .inr h
 have aC:∀ k id,a5 k=some id->k≠0->w.heap.size<=id\/X0.y id:=fun k id h hk=>by
  rcases hr.own k id h with h1 | h1 | h1
  ·exact .inl h1
  ·exact absurd (hr.x0 k id h h1) hk
  exact .inr h1
 have aak:∀ k id c,a5 k=some id->k≠0->μ c=some id->False:=fun k id c h hk h1=>by
  rcases aC k id h hk with h2 | h2
  ·have:=hc.lt h1;omega
  exact(hy id h2).1 c h1
 have jl:∀ k,k<w.heap.size->¬ X0 k->w'.heap[k]?=w.heap[k]?:=fun k hk hx=>hr.keep.block k hk hx;have aY:Frame Z μ w w':=by
  refine⟨fun id h=>jl id (hc.zone id h) (fun e=>e.elim (fun e=>(hb id e).2 h) (fun e=>(hy id e).2.1 h)),fun c id h cc T fz jv=>?_⟩;by_cases e:X0 id
  ·exact hr.keep.xsz id e cc T fz jv
  exact⟨cc,(jl id (hc.lt h) e).trans jv,rfl⟩
 have hX:∀ k,k<W.heap.size->¬ X k->¬ X0 k:=fun k hk hx e=>by
  rcases e with e | e
  ·rcases hc.own (σ 0) k (hb k e).1 with h | h
   ·omega
   exact hx h
  rcases(hy k e).2.2 with h | h
  ·omega
  exact hx (.inr h)
 refine⟨⟨?_,hr.zone,fun id h=>hr.zsup id (hc.zsup id h),?_,?_,?_,?_,hc.xlt,fun id h=>x6 0 id (hc.x1 id h),?_,?_,?_⟩,x6,aY,fo⟩
 ·refine⟨hr.keep.os.trans hc.keep.os,hr.keep.tape.trans hc.keep.tape,hr.keep.output.trans hc.keep.output,aw hc.keep.size hr.keep.size,fun k hk hx=>?_,fun k hx c T fz h=>?_⟩
  ·exact(jl k (by have:=hc.keep.size;omega) (hX k hk hx)).trans (hc.keep.block k hk hx)
  obtain⟨c',g1,g2⟩:=hc.keep.xsz k hx c T fz h;by_cases e:X0 k
  ·obtain⟨c2,g3,g4⟩:=hr.keep.xsz k e c' T fz g1;exact⟨c2,g3,g4.trans g2⟩
  exact⟨c',(jl k (eB.1 g1).1 e).trans g1,g2⟩
 ·intro id h;rcases hr.zsub id h with h | h | h
  ·exact hc.zsub id h
  ·exact .inr (.inl (aw hc.keep.size h))
  exact .inr (hy id h).2.2
 ·intro c c' id h h';rcases hinv c id h with⟨k,k0,rfl,h1⟩ | h1<;>rcases hinv c' id h' with⟨k',k0',rfl,h2⟩ | h2
  ·rw [hr.inj k k' id h1 h2]
  ·exact(aak k id _ h1 k0 h2).elim
  ·exact(aak k' id _ h2 k0' h1).elim
  exact hc.inj c c' id h1 h2
 ·intro c id h;rcases hinv c id h with⟨k,k0,rfl,h1⟩ | h1
  ·rcases aC k id h1 k0 with h2 | h2
   ·exact .inl (aw hc.keep.size h2)
   exact(hy id h2).2.2.imp (fun h=>h) .inr
  exact hc.own c id h1
 ·intro c id h hx;rcases hinv c id h with⟨k,k0,rfl,h1⟩ | h1
  ·exact(aak k id 0 h1 k0 (hc.x1 id hx)).elim
  exact hc.x0 c id h1 hx
 all_goals
  have mr:∀ c id,callMapN μ a5 d c=some id->(∃ k blk,c=σ k/\a5 k=some id/\Hr k=some blk/\BlkRep Zr a5 w' blk id)\/(¬ X0 id/\μ c=some id):=fun c id h=>by
   rcases hinv c id h with⟨k,k0,rfl,h1⟩ | h1
   ·obtain⟨blk,g1,g2⟩:=hr.heap k id h1;exact .inl ⟨k,blk,(re k id h1 k0).2.1.symm,h1,g1,g2⟩
   by_cases e:X0 id
   ·have e:X0.x id:=e.resolve_right (fun e=>(hy id e).1 c h1);have iI:=hc.inj c (σ 0) id h1 (hb id e).1;have h2:=hr.x1 id e;obtain⟨blk,g1,g2⟩:=hr.heap 0 id h2;exact .inl ⟨0,blk,iI,h2,g1,g2⟩
   exact .inr ⟨e,h1⟩
 ·intro c id blk h g bE hz;rcases mr c id h with⟨k,b0,rfl,h1,g1,g2⟩ | ⟨e,h1⟩
  ·rw [hH k id b0 h1 g1] at g;cases g;exact hr.mutz k id b0 h1 g1 bE hz
  rw [hold c id h1 e] at g;rcases hr.zsub id hz with hz | hz | hz
  ·exact hc.mutz c id blk h1 g bE hz
  ·have:=hc.lt h1;omega
  exact(e (.inr hz)).elim
 ·intro c id blk h g bE;rcases mr c id h with⟨k,b0,rfl,h1,g1,g2⟩ | ⟨e,h1⟩
  ·rw [hH k id b0 h1 g1] at g;cases g;exact hr.frz k id b0 h1 g1 bE
  rw [hold c id h1 e] at g;exact hr.zsup id (hc.frz c id blk h1 g bE)
 intro c id h;rcases mr c id h with⟨k,b0,rfl,h1,g1,cc,T,part,rest,q1,q2,q3⟩ | ⟨e,h1⟩
 ·exact⟨_,hH k id b0 h1 g1,cc,T,part,rest,q1,q2,RepAll.ren σ fo _ _ _ q3⟩
 obtain⟨bk,g1,g2⟩:=hc.heap c id h1;exact⟨bk,by rw [hold c id h1 e];exact g1,g2.mono hr.zsup x6 aY (jl id (hc.lt h1) e)⟩
def heapMN (blk:Blk) (bs:List Blk):Heap:=fun n=>if n=0 then some blk else bs[n-1]?
def addB (σ:Nat->Nat):Nat->List Blk->St->St
 | _,[],L=>L
 | k,b :: bs,L=>addB σ (k+1) bs (L.setB (σ k) (some ⟨b.sz,rens σ b.vals,b.mt⟩))
theorem addB_slot:∀ (bs:List Blk) (k:Nat) (L:St),(addB σ k bs L).slot=L.slot
 | [],_,_=>rfl
 | b :: bs,k,L=>by rw [addB,addB_slot bs];rfl
theorem addB_old:∀ (bs:List Blk) (k:Nat) (L:St) (c:Nat),(∀ j,k<=j->j<k+bs.length->c≠σ j)->(addB σ k bs L).heap c=L.heap c
 | [],_,_,_,_=>rfl
 | b :: bs,k,L,c,h=>by
   rw [addB,addB_old bs (k+1) _ c (fun j h1 h2=>h j J (by simp only [aQ];omega))];show (if c=σ k then _ else L.heap c)=_;rw [if_neg (h k (an _) (by simp only [aQ];omega))]
theorem addB_new:∀ (bs:List Blk) (k:Nat) (L:St) (i:Nat) (b:Blk),(∀ j j',k<=j->j<j'->j'<k+bs.length->σ j≠σ j')->bs[i]?=some b->(addB σ k bs L).heap (σ (k+i))=some ⟨b.sz,rens σ b.vals,b.mt⟩
 | [],_,_,i,_,_,h=>by simp at h
 | x :: xs,k,L,0,b,hi,h=>by
   simp only [ke,bF] at h;subst h;show (addB σ k (x :: xs) L).heap (σ k)=_;rw [addB,addB_old xs (k+1) _ _ (fun j h1 h2=>hi k j (an _) J (by simp only [aQ];omega))];simp [St.setB]
 | x :: xs,k,L,i+1,b,hi,h=>by
   rw [addB];have:=addB_new xs (k+1) (L.setB (σ k) (some ⟨x.sz,rens σ x.vals,x.mt⟩)) i b (fun j j' h1 h2 h3=>hi j j' J h2 (by simp only [aQ];omega)) dX;rwa [show k+1+i=k+(i+1) by omega] at this
def nameN (b d:Nat):Nat->Nat:=fun k=>if k=0 then b else callName d k
end
end Go.Lg
namespace Go.Lg
section
variable {P:Program} {W w w':World} {X X0:XS} {Z0 Z Zr:Nat->Prop} {μ a5:Nat->Option Nat} {H H' Hr:Heap} {a:Act} {L L':St} {n d:Nat} {ops:Array Oper} {σ:Nat->Nat}
def ownNm (own:List Nat):Nat->Nat:=fun b=>if b=0 then 0 else own.idxOf b+1
def ownMapN (μ:Nat->Option Nat) (own:List Nat):Nat->Option Nat:=fun k=>if k=0 then μ 0 else(own[k-1]?).bind μ
theorem ownMapN_inv {own:List Nat} {k id:Nat} (hnd:own.Nodup) (h:ownMapN μ own k=some id):(k=0/\μ 0=some id)\/∃ b,k≠0/\own[k-1]?=some b/\μ b=some id:=by
 unfold ownMapN at h;split at h
 ·rename_i e;exact .inl ⟨e,h⟩
 rename_i e;rw [Option.bind_eq_some_iff] at h;obtain⟨b,g1,g2⟩:=h;exact .inr ⟨b,e,g1,g2⟩
theorem ownMapN_map {own:List Nat} {H:Heap} (hc:∀ c id,μ c=some id->H c≠none) (qN:∀ c,c≠0->H c≠none->c∈own):∀ c id,μ c=some id->ownMapN μ own (ownNm own c)=some id:=fun c id h=>by
 by_cases h0:c=0
 ·subst h0;simpa [ownNm,ownMapN] using h
 have hm:=qN c h0 (hc c id h);have hl:=List.idxOf_lt_length_of_mem hm;have he:own[own.idxOf c]?=some c:=by rw [aB hl,List.getElem_idxOf hl]
 simp [ownNm,ownMapN,h0,he,h]
theorem resultsN_sound {av:Nat->Option Nat} (f:Nat->Nat) (hm:∀ c id,μ c=some id->av (f c)=some id) (hc:Core W X Z0 μ Z L.heap w) (hr:∀ t,RepV Z μ w (L.slot t) (a.tmps.getD t undef)) :
  ∀ (rs:List ResultVar) (xs:List LV),ResL P L rs xs->(∀ x∈xs,x≠.any/\∀ l,x≠.tup l)->∃ us,(rs.mapM (resSem a.tmps)).run P w=.ok us w/\RepVL Z av w (rens f xs) us
 | _,_,.nil,_=>⟨[],rfl,rfl⟩
 | _,_,.cons (vs:=vs) (xs:=xs) h t,hx=>by
   obtain⟨u,q1,q2⟩:=resAt_sound hc hr h (hx _ aj);obtain⟨us,q3,q4⟩:=resultsN_sound f hm hc hr _ _ t (fun y hy=>hx y (by simp [hy]));refine⟨u :: us,?_,u,us,rfl,q2.ren f hm,q4⟩;rw [List.mapM_cons,Sem.run_bind,q1];simp only [Result.andThen_ok,Sem.run_bind,q3,Sem.run_pure]
theorem one_tup_rep {ys:List LV} {us:List Value} (h:RepVL Z μ w ys us):RepV Z μ w (one_or_tup ys) (if h:us.toArray.size=1 then us.toArray[0] else .tuple us.toArray):=by
 have ot:=repVL_length _ _ h
 match ys,us,h,ot with
 | [y],[u],q2,_ =>
  obtain⟨v,dK,e,g1,g2⟩:=q2;simp only [b7] at e;obtain⟨rfl,_⟩:=e;have uF:∀ l,y≠.tup l:=fun l e=>by subst e;have:=g1.2 rfl;simp [Rep] at this
  exact RepV.of1 uF g1
 | [],[],q2,_=>exact⟨_,rfl,by simpa using q2⟩
 | y :: y' :: ys,u :: u' :: us,q2,_=>exact⟨(u :: u' :: us).toArray,by simp,by simpa using q2⟩
theorem Core.outN {own:List Nat} {Hr:Heap} {bs:List Blk} (hc:Core W X Z0 μ Z H w) (hnd:own.Nodup) (dE:0∉own) (qN:∀ c,c≠0->H c≠none->c∈own)
  (kF:∀ (k b:Nat),own[k]?=some b->∃ blk:Blk,H b=some blk/\bs[k]?=some ⟨blk.sz,rens (ownNm own) blk.vals,blk.mt⟩)
  (bG:∀ k,k≠0->Hr k=bs[k-1]?) (fH:∀ id blk,μ 0=some id->H 0=some blk->Hr 0=some ⟨blk.sz,rens (ownNm own) blk.vals,blk.mt⟩) :
  Core W X Z0 (ownMapN μ own) Z Hr w/\∀ c id,μ c=some id->ownMapN μ own (ownNm own c)=some id:=by
 have hhm:∀ c id,μ c=some id->H c≠none:=fun c id h e=>by obtain⟨bk,g,_⟩:=hc.heap c id h;rw [e] at g;cases g
 have hm:=ownMapN_map (μ:=μ) (own:=own) hhm qN;have mr:∀ k id,ownMapN μ own k=some id->∃ c blk,μ c=some id/\H c=some blk/\BlkRep Z μ w blk id/\Hr k=some ⟨blk.sz,rens (ownNm own) blk.vals,blk.mt⟩/\((k=0/\c=0)\/(k≠0/\c≠0/\own[k-1]?=some c)):=fun k id h=>by
  rcases ownMapN_inv hnd h with⟨rfl,h0⟩ | ⟨b,k0,g1,g2⟩
  ·obtain⟨blk,q1,q2⟩:=hc.heap 0 id h0;exact⟨0,blk,h0,q1,q2,fH id blk h0 q1,.inl ⟨rfl,rfl⟩⟩
  obtain⟨blk,q1,q2⟩:=hc.heap b id g2;obtain⟨blk',j1,j2⟩:=kF _ _ g1;rw [q1] at j1;cases j1;exact⟨b,blk,g2,q1,q2,by rw [bG k k0];exact j2,.inr ⟨k0,fun e=>dE (e ▸ jZ g1),g1⟩⟩
 refine⟨⟨hc.keep,hc.zone,hc.zsup,hc.zsub,?_,?_,?_,hc.xlt,fun id h=>by simpa [ownMapN] using hc.x1 id h,?_,?_,?_⟩,hm⟩
 ·intro k k' id h h';obtain⟨c,_,g1,_,_,_,g2⟩:=mr k id h;obtain⟨c',_,y9,_,_,_,yE⟩:=mr k' id h';have e:=hc.inj c c' id g1 y9;subst e;rcases g2 with⟨rfl,c0⟩ | ⟨k0,c0,q⟩<;>rcases yE with⟨rfl,c0'⟩ | ⟨k0',c0',q'⟩
  ·rfl
  ·exact absurd c0 c0'
  ·exact absurd c0' c0
  obtain⟨l1,e1⟩:=fV.1 q;obtain⟨l2,e2⟩:=fV.1 q';have hp:=List.pairwise_iff_getElem.1 hnd;rcases Nat.lt_trichotomy (k-1) (k'-1) with h | h | h
  ·exact absurd (e1.trans e2.symm) (hp _ _ l1 l2 h)
  ·omega
  exact absurd (e2.trans e1.symm) (hp _ _ l2 l1 h)
 ·intro k id h;obtain⟨c,_,g1,_⟩:=mr k id h;exact hc.own c id g1
 ·intro k id h hx;obtain⟨c,_,g1,_,_,_,g2⟩:=mr k id h;have:=hc.x0 c id g1 hx;rcases g2 with⟨rfl,_⟩ | ⟨_,c0,_⟩
  ·rfl
  exact absurd this c0
 ·intro k id blk h g bE;obtain⟨c,b0,g1,g2,g3,g4,_⟩:=mr k id h;rw [g4] at g;cases g;exact hc.mutz c id b0 g1 g2 bE
 ·intro k id blk h g bE;obtain⟨c,b0,g1,g2,g3,g4,_⟩:=mr k id h;rw [g4] at g;cases g;exact hc.frz c id b0 g1 g2 bE
 intro k id h;obtain⟨c,b0,g1,g2,⟨cc,T,part,rest,j1,j2,j3⟩,g4,_⟩:=mr k id h;exact⟨_,g4,cc,T,part,rest,j1,j2,RepAll.ren _ hm _ _ _ j3⟩
def mvN (b b':Nat):Nat->Nat:=fun k=>if k=b then b' else k
def St.move (L:St) (b b':Nat):St :=
 ⟨fun t=>(L.slot t).ren (mvN b b'),fun c=>if c=b' then(L.heap b).map fun x=>⟨x.sz,rens (mvN b b') x.vals,x.mt⟩ else if c=b then none else(L.heap c).map fun x=>⟨x.sz,rens (mvN b b') x.vals,x.mt⟩⟩
end
section
variable {Z Z':Nat->Prop} {μ av:Nat->Option Nat} {w:World}
mutual
theorem LV.ren_pure_eq (f:Nat->Nat):∀ (x:LV),(x.ren f).pure=x.pure
 | .any=>rfl
 | .v _=>rfl
 | .list sz l=>by simp only [LV.ren,LV.pure,rens_pure_eq f l]
 | .agg l=>by simp only [LV.ren,LV.pure,rens_pure_eq f l]
 | .ref ..=>rfl
 | .refc ..=>rfl
 | .eptr ..=>rfl
 | .boxp c=>by simp only [LV.ren,LV.pure,LV.ren_pure_eq f c]
 | .clo g l=>by simp only [LV.ren,LV.pure,rens_pure_eq f l]
 | .tup l=>by simp [LV.ren,LV.pure]
theorem rens_pure_eq (f:Nat->Nat):∀ (l:List LV),pures (rens f l)=pures l
 | []=>rfl
 | x :: xs=>by simp only [rens,pures,LV.ren_pure_eq f x,rens_pure_eq f xs]
end
mutual
theorem Rep.unren (f:Nat->Nat) (hm:∀ b id,μ (f b)=some id->av b=some id):∀ (lv:LV) (cs:List Value),Rep Z μ w (lv.ren f) cs->Rep Z av w lv cs
 | .any,_,h=>by simpa [Rep,LV.ren] using h
 | .v x,cs,h=>by simpa [Rep,LV.ren] using h
 | .list sz l,cs,h=>by
   have h9:pures l=true:=by
    simp only [Rep,LV.ren] at h;obtain⟨a,len,cap,h1,h2,h3,h4,h9⟩:=h;rwa [rens_pure_eq] at h9
   rw [LV.ren_pure f (.list sz l) (by simpa [LV.pure] using h9)] at h;exact Rep.repure (fun _ h=>h) (fun _ _=>rfl) _ _ (by simpa [LV.pure] using h9) h
 | .agg l,cs,h=>by
   simp only [Rep,LV.ren] at h ⊢;exact RepFs.unren f hm l cs h
 | .ref b sz off len,cs,h=>by
   simp only [Rep,LV.ren] at h ⊢;rcases h with h | ⟨id,cap,c,T,fz,h1,h2,h3⟩
   ·exact gR
   exact .inr ⟨id,cap,c,T,fz,h1,hm _ _ h2,h3⟩
 | .refc b sz off len cap,cs,h=>by
   simp only [Rep,LV.ren] at h ⊢;obtain⟨id,c,T,fz,h1,h2,h3⟩:=h;exact⟨id,c,T,fz,h1,hm _ _ h2,h3⟩
 | .eptr b sz i o,cs,h=>by
   simp only [Rep,LV.ren] at h ⊢;obtain⟨id,h1,h2⟩:=h;exact⟨id,h1,hm _ _ h2⟩
 | .boxp c,cs,h=>by
   have h9:c.pure=true:=by
    simp only [Rep,LV.ren] at h;obtain⟨blk,off,cc,T,fz,part,rest,h1,h2,h3,h4,h5,h6,h7⟩:=h;rwa [LV.ren_pure_eq] at h7
   rw [LV.ren_pure f (.boxp c) (by simpa [LV.pure] using h9)] at h;exact Rep.repure (fun _ h=>h) (fun _ _=>rfl) _ _ (by simpa [LV.pure] using h9) h
 | .clo g cap,cs,h=>by
   have h9:pures cap=true:=by
    simp only [Rep,LV.ren] at h;obtain⟨vs,h1,h2,h3⟩:=h;rwa [rens_pure_eq] at h3
   rw [LV.ren_pure f (.clo g cap) (by simpa [LV.pure] using h9)] at h;exact Rep.repure (fun _ h=>h) (fun _ _=>rfl) _ _ (by simpa [LV.pure] using h9) h
 | .tup _,_,h=>by simp [Rep,LV.ren] at h
theorem RepAll.unren (f:Nat->Nat) (hm:∀ b id,μ (f b)=some id->av b=some id) (sz:Nat):∀ (l:List LV) (cs:List Value),RepAll Z μ w sz (rens f l) cs->RepAll Z av w sz l cs
 | [],cs,h=>by simpa [RepAll,rens] using h
 | x :: xs,cs,h=>by
   simp only [RepAll,rens] at h ⊢;obtain⟨c1,c2,h1,h2,h3,h4⟩:=h;exact⟨c1,c2,h1,h2,Rep.unren f hm x c1 h3,RepAll.unren f hm sz xs c2 h4⟩
theorem RepFs.unren (f:Nat->Nat) (hm:∀ b id,μ (f b)=some id->av b=some id):∀ (l:List LV) (cs:List Value),RepFs Z μ w (rens f l) cs->RepFs Z av w l cs
 | [],cs,h=>by simpa [RepFs,rens] using h
 | x :: xs,cs,h=>by
   simp only [RepFs,rens] at h ⊢;obtain⟨c1,c2,h1,h2,h3,h4⟩:=h;exact⟨c1,c2,h1,by rw [<-LV.ren_csize f];exact h2,Rep.unren f hm x c1 h3,RepFs.unren f hm xs c2 h4⟩
end
theorem RepV1.unren (f:Nat->Nat) (hm:∀ b id,μ (f b)=some id->av b=some id) {lv:LV} {v:Value} (h:RepV1 Z μ w (lv.ren f) v):RepV1 Z av w lv v :=
 ⟨fun e=>let ⟨cs,h1,h2⟩:=h.1 (by rwa [LV.ren_isAgg]);⟨cs,h1,Rep.unren f hm _ _ h2⟩,fun e=>Rep.unren f hm _ _ (h.2 (by rwa [LV.ren_isAgg]))⟩
end
def XS.two (i0:Nat) (iq:Nat->Option Nat):XS:=⟨fun k=>k=i0,fun id=>∃ k,k≠0/\iq k=some id⟩
def CallOKC (P:Program) (f:FuncId) (blk c1:Blk) (args:List LV) (r:LV) (blk':Blk) (bs:List Blk):Prop :=
 Callable P f/\∀ (W:World) (Z0:Nat->Prop) (vs:List Value) (i0:Nat) (iq:Nat->Option Nat),(∀ id,Z0 id->id<W.heap.size)->iq 0=some i0 ->
  (∀ k id,iq k=some id->¬ Z0 id/\∃ b,heapMN blk [c1] k=some b/\BlkRep Z0 iq W b id)->(∀ k k' id,iq k=some id->iq k'=some id->k=k')->RepVL Z0 iq W args vs ->
  Calls P f vs.toArray W fun e w'=>∃ v μ Z,e=.returned v/\Core W (XS.two i0 iq) Z0 μ Z (heapMN blk' bs) w'/\RepV Z μ w' r v
def RetCN0 (P:Program) (rs:List ResultVar) (L:St) (r:LV) (blk':Blk) (bs:List Blk):Prop :=
 ∃ (xs:List LV) (own:List Nat) (b0:Blk),L.heap 0=some b0/\blk'=⟨b0.sz,rens (ownNm own) b0.vals,b0.mt⟩/\ResL P L rs xs/\(∀ x∈xs,x≠.any/\∀ l,x≠.tup l)/\own.Nodup/\0∉own/\(∀ c,c≠0->L.heap c≠none->c∈own) /\
  (∀ (k b:Nat),own[k]?=some b->∃ blk:Blk,L.heap b=some blk/\bs[k]?=some ⟨blk.sz,rens (ownNm own) blk.vals,blk.mt⟩)/\r=one_or_tup (rens (ownNm own) xs)
def RetCN (P:Program) (rs:List ResultVar) (L:St) (r:LV) (blk':Blk) (bs:List Blk):Prop:=∃ L0,Weak L L0/\RetCN0 P rs L0 r blk' bs
section
variable {P:Program} {W w w':World} {X X0:XS} {Z0 Z Zr:Nat->Prop} {μ a5:Nat->Option Nat} {H H' Hr:Heap} {a:Act} {L L':St} {n d:Nat} {ops:Array Oper} {σ:Nat->Nat}
def StC (args:List LV) (blk c1:Blk):St:=⟨fun t=>args.getD t .any,heapMN blk [c1]⟩
theorem StC_hp (args:List LV) (blk c1:Blk):StC args blk c1=St.mk (fun t=>args.getD t .any) (hp [(0,blk),(1,c1)]):=by
 simp only [StC,St.mk.injEq,true_and];funext c;simp only [hp,heapMN]
 match c with
 | 0=>rfl
 | 1=>rfl
 | c+2=>rw [if_neg J,beq_ne (show c+2≠0 by omega),beq_ne (show c+2≠1 by omega)];simp
theorem callOKC_of {f:FuncId} {fn:Func} {c:Code} {args:List LV} {r:LV} {blk c1 blk':Blk} {bs:List Blk} (cE:P.follows .mixedOrders=true) (hf:P.funcs[f]?=some fn) (hb:fn.body=some c)
  (hn:(fn.name== "runtime.NumGoroutine")=false) (hd:dstsOk fn.ntmps c=true) (hlen:args.length<=fn.ntmps) (bE:blk.mt=true) (aae:c1.mt=true)
  (h:wpL P c (fun e L=>match e with | .exit _=>False | _=>RetCN P fn.results.toList L r blk' bs) (St.mk (fun t=>args.getD t .any) (hp [(0,blk),(1,c1)]))):CallOKC P f blk c1 args r blk' bs:=by
 rw [<-StC_hp] at h;refine⟨⟨fn,hf,by rw [hb];rfl,hn⟩,fun W Z0 vs i0 iq hz h0 gQ sw hargs=>?_⟩;have iU:=repVL_length _ _ hargs;refine calls_of_wp hf hb ?_;have abi:∀ k id,iq k=some id->id<W.heap.size:=fun k id e=>by
  obtain⟨_,bk,_,c,T,part,rest,h1,_⟩:=gQ k id e;exact(eB.1 h1).1
 have aeZ:∀ k bk,heapMN blk [c1] k=some bk->bk.mt=true:=fun k bk e=>by
  unfold heapMN at e;split at e
  ·cases e;exact bE
  rename_i hk;have:=jZ e;simp only [bD] at this;subst this;exact aae
 have gJ:Sim fn.ntmps W (XS.two i0 iq) Z0 (StC args blk c1) ⟨vs.toArray++gX (fn.ntmps-vs.toArray.size) undef,[]⟩ W:=by
  refine⟨rfl,by simp;omega,iq,Z0,⟨Kept.refl _ _,hz,fun _ h=>h,fun _ h=>.inl h,sw,fun b id e=>?_,fun b id e hx=>?_,fun id e=>?_,fun id e=>?_,fun b id bk e _ _=>(gQ b id e).1,
   fun b id bk e g hm=>?_,fun b id e=>?_⟩,fun t=>?_⟩
  ·by_cases bC:b=0
   ·subst bC;rw [h0] at e;cases e;exact .inr (.inl rfl)
   exact .inr (.inr ⟨b,bC,e⟩)
  ·rw [show id=i0 from hx] at e;exact sw _ _ _ e h0
  ·rcases e with e | ⟨k,_,e⟩
   ·rw [show id=i0 from e];exact abi _ _ h0
   exact abi _ _ e
  ·rw [show id=i0 from e];exact h0
  ·rw [aeZ b bk g] at hm;cases hm
  ·exact(gQ b id e).2
  have e:vs.toArray++gX (fn.ntmps-vs.toArray.size) undef=(vs++ai (fn.ntmps-vs.toArray.size) undef).toArray:=by apply l8;simp
  show RepV Z0 iq W ((St0 args).slot t) ((vs.toArray++gX (fn.ntmps-vs.toArray.size) undef).getD t undef);rw [e];exact St0_rep args vs _ hargs t
 refine wp_mono (wpL_sound cE c _ _ _ _ gJ h hd) fun e a w q=>?_;have main:∀ L,RetCN P fn.results.toList L r blk' bs->Sim fn.ntmps W (XS.two i0 iq) Z0 L a w ->
   a.defers=[]/\∃ v,(results fn a.tmps).run P w=.ok v w/\∃ v' μ Z,Ending.returned v=.returned v'/\Core W (XS.two i0 iq) Z0 μ Z (heapMN blk' bs) w/\RepV Z μ w r v':=by
  rintro L ⟨L0,hwk,xs,own,b0,bC,afH,h1,hx,h2,h3,h4,h5,h6⟩ hsL;obtain⟨bj,hsz,μ,Z,hc,hr⟩:=hwk _ _ _ _ _ _ hsL;obtain⟨k1,k2⟩:=hc.outN (Hr:=heapMN blk' bs) h2 h3 h4 h5 (fun k hk=>by simp [heapMN,hk]) (fun id blk e g=>by rw [bC] at g;cases g;simp [heapMN,afH]);obtain⟨us,q1,q2⟩:=resultsN_sound (ownNm own) k2 hc hr _ _ h1 hx;have gV:(fn.results.mapM (resSem a.tmps)).run P w=.ok us.toArray w:=by
   rw [Array.mapM_eq_mapM_toList,Sem.run_map,q1];rfl
  refine⟨bj,(if h:us.toArray.size=1 then us.toArray[0] else .tuple us.toArray),?_,_,_,Z,rfl,k1,?_⟩
  ·rw [results_eq,Sem.run_bind,gV];rfl
  subst h6;exact one_tup_rep q2
 cases e with
 | normal=>obtain⟨L,q1,q2⟩:=q;exact main L q1 q2
 | ret=>obtain⟨L,q1,q2⟩:=q;exact main L q1 q2
 | exit id=>obtain⟨L,q1,q2⟩:=q;exact q1.elim
 | _=>exact q.elim
def nmC (b c d:Nat):Nat->Nat:=fun k=>if k=0 then b else if k=1 then c else callName d 0
inductive ArgC (H:Heap) (σ:Nat->Nat):LV->LV->Prop
 | imm {x y} (h:Imm H x y):ArgC H σ x y
 | ren {y} (h:y≠.any/\∀ l,y≠.tup l):ArgC H σ (y.ren σ) y
inductive ArgCL (H:Heap) (σ:Nat->Nat):List LV->List LV->Prop
 | nil:ArgCL H σ [] []
 | cons {x y xs ys} (h:ArgC H σ x y) (t:ArgCL H σ xs ys):ArgCL H σ (x :: xs) (y :: ys)
theorem ArgC.sound (hc:Core W X Z0 μ Z H w) {x y:LV} {v:Value} (h:ArgC H σ x y) (hr:RepV Z μ w x v):RepV1 Z (fun k=>μ (σ k)) w y v:=by
 cases h with
 | imm h=>exact Imm.soundV hc h hr
 | ren hn =>
  refine RepV1.unren σ (fun _ _ h=>h) ?_
  cases y with
  | any=>exact absurd rfl hn.1
  | tup l=>exact absurd rfl (hn.2 l)
  | _=>exact hr
theorem argCL_args (hc:Core W X Z0 μ Z H w) {ρ:Operand->LV}:∀ (xs:List Operand) (args:List LV),ArgCL H σ (xs.map ρ) args->(∀ x∈xs,RepV Z μ w (ρ x) (a.eval x)) ->
  RepVL Z (fun k=>μ (σ k)) w args (xs.map a.eval)
 | [],_,h,_=>by cases h;rfl
 | x :: xs,_,h,hr=>by
   generalize hq:(x :: xs).map ρ=q at h
   cases h with
   | nil=>cases hq
   | cons h t =>
    simp only [gA,b7] at hq;obtain⟨rfl,rfl⟩:=hq;exact⟨_,_,rfl,h.sound hc (hr x aj),argCL_args hc xs _ t (fun y hy=>hr y (by simp [hy]))⟩
theorem sem_callC {f:FuncId} {xs:Array Operand} {kj:Array TypeId} {args:List LV} {r:LV} {b c sz csz:Nat} {vals cvals:List LV} {blk':Blk} {bs:List Blk} {dst:Option Tmp} {ty:TypeId} {pos:String} {af:Array Edge} {g:Option (Nat × Bool)} (d:Nat)
  (hg:GuardIs ops L ⟨dst,.call ⟨.value (.func f),xs,kj⟩,ty,pos,af,g⟩ true) (jQ:b≠c) (iI:c≠0)
  (hb:L.heap b=some ⟨sz,rens (nmC b c d) vals,true⟩) (fA:L.heap c=some ⟨csz,rens (nmC b c d) cvals,true⟩)
  (ha:ArgCL L.heap (nmC b c d) (xs.toList.map L.ev) args) (hn:Names b (xs.toList.map L.ev))
  (hk:CallOKC P f ⟨sz,vals,true⟩ ⟨csz,cvals,true⟩ args r blk' bs) (hlen:bs.length<16) (hf:∀ k,k<16->L.heap (callName d k)=none) :
  SemStep P ops ⟨dst,.call ⟨.value (.func f),xs,kj⟩,ty,pos,af,g⟩ L ((addB (nameN b d) 1 bs ((L.kill c).setB b (some ⟨blk'.sz,rens (nameN b d) blk'.vals,blk'.mt⟩))).put dst (r.ren (nameN b d))):=by
 intro n W X Z0 a w K Q ⟨bj,acd,μ,Z,hc,hr⟩ hd hK;rw [guard_wanted hr hg];simp only [if_true];have cC:∀ t,dst=some t->t<a.tmps.size:=fun t h=>by rw [acd];exact hd t h
 obtain⟨i0,jY⟩:=Names.mu (μ:=μ) (Z:=Z) (w:=w) (a:=a) xs.toList hn (fun x _=>ev_rep (L:=L) hr x);have hargs:=argCL_args (a:=a) hc xs.toList args ha (fun x _=>ev_rep (L:=L) hr x);have bV:(execOp a.eval (Oper.mk dst (.call ⟨.value (.func f),xs,kj⟩) ty pos af g)).run P w=.ok (.enter f (xs.map a.eval)) w:=by
  have:=callFunc_run (P:=P) (w:=w) (args:=xs.map a.eval) hk.1;simp only [execOp,resolve,Act.eval,Deferred.ofValue,Sem.run_bind,Sem.run_pure,Result.andThen_ok,invoke];simpa using this
 unfold Oper.wp;rw [bV,Oper.upon_enter];have ud:μ (callName d 0)=none:=mu_none hc (hf 0 J);have ye:∀ k id,μ (nmC b c d k)=some id->(k=0/\μ b=some id)\/(k=1/\μ c=some id):=fun k id e=>by
  unfold nmC at e;split at e
  ·exact .inl ⟨by assumption,e⟩
  split at e
  ·exact .inr ⟨by assumption,e⟩
  rw [ud] at e;cases e
 have jD:=hc.mutz b i0 _ jY hb rfl;have:=hk.2 w Z (xs.toList.map a.eval) i0 (fun k=>μ (nmC b c d k)) hc.zone (by simpa [nmC] using jY) (fun k id e=>by
  rcases ye k id e with⟨rfl,e1⟩ | ⟨rfl,e1⟩
  ·obtain⟨xY,g1,cc,T,part,rest,q1,q2,q3⟩:=hc.heap b id e1;rw [hb] at g1;cases g1;exact⟨hc.mutz b id _ e1 hb rfl,_,rfl,cc,T,part,rest,q1,q2,RepAll.unren _ (fun _ _ h=>h) _ _ _ q3⟩
  ·obtain⟨xY,g1,cc,T,part,rest,q1,q2,q3⟩:=hc.heap c id e1;rw [fA] at g1;cases g1;exact⟨hc.mutz c id _ e1 fA rfl,_,rfl,cc,T,part,rest,q1,q2,RepAll.unren _ (fun _ _ h=>h) _ _ _ q3⟩)
  (fun k k' id e e'=>by
   rcases ye k id e with⟨rfl,e1⟩ | ⟨rfl,e1⟩<;>rcases ye k' id e' with⟨rfl,e2⟩ | ⟨rfl,e2⟩
   ·rfl
   ·exact absurd (hc.inj _ _ _ e1 e2) jQ
   ·exact absurd (hc.inj _ _ _ e2 e1) jQ
   rfl) hargs
 rw [show (xs.toList.map a.eval).toArray=xs.map a.eval from by apply l8;simp] at this;refine this.mono ?_;rintro e w' ⟨v,a5,Zr,rfl,lG,hv⟩;have sw:∀ j j',1<=j->j<j'->j'<1+bs.length->nameN b d j≠nameN b d j':=fun j j' h1 h2 _ e=>by
  unfold nameN at e;rw [if_neg J,if_neg J] at e;unfold callName at e;omega
 have adQ:∀ k id,a5 k=some id->k≠0->k<16/\∃ blk,bs[k-1]?=some blk:=fun k id h h0=>by
  obtain⟨bk,q1,_⟩:=lG.heap k id h;simp only [heapMN,if_neg h0] at q1;have:=(fV.1 q1).1;exact⟨J,bk,q1⟩
 have fR:=hc.kill c iI;have hinv:∀ e id,drop1 μ c e=some id->e≠c/\μ e=some id:=fun e id h=>by
  unfold drop1 at h;split at h
  ·cases h
  exact⟨by assumption,h⟩
 have kG:drop1 μ c b=some i0:=by unfold drop1;rw [if_neg jQ];exact jY
 obtain⟨h1,h2,h3,h4⟩:=fR.callN (d:=d) (σ:=nameN b d) (H':=(addB (nameN b d) 1 bs ((L.kill c).setB b (some ⟨blk'.sz,rens (nameN b d) blk'.vals,blk'.mt⟩))).heap) lG
  (fun k id h h0=>⟨(adQ k id h h0).1,by unfold nameN;rw [if_neg h0],by
   unfold drop1;split
   ·rfl
   exact mu_none hc (hf k (adQ k id h h0).1)⟩)
  (fun id e=>by rw [show id=i0 from e];exact⟨kG,jD⟩)
  (fun id ⟨k,k0,e⟩=>by
   rcases ye k id e with⟨rfl,e1⟩ | ⟨rfl,e1⟩
   ·exact absurd rfl k0
   refine⟨fun e he=>(hinv e id he).1 (hc.inj _ _ _ (hinv e id he).2 e1),hc.mutz c id _ e1 fA rfl,?_⟩;rcases hc.own c id e1 with h | h | h
   ·exact gR
   ·exact absurd (hc.x0 c id e1 h) iI
   exact .inr h)
  (fun id h=>by have:=lG.x1 i0 rfl;rw [h] at this;cases this;rfl)
  (fun k id bk h g=>by
   by_cases h0:k=0
   ·subst h0;simp only [heapMN,if_true,bF] at g;subst g;rw [addB_old _ _ _ _ (fun j h1 h2 e=>by
     unfold nameN at e;rw [if_pos rfl,if_neg J] at e;have:=hf j J;rw [<-e,hb] at this;cases this)]
    simp [St.setB,nameN]
   simp only [heapMN,if_neg h0] at g;have:=addB_new (σ:=nameN b d) bs 1 ((L.kill c).setB b (some ⟨blk'.sz,rens (nameN b d) blk'.vals,blk'.mt⟩)) (k-1) bk sw g;rwa [show 1+(k-1)=k by omega] at this)
  (fun e id h ne=>by
   have afw:e≠b:=by rintro rfl;rw [kG] at h;cases h;exact ne (.inl rfl)
   rw [addB_old _ _ _ _ (fun j h1 h2 ej=>by
    have hj:=hf j J;unfold nameN at ej;rw [if_neg J] at ej;subst ej;have:=(hinv _ _ h).2;rw [mu_none hc hj] at this;cases this)]
   simp [St.setB,afw])
 refine hK _ _ ⟨by rw [put_defers];exact bj,by rw [put_size];exact acd,_,Zr,by rw [put_heap];exact h1,?_⟩;refine put_rep (L:=addB (nameN b d) 1 bs ((L.kill c).setB b (some ⟨blk'.sz,rens (nameN b d) blk'.vals,blk'.mt⟩))) cC (fun t=>?_) (hv.ren _ h4);rw [addB_slot];exact(kill_rep c hr t).mono lG.zsup h2 h3
end
end Go.Lg
namespace Go.Lg
theorem Weak.cellNil {L:St} {b d sz csz:Nat} {m:Bool} {vals abu:List LV} (ak:b≠d) (hd:L.heap d=none) (hb:L.heap b=some ⟨sz,vals,m⟩)
  (hv:∀ (Z:Nat->Prop) (μ:Nat->Option Nat) (w:World) (part:List Value),RepAll Z μ w sz vals part->RepAll Z μ w sz abu part) :
  Weak L ((L.setB d (some ⟨csz,[],true⟩)).setB b (some ⟨sz,abu,m⟩)):=by
 rintro n W X Z0 a w ⟨bj,hsz,μ,Z,hc,hr⟩;have er:∀ id,μ d≠some id:=fun id e=>by rw [mu_none hc hd] at e;cases e
 refine⟨bj,hsz,μ,Z,⟨hc.keep,hc.zone,hc.zsup,hc.zsub,hc.inj,hc.own,hc.x0,hc.xlt,hc.x1,fun c id blk g1 g2 g3=>?_,fun c id blk g1 g2 g3=>?_,fun c id g1=>?_⟩,hr⟩
 ·simp only [St.setB] at g2;split at g2
  ·rename_i e;subst e;cases g2;exact hc.mutz c id _ g1 hb g3
  split at g2
  ·rename_i e;subst e;exact absurd g1 (er id)
  exact hc.mutz c id blk g1 g2 g3
 ·simp only [St.setB] at g2;split at g2
  ·rename_i e;subst e;cases g2;exact hc.frz c id _ g1 hb g3
  split at g2
  ·rename_i e;subst e;exact absurd g1 (er id)
  exact hc.frz c id blk g1 g2 g3
 obtain⟨bk,j1,cc,T,part,rest,j2,j3,j4⟩:=hc.heap c id g1;simp only [St.setB];split
 ·rename_i e;subst e;rw [hb] at j1;cases j1;exact⟨_,rfl,cc,T,part,rest,j2,j3,hv _ _ _ _ j4⟩
 split
 ·rename_i e;subst e;exact absurd g1 (er id)
 exact⟨bk,j1,cc,T,part,rest,j2,j3,j4⟩
theorem repNil3 {p q:LV} {d c sz:Nat} (Z:Nat->Prop) (μ:Nat->Option Nat) (w:World) (part:List Value) (h:RepAll Z μ w sz [.agg [p,.v (.slice none 0 0),q]] part):RepAll Z μ w sz [.agg [p,.ref d c 0 0,q]] part:=by
 simp only [RepAll,Rep,RepFs] at h ⊢;obtain⟨c1,c2,h1,h2,⟨d1,d2,e1,e2,e3,f1,f2,g1,g2,g3,g4⟩,h3⟩:=h;exact⟨c1,c2,h1,h2,⟨d1,d2,e1,e2,e3,f1,f2,g1,by simpa [LV.csize] using g2,.inl ⟨g3.1,trivial⟩,g4⟩,h3⟩
theorem Weak.ofRefc {L:St} {t b sz off len cp:Nat} (h:L.slot t=.refc b sz off len cp):Weak L (L.put (some t) (.ref b sz off len)):=by
 rintro n W X Z0 a w ⟨bj,hsz,μ,Z,hc,hr⟩;refine⟨bj,hsz,μ,Z,by rw [put_heap];exact hc,fun s=>?_⟩;rw [put_slot];split
 ·rename_i ba;subst ba;have e:=hr s;rw [h] at e;have e3:=e.2 rfl;simp only [Rep] at e3;obtain⟨id,c,T,fz,q1,q2,q3,q4,q5⟩:=e3;exact⟨by simp [LV.isAgg],fun _=>by simp only [Rep];exact .inr ⟨id,cp,c,T,fz,q1,q2,q3,q4,q5⟩⟩
 exact hr s
theorem callOKC_cap {P:Program} {f:FuncId} {blk c1 blk':Blk} {sz n:Nat} {args:List LV} {r:LV} {bs:List Blk} (hn:0<n) (h:∀ cp,n<=cp->CallOKC P f blk c1 (.refc 1 sz 0 n cp :: args) r blk' bs):CallOKC P f blk c1 (.ref 1 sz 0 n :: args) r blk' bs:=by
 refine⟨(h n (an _)).1,fun W Z0 vs i0 iq hz h0 gQ sw hargs=>?_⟩;obtain⟨v,dK,rfl,hv,ab8⟩:=hargs;have h3:=hv.2 rfl;simp only [Rep] at h3;rcases h3 with⟨_,e⟩ | ⟨id,cap,c,T,fz,q1,q2,q3,q4,q5⟩
 ·omega
 exact(h cap q3).2 W Z0 (v :: dK) i0 iq hz h0 gQ sw ⟨v,dK,rfl,⟨by simp [LV.isAgg],fun _=>by simp only [Rep];exact⟨id,c,T,fz,q1,q2,q3,q4,q5⟩⟩,ab8⟩
theorem retCNr {P:Program} {L:St} {t b sz len:Nat} {b0:Blk} {l:List (Nat × Blk)} {v:List LV} (hs:L.slot t=.ref b sz 0 len) (hl:L.heap=hp l) (h0:hp l 0=some b0) (rJ:pures b0.vals=true) (bC:b≠0)
  (qN:∀ c∈l.map (·.1),c≠0->c=b) (h1:hp l b=some ⟨sz,v,true⟩) (hv:pures v=true):RetCN0 P [.tmp t] L (.ref 1 sz 0 len) b0 [⟨sz,v,true⟩]:=by
 have hdm:∀ (l:List (Nat × Blk)) (c:Nat),hp l c≠none->c∈l.map (·.1):=fun l=>by
  induction l with
  | nil=>exact fun c h=>absurd rfl h
  | cons p t ih =>
   obtain⟨d,y⟩:=p;intro c h;by_cases e:c=d
   ·simp [e]
   have:Nat.beq c d=false:=by rw [<-Bool.not_eq_true,Nat.beq_eq];exact e
   simp only [hp,this,cond_false] at h;simp only [gA,bp];exact .inr (ih c h)
 have dR:ownNm [b] b=1:=by simp [ownNm,bC]
 refine⟨[.ref b sz 0 len],[b],b0,by rw [hl];exact h0,by rw [rens_pure _ _ rJ],.cons hs .nil,fun x hx=>by rw [bD.1 hx];exact⟨by simp,by simp⟩,by simp,by simpa using fun e:0=b=>bC e.symm,fun c hc hh=>?_,fun k c hk=>?_,?_⟩
 ·rw [hl] at hh;exact bD.2 (qN c (hdm l c hh) hc)
 ·cases k with
  | zero =>
   simp only [ke,bF] at hk;subst hk;exact⟨⟨sz,v,true⟩,by rw [hl];exact h1,by simp only [ke,rens_pure _ _ hv]⟩
  | succ k=>simp at hk
 simp only [rens,LV.ren,dR];rfl
end Go.Lg
end
section
set_option linter.unusedVariables false
set_option linter.unusedSimpArgs false
set_option maxHeartbeats 4000000
namespace Go.Lg
section
variable {P:Program} {W w:World} {X:XS} {Z0 Z:Nat->Prop} {μ:Nat->Option Nat} {a:Act} {n:Nat} {ops:Array Oper}
def SemDT (P:Program) (l:List Oper) (m:Nat) (K:St->Prop) (L:St):Prop:=∃ o L2,l[m]?=some o/\SemStep P l.toArray o L L2/\opsL P true l.toArray (l.drop (m+1)) L2 K
theorem wl_regDY {l:List Oper} {id:Nat} {L:St} {Q:LEx->St->Prop} (cE:P.follows .mixedOrders=true) (m:Nat) (hm:drawOk l.toArray m []=true) (hl:m<l.length) (h:opsL P true l.toArray (l.take m) L (SemDT P l m (Q .normal))):wpL P (.region id l.toArray true) Q L:=by
 refine wl_regE fun n W X Z0 a w hs hd id=>?_;have cC:∀ o∈l.toArray.toList,∀ t,o.dst=some t->t<n:=fun o ho t ht=>by
  simp only [dstsOk,ie] at hd;have:=hd o ho;rw [ht] at this;simpa using this
 obtain⟨f,f0,fs,o9,L9,k1,k2,k3⟩:=opsL_chain _ _ h;obtain⟨f2,e0,es,ek⟩:=opsL_chain _ _ k3;have aG:(l.take m).length=m:=by rw [bZ];omega
 rw [aG] at k2;unfold drawOk at hm;simp only [dG,decide_eq_true_eq,ie,my] at hm;obtain⟨⟨⟨oe,h1⟩,h2⟩,h3⟩:=hm;have di:∀ i o,l.toArray[i]?=some o->l.toArray.getD i default=o:=fun i o h=>by rw [Array.getD_eq_getD_getElem?,h];rfl
 have kO:∀ i o,l.toArray[i]?=some o->i<l.toArray.size:=fun i o h=>(eB.1 h).1;have hsz:l.toArray.size=l.length:=aj;have mO:=bef_anc l.toArray l.toArray.toList [] (fun i=>by simp) (fun i t h=>by simp at h)
 let g:Nat->St:=fun i=>if i<=m then f i else f2 (i-(m+1))
 have gl:∀ i,i<=m->g i=f i:=fun i hi=>if_pos hi;have gm:∀ i,m<i->g i=f2 (i-(m+1)):=fun i hi=>if_neg J;refine draw_coreX (m:=m) (fr:=[]) (f:=g) (K:=Q .normal) (L:=L) cE hs (by rw [gl 0 (az _)];exact f0) (fun i o ho hor=>?_) (fun i o ho dq=>?_) (by rw [hsz,gm _ hl,<-fJ];exact ek) oe (fun i o h j hj=>?_) (fun i o h oc j hj=>?_) (fun i o h dq=>?_) (fun i j oi oj d hi hj dq fL ak nv=>?_) (fun j o hj hjf=>by simp at hjf) cC (fun L' a' w' hk cH=>⟨L',hk,cH⟩)
 ·have hi:i<m:=hor.resolve_right (fun e=>e rfl);rw [gl i J,gl (i+1) J];exact fs i o (by rw [List.getElem?_take,if_pos hi];simpa using ho)
 ·by_cases hem:i=m
  ·subst hem;have jH:l[i]?=some o:=by simpa using ho
   rw [k1] at jH;cases jH;rw [gl i (an _),gm _ (Nat.lt_succ_self _),jy,e0];exact fun a w K Q hs hd hK=>k2 n W X Z0 a w K Q hs hd hK
  have ba:=es (i-(m+1)) o (by rw [List.getElem?_drop,show m+1+(i-(m+1))=i by omega];simpa using ho);rw [gm i J,gm (i+1) J,show i+1-(m+1)=i-(m+1)+1 by omega];exact fun a w K Q hs hd hK=>step_sound hs ba hd hK
 ·have:=(h1 i (kO i o h)).1 j (by rw [di i o h];exact hj);simpa using this
 ·have:=(h1 i (kO i o h)).2;rw [if_pos oc] at this;have:=(ie.1 this) j (by simpa using hj);simp only [iy,dG,beq_iff_eq,gk] at this;rcases this with g9 | g9
  ·exact .inl (mO i j (by simpa using g9))
  exact absurd g9.2 aj
 ·have:=(h1 i (kO i o h)).2;rw [if_neg J] at this;rw [di i o h] at this;simpa using this
 have:=h2 i dq j fL;simp only [iy,beq_iff_eq] at this;rcases this with h | h
 ·exact absurd h ak
 unfold okPair at h;rw [di j oj hj,di i oi hi,nv] at h;simp only [dG,bne_iff_ne,ne_eq,iy,Bool.not_eq_true'] at h;refine⟨h.1,fun mC=>?_⟩;rcases h.2 with h' | h'
 ·rw [gk.2 mC] at h';cases h'
 split
 ·rename_i aG;rw [if_pos aG] at h';exact mO i j h'
 rename_i aG;rw [if_neg aG] at h';exact mO j i h'
theorem st_semDT {l:List Oper} {m:Nat} {K:St->Prop} {ops:Array Oper} {o:Oper} {L L2:St} (h1:l[m]?=some o) (h2:SemStep P l.toArray o L L2) (h3:opsL P true l.toArray (l.drop (m+1)) L2 K):opsL P true ops [] L (SemDT P l m K):=by
 unfold opsL;exact⟨o,L2,h1,h2,h3⟩
end
end Go.Lg
end
section
set_option linter.unusedVariables false
set_option linter.unusedSimpArgs false
namespace Go.Proofs.YtlipjipfpkbppaaGreat
open Go.Lg
section
variable {f:FuncId} {fn:Func} {c:Code} {args:List LV} {r:LV}
theorem fnC {blk c1 blk':Blk} {bs:List Blk} (hf:aa.funcs[f]?=some fn)
  (h:wpL aa c (fun e L=>match e with | .exit _=>False | _=>RetCN aa fn.results.toList L r blk' bs) (St.mk (fun t=>args.getD t .any) (hp [(0,blk),(1,c1)])))
  (hb:fn.body=some c:=by exact rfl) (hn:(fn.name== "runtime.NumGoroutine")=false:=by decide +kernel) (hd:dstsOk fn.ntmps c=true:=by decide +kernel) (hlen:args.length<=fn.ntmps:=by exact Nat.le_of_ble_eq_true rfl) (bE:blk.mt=true:=by exact rfl) (aae:c1.mt=true:=by exact rfl):CallOKC aa f blk c1 args r blk' bs:=callOKC_of fol hf hb hn hd hlen bE aae h
end
end Go.Proofs.YtlipjipfpkbppaaGreat
end
section
set_option linter.unusedVariables false
set_option linter.unusedSimpArgs false
set_option maxHeartbeats 8000000
set_option maxRecDepth 100000
attribute [local irreducible] Go.Lg.opsL Go.Lg.wpL Go.Lg.thenL Go.Lg.blockL
namespace Go.Proofs.YtlipjipfpkbppaaGreat
open Go.Lg
theorem retMCT {P:Program} {L:St} {a:Nat} {T:TypeId} {b sz t:Nat} {x y x' y':LV} {m:Bool} {n:Nat} {ag:Bool} {blk:Blk} (h:L.slot a=.eptr b sz 0 0) (hb:L.heap b=some ⟨sz,[x],m⟩)
  (hx:x.csize=sz) (gB:x.at 0 n ag=some x) (hT:TyIs P T n ag) (hi:ArgM L.heap 0 x y) (h':L.slot t=x') (fv:ArgM L.heap 0 x' y') (bC:L.heap 0=some blk) (hm:blk.mt=true) (hp:pures blk.vals=true):RetM P [.cell a T,.tmp t] L (.tup [y,y']) blk :=
 ⟨[x,x'],[y,y'],L.heap,.cons ⟨b,sz,0,0,_,x,n,ag,h,hb,rfl,rfl,hx,gB,hT⟩ (.cons h' .nil),Heap.le_refl _,.cons hi (.cons fv .nil),bC,hm,hp,rfl⟩
def bsj (f:Rat) (v:List Rat) (j:Nat):List Rat:=(b9 v.length).map fun i=>if j<i then v.getD (i-1) 0+f*(v.getD i 0-v.getD (i-1) 0) else v.getD i 0
theorem bsj_len (f:Rat) (v:List Rat) (j:Nat):(bsj f v j).length=v.length:=by simp [bsj]
theorem bsj_get (f:Rat) (v:List Rat) (j i:Nat) (h:i<v.length):(bsj f v j).getD i 0=if j<i then v.getD (i-1) 0+f*(v.getD i 0-v.getD (i-1) 0) else v.getD i 0:=by
 unfold bsj;rw [ao,bU,vA h];rfl
theorem rext {p q:List Rat} (h:p.length=q.length) (hg:∀ i,i<p.length->p.getD i 0=q.getD i 0):p=q:=by
 refine List.ext_getElem h fun i h1 h2=>?_;have:=hg i h1;rwa [ao,ao,aB h1,aB h2] at this
def bfi (F:Rat->Rat) (args v:List Rat):Nat->List Rat
 | 0=>v
 | r+1=>bsj (F (args.getD r 0)) (bfi F args v r) r
theorem bfi_len (F:Rat->Rat) (args v:List Rat):∀ r,(bfi F args v r).length=v.length
 | 0=>rfl
 | r+1=>by rw [bfi,bsj_len,bfi_len F args v r]
def bfS (Q R:Nat):Nat->Nat
 | 0=>R
 | r+1=>3*bfS Q R r+Q+2
theorem bfS_pos {Q R:Nat} (hR:1<=R):∀ r,1<=bfS Q R r
 | 0=>hR
 | r+1=>by have:=bfS_pos (Q:=Q) hR r;unfold bfS;omega
theorem bfS_mono {Q R:Nat} (hR:1<=R):∀ {r s},r<=s->bfS Q R r<=bfS Q R s
 | r,0,h=>by
         obtain rfl:r=0:=J;exact an _
 | r,s+1,h=>by
  rcases cu s r with g | g
  ·obtain rfl:r=s+1:=J;exact an _
  have:=bfS_mono (Q:=Q) hR (r:=r) (s:=s) g;show _<=3*bfS Q R s+Q+2;omega
def blo (d:Nat) (a b:Rat) (v args:List Rat):Rat:=(bfi (fun t=>(t-a)/(b-a)) args v d).getD d 0
open H_c_KcopiedO in
theorem c_SpCopO (p:List Rat) (hl:p.length<=1048576) (dC:∀ x∈p,rl x<=274877906944):CallOK aa 147 [.list 3 (p.map ratL)] (.ref 1 3 0 p.length) [⟨3,p.map ratL,true⟩]:=by
 refine fnO Tryz.func147 ?_;have dJ:True:=trivial;have a9:True:=trivial;refine ack ?_;rintro k L1 hk;refine zg6 ?_;refine wl_if rfl ?_ ?_<;>intro vv wI
 ·have dk:k<p.length:=J;have hrk:=dC _ (getD_mem dk);have hA:=c_RAdd (p.getD k 0) 0 (by rw [show rl 0=1 from rfl];omega);rw [fw] at hA;have dJ:=take_snocL (l:=p) dk;have a9:((p.take k).map ratL).take k=(p.take k).map ratL:=aH (by rw [aA,bZ];omega);refine zg15 ?_;refine fu ?_;refine cp am2 (hA) ?_;refine zg1 ?_;refine st_store rfl acw ?_;refine zg4 ?_;refine wl_regW ((Weak.kill _ 5).trans (Weak.kill _ 19)) ?_;refine bq ?_;exact qi
 obtain rfl:k=p.length:=J;have hE:p.take p.length=p:=eZ;refine zg12 ?_;rw [hE];exact ret1own rfl rfl (pures_map ratE _)
theorem c_SpCop (p:List Rat) (hl:p.length<=1048576) (dC:∀ x∈p,rl x<=274877906944):CallP aa 147 [.list 3 (p.map ratL)] (.list 3 (p.map ratL)):=callP_own (c_SpCopO p hl dC) (pures_map ratE _) aj
open H_c_Distinct in
theorem c_frac (a b t:Rat) (h:rl a+rl b+rl t<=100000) (aW:a<b):CallP aa 283 [ratL a,ratL b,ratL t] (ratL ((t-a)/(b-a))):=by
 have h1:=rl_sub t a;have h2:=rl_sub b a;have hQ:CallP aa 183 [ratL (t-a),ratL (b-a)] (.tup [ratL ((t-a)/(b-a)),iL 0]):=by
  have:=c_RQuo (t-a) (b-a) J;rwa [if_neg ay] at this
 refine fnP Tryz.func283 ?_;refine zg9 ?_;refine wl_regF 11 [9] ah ?_;refine zg2 ?_;refine cp am2 (c_RSub t a J) ?_;refine zg2 ?_;refine cp am2 (c_RSub b a J) ?_;refine cp am2 (hQ) ?_;refine zg15 ?_;exact cy
namespace H_c_KIvl2
theorem zSm {p q:Prop} (k:q) (e:p=q:=by simp only [sNF,ar,au,aq,dZ,aC,dg,gY,ada,aA,dfq,aN,aK,aO,reduceIte,if_true,if_false,aX,LV.kill,kills];exact rfl):p:=e.mpr k
end H_c_KIvl2
open H_c_KIvl2 in
theorem c_KIvl2 (d:Nat) (a b t:Rat) (hd:d<=6) (hT:rl a<=100) (fU:rl b<=100) (ht:rl t<=1000) (h1:a<=t) (h2:t<b):CallP aa 224 [.list 3 ((kn2 d a b).map ratL),nI64 d,ratL t] (.tup [nI64 d,iL 0]):=by
 have dZ:=kn2_len d a b;have aC:=kn2_lo d a b;have dg:=kn2_hi d a b;have c1:¬cmpR t a<0:=fun e=>by have:=cmpR_ge.2 h1;omega
 have c2:¬cmpR t b > 0:=fun e=>by have:=cmpR_pos.1 e;grind
 have gY:((2*(d+1):Nat):Int).toNat-1=2*(d+1)-1:=J;have ada:(((2*(d+1):Nat):Int)-1).toNat=2*(d+1)-1:=J;have c3:cmpR t b<0:=cmpR_neg.2 h2;refine fnP Tryz.func224 (ht:=(tame2 rfl rfl)) ?_;refine zg9 ?_;refine wl_regD 22 ah ?_;refine zg4 ?_;refine st_pure uf ldA ?_;refine st_pure uf (.move _) ?_;refine st_pure uf ixA ?_;refine st_pure uf ldA ?_
 try simp only [t1,dfq,aC]
 refine st_callP uf (.cons im0 (.cons im0 .nil)) (c_RCmp t a J) ?_;refine st_pure uf (.bin rfl rfl rfl) ?_;refine st_pure rfl (.pickF rfl ((beq_eq_false_iff_ne.2 J))) ?_;refine zg1 ?_;refine st_pure oD ldA ?_;refine st_pure oD (.move _) ?_;refine st_pure oD (.move _) ?_;refine st_pure oD lnA ?_;refine st_pure oD (.bin rfl rfl (sub1N J J)) ?_;refine st_pure oD ixA ?_;refine st_pure oD ldA ?_
 try simp only [t1,dfq,dZ,dg,ada]
 refine st_callP oD (.cons im0 (.cons im0 .nil)) (c_RCmp t b J) ?_;refine st_pure oD (.bin rfl rfl rfl) ?_;refine st_pure rfl (.pickF rfl ((decide_eq_false c1))) ?_;refine zg2 ?_;refine wl_condY (b:=_) rfl (decide_eq_false c2) ?_;refine zg14 ?_;refine lp1 (fun(i:Nat) L=>(mS L [(5,⟨3,[ratL t],true⟩)] [(9,nI64 i),(8,nI64 0),(5,.eptr 5 3 0 0),(0,.list 3 ((kn2 d a b).map ratL))])) (fun i=>i<=d) (fun i=>d-i) 0 (az _) ?_;rintro i L1 hi;have hA:i<d->¬cmpR ((kn2 d a b).getD i 0) ((kn2 d a b).getD (i+1) 0)<0:=fun g=>by
  rw [kn2_get _ _ _ _ J,kn2_get _ _ _ _ J,if_pos J,if_pos J];exact fun e=>by have:=cmpR_ge.2 (show a<=a by grind);omega
 have hB:i=d->cmpR ((kn2 d a b).getD i 0) ((kn2 d a b).getD (i+1) 0)<0:=fun g=>by
  rw [kn2_get _ _ _ _ J,kn2_get _ _ _ _ J,if_pos J,if_neg J];exact cmpR_neg.2 ay
 have et:=kn2_rl (d:=d) hT fU;have bG:=et _ (getD_mem (p:=kn2 d a b) (i:=i) J);have ir:=et _ (getD_mem (p:=kn2 d a b) (i:=i+1) J);refine zg4 ?_;refine cG ?_;refine zg5 ?_;refine wl_condX (b:=_) rfl (decide_eq_true (by first | omega | (simp only [aA,dZ];omega))) ?_;refine zg6 ?_;refine wl_regD 11 ah ?_;refine zg6 ?_;refine cG ?_;refine zg2 ?_
 try simp only [t1,dfq]
 refine cp am2 (c_RCmp ((kn2 d a b).getD i 0) ((kn2 d a b).getD (i+1) 0) J) ?_;refine zg3 ?_;refine wl_if rfl ?_ ?_<;>intro tX tt
 ·have hi2:i<d:=by
   rcases cu i d with g | g
   ·exact g
   have:=hB J;omega
  refine zg6 ?_;refine bq ?_;exact cq
 obtain rfl:i=d:=by
  rcases cu i d with g | g
  ·have:=hA g;omega
  omega
 have af8:(kn2 i a b).getD (i+1) 0=b:=by rw [kn2_get _ _ _ _ J,if_neg J]
 refine zg9 ?_;refine wl_regD 8 ah ?_;refine zg3 ?_;refine cG ?_;refine zg2 ?_
 try simp only [t1,dfq,af8]
 refine cp am2 (c_RCmp t b J) ?_;refine zg3 ?_;refine wl_if rfl ?_ ?_<;>intro agp h58
 ·refine zg14 ?_;exact ret2 rfl (.pure rfl) rfl (.pure rfl)
 omega
structure Q4 where
 x:Rat
 y:Rat
 z:Rat
 w:Rat
instance:Inhabited Q4:=⟨⟨0,0,0,0⟩⟩
def q4L (q:Q4):LV:=.agg [ratL q.x,ratL q.y,ratL q.z,ratL q.w]
theorem q4E:EncOK q4L 12 true:=⟨fun q=>by simp [q4L,LV.csize,csizes,ratE.csize],fun _=>rfl,fun q=>by simp [q4L,LV.pure,pures,ratE.pure]⟩
theorem q4L_kill (b:Nat) (q:Q4):(q4L q).kill b=q4L q:=LV.kill_pure b _ (q4E.pure q)
def bd4 (R:Nat) (q:Q4):Prop:=rl q.x<=R/\rl q.y<=R/\rl q.z<=R/\rl q.w<=R
def pol (d:Nat) (a b:Rat) (C:List Q4) (args:List Rat):Q4:=⟨blo d a b (C.map (·.x)) args,blo d a b (C.map (·.y)) args,blo d a b (C.map (·.z)) args,blo d a b (C.map (·.w)) args⟩
theorem getD_memQ {C:List Q4} {i:Nat} (h:i<C.length):C.getD i default∈C:=by
 rw [ao,aB h];exact fY h
theorem getD_mapQ {C:List Q4} {i:Nat} (h:i<C.length) (f:Q4->Rat):(C.map f).getD i 0=f (C.getD i default):=by
 rw [ao,bU,ao,aB h];rfl
theorem cp_set {A B:List Rat} {i:Nat} (hl:A.length=B.length) (h:i<A.length):(A.take i++B.drop i).set i (A.getD i 0)=A.take (i+1)++B.drop (i+1):=by
 rw [List.set_append_right _ _ (by rw [bZ];omega),bZ,eP J,jy,<-take_snocL h,nR];congr 1;rw [o8 (by omega:i<B.length),aN];rfl
theorem cp_len {A B:List Rat} {i:Nat} (hl:A.length=B.length) (h:i<=A.length):(A.take i++B.drop i).length=A.length:=by
 rw [cZ,bZ,fJ];omega
theorem cp_end {A B:List Rat} {i:Nat} (hl:A.length=B.length) (h:A.length<=i):A.take i++B.drop i=A:=by
 rw [aH h,ep J,aS]
theorem st_callMt {P:Program} {dst:Option Tmp} {ty:TypeId} {pos:String} {af:Array Edge} {g:Option (Nat × Bool)} {rest:List Oper} {L:St} {K:St->Prop} {f:FuncId} {xs:Array Operand} {kj:Array TypeId} {args:List LV} {r:LV} {ops:Array Oper} (b:Nat) {blk blk':Blk} (hg:GuardIs ops L ⟨dst,.call ⟨.value (.func f),xs,kj⟩,ty,pos,af,g⟩ true)
  (hb:L.heap b=some blk) (hm:blk.mt=true) (hp:pures blk.vals=true) (ha:ArgML L.heap b (xs.toList.map L.ev) args) (hn:Names b (xs.toList.map L.ev)) (hk:CallOKM P f blk args r blk')
  (gp:blk'.mt=true) (dQ:pures blk'.vals=true) (hr:∀ g,r.ren g=r) (k:opsL P false ops rest ((L.setB b (some blk')).put dst r) K) :
  opsL P false ops (⟨dst,.call ⟨.value (.func f),xs,kj⟩,ty,pos,af,g⟩ :: rest) L K :=
 st_callM b hg hb hm hp ha hn hk gp dQ (by rw [hr];exact k)
instance:EC aa 191 q4L 12 true ⟨0,0,0,0⟩:=⟨q4E,Z191,T191⟩
namespace H_c_IdxRc
theorem zSm {p q:Prop} (k:q) (e:p=q:=by simp only [sNF,ar,au,aq,dfq,aN,aK,aO,reduceIte,if_true,if_false,aX,LV.kill,kills,aA];exact rfl):p:=e.mpr k
end H_c_IdxRc
open H_c_IdxRc in
theorem c_IdxRc (f:Nat) (cap:List LV) (bN:pures cap=true) (hcs:∀ x∈cap,x.csize=1/\x.isAgg=false) (pr:Rat->Bool) (l:List Rat) (hl:l.length<=1048576) (hf:∀ x∈l,CallP aa f ([ratL x]++cap) (bL (pr x))):CallP aa 153 [.list 3 (l.map ratL),.clo f cap] (iL (fIdx pr l)):=by
 refine fnP Tryz.func153 ?_;refine zg14 ?_;refine lp1 (fun(i:Nat) L=>(mS L [] [(8,nI64 i),(7,nI64 l.length),(6,.list 3 (l.map ratL)),(1,.clo f cap),(0,.list 3 (l.map ratL))])) (fun i=>i<=l.length/\∀ j,j<i->pr (l.getD j default)=false) (fun i=>l.length-i) 0 ⟨az _,fun j hj=>absurd hj (Nat.not_lt_zero j)⟩ ?_;rintro i L1 ⟨hi,h0⟩;refine zg6 ?_;refine wl_if rfl ?_ ?_<;>intro pz h9
 ·have hi2:i<l.length:=J;have hc:=hf _ (getD_mem hi2);refine zg17 ?_;refine st_opc [] rfl rfl (.clo (f:=f) (cap:=cap) (args:=[ratL (l.getD i 0)]) rfl (.cons im0 .nil) ⟨bN,hcs⟩ hc.1 ae (fun _ h=>by cases h)) (hc.2 _) ?_;refine zg2 ?_;refine wl_if rfl ?_ ?_<;>intro mQ ks
  ·have hV:fIdx pr l=(i:Int):=fIdx_hit hi2 h0 (by first | exact mQ | exact ks);refine zg12 ?_;rw [hV];exact dS
  have hn:∀ j,j<i+1->pr (l.getD j default)=false:=fun j hj=>by
   rcases Nat.lt_succ_iff_lt_or_eq.1 hj with e | rfl
   ·exact h0 j e
   first | exact mQ | (simpa using ks)
  refine zg4 ?_;refine bq ?_;exact nx1 (i+1) ⟨J,hn⟩
 obtain rfl:i=l.length:=J;refine zg11 ?_;rw [fIdx_none h0];exact dS
open H_c_Distinct in
theorem c_SpCut1 (a x:Rat) (h:rl a+rl x<=100000):CallP aa 154 [ratL x,.boxp (ratL a)] (bL (decide (cmpR x a > 0))):=by
 refine fnP Tryz.func154 ?_;refine zg10 ?_;refine cp am2 (c_RCmp x a J) ?_;refine zg5 ?_;exact dS
open H_c_Distinct in
theorem c_SpCut2 (a x:Rat) (h:rl a+rl x<=100000):CallP aa 155 [ratL x,.boxp (ratL a)] (bL (decide (cmpR x a>=0))):=by
 refine fnP Tryz.func155 ?_;refine zg10 ?_;refine cp am2 (c_RCmp x a J) ?_;refine zg5 ?_;exact dS
theorem frz_cA (bs:List Nat) (c:Nat) (y:Blk) (l:List (Nat × Blk)):frzH bs ((c,y) :: l)=(c,⟨y.sz,y.vals,y.mt && !bs.contains c⟩) :: frzH bs l:=rfl
theorem take_snocS {l:List (Rat × Rat)} {k:Nat} (h:k<l.length):l.take k++[l.getD k default]=l.take (k+1):=by
 rw [nV,aB h,ao,aB h];rfl
theorem memS {l:List (Rat × Rat)} {k:Nat} (h:k<l.length):l.getD k default∈l:=by
 rw [ao,aB h];exact fY h
theorem boxZ:ZeroOK aa 146 (boxL ([],0,[])):=⟨Tryz.t146,_,by kernel_rfl,rfl,rfl,fun Z μ w=>by
 show RepFs Z μ w _ _;exact⟨_,_,rfl,rfl,repNil0 6,_,_,rfl,rfl,⟨rfl,rfl⟩,_,_,rfl,rfl,repNil0 1,rfl⟩⟩
instance:EC aa 146 boxL 3 true ([],0,[]):=⟨boxE,boxZ,T146⟩
theorem celZ:ZeroOK aa 46 (celV ([],[],0,0)):=⟨Tryz.t46,_,by kernel_rfl,rfl,rfl,fun Z μ w=>by
 show RepFs Z μ w _ _;exact⟨_,_,rfl,rfl,repNil0 6,_,_,rfl,rfl,repNil0 6,_,_,rfl,rfl,⟨rfl,rfl⟩,_,_,rfl,rfl,⟨rfl,rfl⟩,rfl⟩⟩
theorem ratL_half:ratL (1/2)=.agg [.v (.bool false),magL 1,.list 1 ([2].map u32L)]:=by
 rw [show (1/2:Rat)=qv false 1 2 from by decide +kernel,ratL_qv false ae ae];rfl
theorem dfI0:(default:Int)=0:=rfl
theorem md_eq (a b:Rat):(a+b)*(1/2)=(a+b)/2:=ay
namespace H_c_RMid
theorem zSm {p q:Prop} (k:q) (e:p=q:=by simp only [sNF,ar,au,aq,fz0,frz_cA,aN,aK,aO,reduceIte,if_true,if_false,aX,LV.kill,kills];exact rfl):p:=e.mpr k
end H_c_RMid
open H_c_RMid in
theorem c_RMid (a b:Rat) (h:rl a+rl b<=100000):CallP aa 256 [ratL a,ratL b] (ratL ((a+b)/2)):=by
 have hz:=rl_add a b;have hh:rl (1/2)=1:=ah;have hM:=c_RMul (a+b) (1/2) J;rw [md_eq] at hM;refine fnP Tryz.func256 ?_;refine zg11 ?_;refine cp am2 (c_RAdd a b J) ?_;refine cp am0 (c_one) ?_;refine zg2 ?_
 try refine zSm ?_
 refine st_callPf [9] rfl rfl (.cons (.pure (ratE.pure _)) (.cons (show Imm _ _ (ratL (1/2)) from ratL_half ▸ .agg (.cons (.pure rfl) (.cons (.pure rfl) (.cons (imm_refm u32E rfl rfl rfl) .nil)))) .nil)) hM ?_;refine zg4 ?_;exact cy
open H_c_Distinct in
theorem c_SMid (s:Rat × Rat) (h:rl s.1+rl s.2<=100000):CallP aa 204 [spL s] (ratL (mdS s)):=by
 refine fnP Tryz.func204 ?_;refine zg12 ?_;refine cp am2 (c_RMid s.1 s.2 h) ?_;refine zg4 ?_;exact cy
open H_c_Distinct in
theorem c_SHalves (s:Rat × Rat) (R:Nat) (hR:R<=10000) (hb:bdS R s) (hle:s.1<=s.2):CallP aa 144 [spL s] (.tup [spL (loS s),spL (hiS s)]):=by
 obtain⟨a1,a2⟩:=hb;have hM:=c_SMid s J;have jA:=rl_add s.1 s.2;have kh:=rl_div (s.1+s.2) 2;have hh:rl 2=1:=ah;have em:(s.1+s.2)/2*2=s.1+s.2:=gz ae;have hmr:rl (mdS s)<=2*R+2:=by unfold mdS;omega
 have en:s.1<=mdS s:=by unfold mdS;grind
 have gI:mdS s<=s.2:=by unfold mdS;grind
 have hO1:=c_SOf s.1 (mdS s) J;have hO2:=c_SOf (mdS s) s.2 J;rw [show (mnR s.1 (mdS s),mxR s.1 (mdS s))=loS s from by unfold mnR mxR loS;rw [if_neg ay];split<;>(first | rfl | (congr 1;grind))] at hO1;rw [show (mnR (mdS s) s.2,mxR (mdS s) s.2)=hiS s from by unfold mnR mxR hiS;rw [if_neg ay];split<;>(first | rfl | (congr 1;grind))] at hO2;refine fnP Tryz.func144 (ht:=(tame2 (spE.pure _) (spE.pure _))) ?_;refine zg10 ?_;refine cp am1 (hM) ?_;refine zg5 ?_;refine wl_regD 8 ah ?_;refine zg3 ?_;refine cp am2 (hO1) ?_;refine zg3 ?_;refine cp am2 (hO2) ?_;refine zg5 ?_;exact zp
namespace H_c_SpsCopO
theorem zSm {p q:Prop} (k:q) (e:p=q:=by simp only [sNF,ar,au,aq,dJ,a9,kills_map spE,aA,bA,aQ,bc,aR,bh,aZ,aS,aN,aK,aO,reduceIte,if_true,if_false,aX,LV.kill,kills];exact rfl):p:=e.mpr k
end H_c_SpsCopO
open H_c_SpsCopO in
theorem c_SpsCopO (l:List (Rat × Rat)) (h0:0<l.length) (hl:l.length<=1000) (hb:∀ s∈l,bdS 1000000 s/\s.1<=s.2):CallOK aa 78 [.list 6 (l.map spL)] (.ref 1 6 0 l.length) [⟨6,l.map spL,true⟩]:=by
 refine fnO Tryz.func78 ?_;have dJ:True:=trivial;have a9:True:=trivial;refine zg19 ?_;refine wl_weak (Weak.own (t:=3) 19 6 rfl rfl) ?_;refine lp1 (fun(k:Nat) L=>(mS L [(19,⟨6,(l.take k).map spL,true⟩)] [(8,nI64 k),(7,nI64 l.length),(6,.list 6 (l.map spL)),(3,.ref 19 6 0 k)])) (fun k=>k<=l.length) (fun k=>l.length-k) 0 (az _) ?_;rintro k L1 hk;refine zg6 ?_;refine wl_if rfl ?_ ?_<;>intro pz h9
 ·have dk:k<l.length:=J;obtain⟨⟨dj,oG⟩,hs3⟩:=hb _ (memS dk);have dJ:=take_snocS dk;have a9:((l.take k).map spL).take k=(l.take k).map spL:=aH (by rw [aA,bZ];omega);have hSO:CallP aa 76 [ratL (l.getD k default).1,ratL (l.getD k default).2] (spL (l.getD k default)):=by
   have:=c_SOf (l.getD k default).1 (l.getD k default).2 J;have e1x:mnR (l.getD k default).1 (l.getD k default).2=(l.getD k default).1:=by unfold mnR;split<;>grind
   have e2x:mxR (l.getD k default).1 (l.getD k default).2=(l.getD k default).2:=by unfold mxR;split<;>grind
   rw [e1x,e2x] at this;exact this
  refine zg18 ?_;refine cp am2 (hSO) ?_;refine zg1 ?_;refine st_store rfl (.appX (d:=19) (news:=[spL (l.getD k default)]) rfl rfl rfl rfl al (.inl rfl) ae eT eT Z48s (by rw [spE.isAgg];exact T48) cs B48 (.inl ⟨18,0,_,rfl,by decide,rfl,rfl,by simp,rfl,by simp [pures,spE.pure]⟩) al al ae) ?_;refine zg4 ?_;refine wl_regW ((Weak.kill _ 5).trans (Weak.kill _ 18)) ?_;refine bq ?_;exact qi
 obtain rfl:k=l.length:=J;have hE:l.take l.length=l:=eZ;refine zg12 ?_;simp only [hE];exact ret1own rfl rfl (pures_map spE _)
theorem c_SpsCop (l:List (Rat × Rat)) (h0:0<l.length) (hl:l.length<=1000) (hb:∀ s∈l,bdS 1000000 s/\s.1<=s.2):CallP aa 78 [.list 6 (l.map spL)] (.list 6 (l.map spL)):=callP_own (c_SpsCopO l h0 hl hb) (pures_map spE _) aj
namespace H_c_half1
theorem zSm {p q:Prop} (k:q) (e:p=q:=by simp only [sNF,ar,au,aq,boxL,dfI0,Int.toNat_natCast,Nat.zero_add,ems,emt,kills_map spE,kills_map i64E,aA,aZ,aR,aN,aK,aO,reduceIte,if_true,if_false,aX,LV.kill,kills];exact rfl):p:=e.mpr k
end H_c_half1
open H_c_half1 in
theorem c_half1 (x:BoxT) (n D:Nat) (hn:x.1.length=n) (ht:x.2.2.length=n) (h0:0<n) (uq:n<=10) (hD:x.2.1<=D) (xq:D<=1000) (vE:∀ t∈x.2.2,0<=t/\t<=1000) (s:Rat × Rat):CallP aa 143 [spL s,.boxp (.agg [.list 6 (x.1.map spL),nI64 x.2.1,.list 1 (x.2.2.map i64L)]),.boxp (nI64 (atB x))] (boxL (hafB x s)):=by
 have hbx:LV.pure (.agg [.list 6 (x.1.map spL),nI64 x.2.1,.list 1 (x.2.2.map i64L)])=true:=boxL_pure x;have v5:=pures_map spE x.1;have hpT:=pures_map i64E x.2.2;have gB:atB x<n:=by
  have:=lstA_lt (t:=x.2.2) x.2.2.length (an _) J;unfold atB;omega
 have zO:=vE _ (show x.2.2.getD (atB x) 0∈x.2.2 by rw [ao,aB J];exact fY J);have ems:(x.1.map spL).set (atB x) (spL s)=(x.1.set (atB x) s).map spL:=ac3.symm;have emt:(x.2.2.map i64L).set (atB x) (i64L (x.2.2.getD (atB x) 0+1))=(x.2.2.set (atB x) (x.2.2.getD (atB x) 0+1)).map i64L:=ac3.symm;refine fnP Tryz.func143 (ht:=(fun g=>LV.ren_pure g _ (boxL_pure _))) ?_;have ems:True:=trivial;have emt:True:=trivial;refine zg7 ?_;refine wl_cut (fun L=>∃  (L1:St),(True)/\L=(mS L1 [(3,⟨6,[spL s],true⟩),(4,⟨3,[.agg [.v (.slice none 0 0),.v (.int .i64 0),.v (.slice none 0 0)]],true⟩),(5,⟨3,[.agg [.ref 6 6 0 x.1.length,nI64 (x.2.1+1),.ref 13 1 0 x.2.2.length]],true⟩),(6,⟨6,x.1.map spL,true⟩),(13,⟨1,x.2.2.map i64L,true⟩)] [(5,.eptr 5 3 0 0),(4,.eptr 4 3 0 0),(3,.eptr 3 6 0 0),(2,.boxp (nI64 (atB x))),(1,.boxp (.agg [.list 6 (x.1.map spL),nI64 x.2.1,.list 1 (x.2.2.map i64L)]))])) ?_ ?_
 ·refine wl_regA ?_;refine any_hoistC 1 rfl rfl ah (.pure faA) fmV fmA ?_;refine any_hoistC 2 rfl rfl ah (.pure (.ldbx rfl v5 rfl rfl)) fmV fmA ?_;refine any_hoistC 4 rfl rfl ah (.pure faA) fmV fmA ?_;refine any_hoistC 5 rfl rfl ah (.pure ldA) fmV fmA ?_;refine any_hoistC 6 rfl rfl ah (.pure (.bin rfl rfl (add1N J))) fmV fmA ?_;refine any_hoistC 8 rfl rfl ah (.pure faA) fmV fmA ?_;refine any_hoistC 9 rfl rfl ah (.pure (.ldbx rfl hpT rfl rfl)) fmV fmA ?_
  repeat' first
   | (refine any_0 ah ?_;refine zg1 ?_;exact⟨_,trivial,((put_id' (put_id' (put_id' (put_id' (put_id' (mk_id' ox) cl) cl) cl) cl) cl)).symm⟩)
   | refine any_3 0 7 12 _ _ _ ah rfl rfl rfl ?_ ?_ ?_
   | refine any_3 3 7 12 _ _ _ ah rfl rfl rfl ?_ ?_ ?_
   | refine any_2 7 12 _ _ ah rfl rfl ?_ ?_
   | refine any_2 10 12 _ _ ah rfl rfl ?_ ?_
   | refine any_2 11 12 _ _ ah rfl rfl ?_ ?_
   | refine any_1 12 _ ah rfl ?_
   | refine any_1 13 _ ah rfl ?_
   | refine any_1 11 _ ah rfl ?_
   | refine any_1 10 _ ah rfl ?_
   | refine any_1 7 _ ah rfl ?_
   | refine any_2 3 12 _ _ ah rfl rfl ?_ ?_
   | refine any_1 3 _ ah rfl ?_
   | refine any_2 3 7 _ _ ah rfl rfl ?_ ?_
   | refine any_2 0 12 _ _ ah rfl rfl ?_ ?_
   | refine any_1 0 _ ah rfl ?_
   | refine any_2 0 7 _ _ ah rfl rfl ?_ ?_
   | (refine st_store rfl (.appX (d:=6) (news:=x.1.map spL) rfl rfl rfl rfl aj (.inl rfl) ae eT eT Z48s (by rw [spE.isAgg];exact T48) cs B48 (.inr (.inl rfl)) al al ae) ?_;refine st_nil ?_)
   | (refine st_store rfl (.appX (d:=13) (news:=x.2.2.map i64L) rfl rfl rfl rfl aj (.inl rfl) ae vP vP (show ZeroOK _ _ (i64L 0) from Z3) T3 rfl B3 (.inr (.inl rfl)) al al ae) ?_;refine st_nil ?_)
   | (refine zg1 ?_;refine st_nil ?_)
   | fail
 rintro _ ⟨LR1,-,rfl⟩;refine zg18 ?_
 try refine zSm ?_
 refine st_pure rfl mo ?_;refine zg11 ?_;exact retC [6,13] rfl rfl rfl cs (at_all cs rfl) T146 (.agg (.cons (imm_refm (l:=x.1.set (atB x) s) spE rfl rfl aj) (.cons (.pure rfl) (.cons (imm_refm (l:=x.2.2.set (atB x) (x.2.2.getD (atB x) 0+1)) i64E rfl rfl aj) .nil))))
namespace H_c_Bhalves
theorem zSm {p q:Prop} (k:q) (e:p=q:=by simp only [sNF,ar,au,aq,ht,boxL,dfI0,Int.toNat_natCast,Nat.zero_add,els,fz0,frz_cA,aA,aN,aK,aO,reduceIte,if_true,if_false,aX,LV.kill,kills];exact rfl):p:=e.mpr k
end H_c_Bhalves
open H_c_Bhalves in
theorem c_Bhalves (x:BoxT) (n D:Nat) (hn:x.1.length=n) (ht:x.2.2.length=n) (h0:0<n) (uq:n<=10) (hD:x.2.1<=D) (xq:D<=1000) (vE:∀ t∈x.2.2,0<=t/\t<=1000) (R:Nat) (hR:R<=10000) (hs:∀ s∈x.1,bdS R s/\s.1<=s.2):CallP aa 80 [.agg [.list 6 (x.1.map spL),nI64 x.2.1,.list 1 (x.2.2.map i64L)]] (.tup [boxL (loB x),boxL (hiB x)]):=by
 have hbx:LV.pure (.agg [.list 6 (x.1.map spL),nI64 x.2.1,.list 1 (x.2.2.map i64L)])=true:=boxL_pure x;have v5:=pures_map spE x.1;have hpT:=pures_map i64E x.2.2;have gB:atB x<n:=by
  have:=lstA_lt (t:=x.2.2) x.2.2.length (an _) J;unfold atB;omega
 have zO:=vE _ (show x.2.2.getD (atB x) 0∈x.2.2 by rw [ao,aB J];exact fY J);have yx:=hs (x.1.getD (atB x) default) (by rw [ao,aB J];exact fY J);have hH:=c_SHalves (x.1.getD (atB x) default) R hR yx.1 yx.2;have bN:pures ([.boxp (.agg [.list 6 (x.1.map spL),nI64 x.2.1,.list 1 (x.2.2.map i64L)]),.boxp (nI64 (atB x))]:List LV)=true:=by simp [pures,LV.pure,pures_map spE,pures_map i64E]
 have hcs:∀ y∈([.boxp (.agg [.list 6 (x.1.map spL),nI64 x.2.1,.list 1 (x.2.2.map i64L)]),.boxp (nI64 (atB x))]:List LV),y.csize=1/\y.isAgg=false:=fun y hy=>by
  simp only [bp,List.not_mem_nil,or_false] at hy;rcases hy with e | e<;>rw [e]<;>exact⟨rfl,rfl⟩
 have hA:=c_half1 x n D hn ht h0 uq hD xq vE (loS (x.1.getD (atB x) default));have hB:=c_half1 x n D hn ht h0 uq hD xq vE (hiS (x.1.getD (atB x) default));refine fnP Tryz.func80 (ht:=(tame2 (boxL_pure _) (boxL_pure _))) ?_;have els:True:=trivial;refine zg23 ?_;refine lp1 (fun(i:Nat) L=>(mS L [(1,⟨3,[.agg [.list 6 (x.1.map spL),nI64 x.2.1,.list 1 (x.2.2.map i64L)]],true⟩),(2,⟨3,[.agg [.v (.slice none 0 0),.v (.int .i64 0),.v (.slice none 0 0)]],true⟩),(3,⟨3,[.agg [.v (.slice none 0 0),.v (.int .i64 0),.v (.slice none 0 0)]],true⟩),(4,⟨1,[nI64 (lstA x.2.2 i)],true⟩)] [(13,nI64 i),(12,nI64 n),(11,.list 1 (x.2.2.map i64L)),(4,.eptr 4 1 0 0),(3,.eptr 3 3 0 0),(2,.eptr 2 3 0 0),(1,.eptr 1 3 0 0)])) (fun i=>i<=n) (fun i=>n-i) 0 (az _) ?_;rintro i L1 hi;refine zg6 ?_;refine wl_if rfl ?_ ?_<;>intro jg gi
 ·have hi2:i<n:=J;have hli:=lstA_lt (t:=x.2.2) i J J;refine zg24 ?_;refine wl_if rfl ?_ ?_<;>intro nm oC
  ·have els:lstA x.2.2 (i+1)=i:=if_pos oC;refine zg7 ?_;refine bq ?_;exact cq
  have els:lstA x.2.2 (i+1)=lstA x.2.2 i:=if_neg oC;refine zg4 ?_;refine bq ?_;exact cq
 obtain rfl:n=i:=J;have hE9:lstA x.2.2 n=atB x:=by unfold atB;rw [ht]
 simp only [hE9];refine zg7 ?_;refine st_opc [1,4] rfl rfl (.mk (caps:=([.boxp (.agg [.list 6 (x.1.map spL),nI64 x.2.1,.list 1 (x.2.2.map i64L)]),.boxp (nI64 (atB x))]:List LV)) (.cons (.eptr rfl rfl rfl cs (at_all cs rfl) hbx rfl) (.cons (.eptr (n:=1) (ag:=false) rfl rfl rfl rfl rfl rfl rfl) .nil)) hcs) rfl ?_;refine zg10 ?_;refine cp am1 (hH) ?_;refine zg10 ?_;refine wl_regD 6 ah ?_;refine zg2 ?_;refine st_opc [] rfl rfl (.clo (f:=143) (cap:=([.boxp (.agg [.list 6 (x.1.map spL),nI64 x.2.1,.list 1 (x.2.2.map i64L)]),.boxp (nI64 (atB x))]:List LV)) (args:=[spL (loS (x.1.getD (atB x) default))]) rfl (.cons (.pure (spE.pure _)) .nil) ⟨bN,hcs⟩ hA.1 ae (fun _ h=>by cases h)) (hA.2 _) ?_;refine zg2 ?_;refine st_opc [] rfl rfl (.clo (f:=143) (cap:=([.boxp (.agg [.list 6 (x.1.map spL),nI64 x.2.1,.list 1 (x.2.2.map i64L)]),.boxp (nI64 (atB x))]:List LV)) (args:=[spL (hiS (x.1.getD (atB x) default))]) rfl (.cons (.pure (spE.pure _)) .nil) ⟨bN,hcs⟩ hB.1 ae (fun _ h=>by cases h)) (hB.2 _) ?_;refine zg5 ?_;exact retCC [] rfl rfl rfl cs (at_all cs rfl) T146 (.pure (boxL_pure _)) rfl rfl cs (at_all cs rfl) T146 (.pure (boxL_pure _))
end Go.Proofs.YtlipjipfpkbppaaGreat
end
