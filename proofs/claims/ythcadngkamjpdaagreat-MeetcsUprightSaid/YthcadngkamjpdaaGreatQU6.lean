/- Texts T1, T2, T3, T6, T7, T8, T9, T15, T16, Y2, Y3, Y0, Y4, Y5, Y6, Y11, Y7, Z4, Z5, Z7, Z8, LgX, LgC, LgD, LgF of this proof, joined. -/
import Derived.Test.YthcadngkamjpdaaGreatQU5
set_option linter.unusedVariables false
set_option linter.unusedSimpArgs false
open Array renaming ext'->wa,getD_eq_getD_getElem?->gH,getElem?_eq_some_iff->nC,replicate->rH
open Bool renaming and_eq_true->mR,not_eq_true'->zr,or_eq_true->qF
open Go.Proofs.Tryz renaming prog->ak,underlying123->aaI,underlying150->jv,underlying160->ox,underlying186->me,underlying218->acH,underlying26->dY,underlying27->qb,underlying62->kj
open Int renaming natCast_mul->ac8
open List renaming all_eq_true->py,append_nil->qo,contains_iff_mem->qW,drop_eq_getElem_cons->xd,drop_length->ad6,drop_succ_cons->wW,drop_zero->ks,ext_getElem->yf,flatten_cons->acO,getD_eq_getElem?_getD->bE,getElem?_cons_zero->sZ,getElem?_eq_getElem->bY,getElem?_eq_some_iff->oe,getElem?_map->gZ,getElem?_take->awW,length_append->jS,length_cons->l8,length_drop->ni,length_map->eD,length_set->aeM,length_take->fQ,map_cons->lI,map_id'->ars,mem_append->oO,mem_cons->ff,mem_map->ga,mem_of_getElem?->sQ,mem_range->wF,mem_replicate->uc,mem_singleton->fP,not_mem_nil->iq,range->fe,replicate->aV,take_add_one->v8,take_of_length_le->cE,take_succ_cons->rq,take_zero->uZ
open List.cons renaming injEq->gj
open Nat renaming add_assoc->oQ,add_comm->mH,add_sub_cancel->rO,add_zero->mg,div_add_mod->yG,div_lt_of_lt_mul->alp,le_mul_of_pos_left->pb,le_mul_of_pos_right->pY,le_of_lt_succ->ajS,le_refl->bF,le_trans->bb,mod_lt->jX,mul_comm->eH,mul_le_mul->jG,mul_le_mul_left->lr,mul_le_mul_right->eT,reduceAdd->wz,reduceBEq->uC,reduceMul->aba,sub_self->sM,succ_mul->iK,succ_pos->ic,zero_add->fg,zero_le->bS,zero_mul->sb
open Option.some renaming injEq->fv
open Rat renaming add_assoc->amn,add_zero->jC,le_refl->nI,mul_zero->aav
section
set_option linter.unusedVariables false
set_option linter.unusedSimpArgs false
set_option maxHeartbeats 8000000
set_option maxRecDepth 100000
attribute [local irreducible] Go.Lg.opsL Go.Lg.cU Go.Lg.oq Go.Lg.qK
namespace Go.Proofs.YthcadngkamjpdaaGreat
open Go.Lg
theorem az7 (u v:Int) (c:List Rat):LV.pure (.agg [iL u,iL v,.list 3 (c.map aa)])=true:=by simp [LV.pure,aK,aP an]
theorem dJ (u v:Nat) (c:List Rat):LV.pure (.agg [ae u,ae v,.list 3 (c.map aa)])=true:=az7 u v c
theorem ai3 {a b n:Nat} (h:a*b=n) (hn:n<=9223372036854775807):dM .mul .i64 (a:Nat) (b:Nat)=some (.int .i64 (n:Nat)):=by
 rw [afh (by rw [<-ac8,h];omega) (by rw [<-ac8,h];omega),<-ac8,h]
def gL (n:Nat) (W:Nat->Rat):List Rat:=(fe n).map W
theorem nG (n:Nat) (W:Nat->Rat):(gL n W).length=n:=by simp [gL]
theorem aiE (n:Nat) (W:Nat->Rat):gL (n+1) W=gL n W++[W n]:=by simp [gL,List.range_succ]
theorem akt {n:Nat} {W:Nat->Rat} {x:Nat} (h:x<n):(gL n W).getD x 0=W x:=by
 rw [bE,bY (by rw [nG];exact h)];simp [gL]
theorem amg (n:Nat) (W:Nat->Rat) (f:Rat->LV):((gL n W).map f).take n=(gL n W).map f:=by rw [cE (by simp [nG])]
theorem aaP {V i j:Nat} (h:j<=V):(i*(V+1)+j)/(V+1)=i:=by
 rw [mH,Nat.add_mul_div_right _ _ (ic V),Nat.div_eq_of_lt J,fg]
theorem aaA {V i j:Nat} (h:j<=V):(i*(V+1)+j) % (V+1)=j:=by
 rw [mH,Nat.add_mul_mod_self_right,Nat.mod_eq_of_lt J]
theorem v9 {U V i j:Nat} (hi:i<=U) (hj:j<=V):i*(V+1)+j<(U+1)*(V+1):=by
 have:=eT (V+1) (show i+1<=U+1 by omega)
 rw [iK] at this
 omega
theorem adi {n:Nat} (k:Nat) (hn:n<=40):rl (((eu n k:Nat):Int):Rat)<=2:=by
 rcases Nat.lt_or_ge n k with h | h
 ·rw [af9 h];decide
 ·have h1:=ye hn _ (eU (i:=k) (by rw [wu];omega))
  rw [akU h] at h1;exact h1
def wU (U V:Nat) (c:List Rat) (x:Nat):Rat:=((eu U (x/(V+1)):Nat):Int)*((eu V (x % (V+1)):Nat):Int)*c.getD x 0
def zo (U V:Nat) (c:List Rat) (x:Nat):Rat:=c.getD (x % (U+1)*(V+1)+x/(U+1)) 0
def ib (U V:Nat) (c:List Rat):List Rat:=gL ((U+1)*(V+1)) (wU U V c)
def gS (U V:Nat) (c:List Rat):List Rat:=gL ((V+1)*(U+1)) (zo U V c)
theorem auL {U V:Nat} {c:List Rat} {R:Nat} (hU:U<=40) (hV:V<=40) (hR:1<=R) (h:∀ x∈c,rl x<=R):∀ x∈ib U V c,rl x<=R+6:=by
 intro x hx
 obtain⟨i,_,rfl⟩:=ga.1 hx
 have h1:=adi (n:=U) (i/(V+1)) hU
 have h2:=adi (n:=V) (i % (V+1)) hV
 have h3:=gQ hR h i
 have h4:=cM (((eu U (i/(V+1)):Nat):Int):Rat) (((eu V (i % (V+1)):Nat):Int):Rat)
 have h5:=cM ((((eu U (i/(V+1)):Nat):Int):Rat)*(((eu V (i % (V+1)):Nat):Int):Rat)) (c.getD i 0)
 show rl (wU U V c i)<=_
 unfold wU
 omega
theorem aBC {W:Nat->Rat} {o:List Rat} {m:Nat} {v:Rat} (h:m<o.length) (hv:v=W m):(gL m W++o.drop m).set m v=gL (m+1) W++o.drop (m+1):=by
 subst hv
 rw [xd h,aqP _ _ _ _ (nG m W).symm,aiE,List.append_assoc];rfl
theorem aBN {W:Nat->Rat} {o:List Rat} {m:Nat}:(gL m W++o.drop m).getD m 0=o.getD m 0:=by
 rw [ahD _ _ _ (by rw [nG];exact bF _),nG,sM,ahU,mg]
section
variable (V1 V2 W U2:Nat) (x y:List Rat) (i j k:Nat)
def mL:Nat->List Rat->List Rat
 | 0,o=>o
 | l+1,o=>(mL l o).set ((i+k)*(W+1)+j+l) ((mL l o).getD ((i+k)*(W+1)+j+l) 0+x.getD (i*(V1+1)+j) 0*y.getD (k*(V2+1)+l) 0)
def mK:Nat->List Rat->List Rat
 | 0,o=>o
 | k+1,o=>mL V1 V2 W x y i j k (V2+1) (mK k o)
def mJ:Nat->List Rat->List Rat
 | 0,o=>o
 | j+1,o=>mK V1 V2 W x y i j (U2+1) (mJ j o)
def mI:Nat->List Rat->List Rat
 | 0,o=>o
 | i+1,o=>mJ V1 V2 W U2 x y i (V1+1) (mI i o)
end
def oz (U1 V1 U2 V2:Nat) (a b:List Rat):List Rat:=mI V1 V2 (V1+V2) U2 (ib U1 V1 a) (ib U2 V2 b) (U1+1) (aV ((U1+U2+1)*(V1+V2+1)) 0)
def yr (U V:Nat) (o:List Rat) (x:Nat):Rat:=o.getD x 0/((((eu U (x/(V+1)):Nat):Int):Rat)*(((eu V (x % (V+1)):Nat):Int):Rat))
def jW (U1 V1 U2 V2:Nat) (a b:List Rat):List Rat:=gL ((U1+U2+1)*(V1+V2+1)) (yr (U1+U2) (V1+V2) (oz U1 V1 U2 V2 a b))
namespace at1
theorem aw {p q:Prop} (k:q) (e:p=q:=by simp only [e1,e2,e3,e4,p1,p2,p3,q1,q2,q3,l1,t0,t1,r1,r2,r3,r4,Nat.zero_add,Nat.reduceMul,Nat.reduceAdd,b1,b2,b3,b4,b5,b6,i1,i2,i3,i4,i5,i6,Nat.reduceBEq,dfi,asO,List.append_nil,rr,ek1,ek2,qX,fo,eO,dW,List.length_cons,List.length_nil,aG lQ,aG an,LV.kill,bH];exact rfl):p:=e.mpr k
end at1
open at1 in
theorem ahl (n:Nat) (hn:n<=40):ax ak 284 [ae n] (.list 1 ((mT n).map eP)):=by
 refine aR Tryz.func284 (ht:=(fun g=>LV.cQ g _ (cd lQ _ _))) ?_
 have ek1:True:=trivial
 have ek2:True:=trivial
 have qX:True:=trivial
 refine nc ?_
 refine jm (az.mv (t:=3) (b:=5) 11 ai ai ai rfl rfl rfl) ?_
 refine dI (fun(k:Nat) L=>((((St.mk L.slot (hp [(11,⟨1,(mT k).map eP,true⟩)])).put (some 3) (.ref 11 1 0 (k+1))).put (some 6) (ae n)).put (some 7) (ae k))) (fun k=>k<=n) (fun k=>n-k) 0 (bS _) ?_
 rintro k L1 hk
 refine ay ?_
 refine aL rfl ?_ ?_<;>intro re h8
 ·have hkn:k<n:=by omega
  have ek2:((((k+1+1:Nat)):Int)-2)=(k:Int):=by omega
  refine bg ?_
  refine bO rfl (.app (news:=[eP 1]) rfl rfl rfl rfl rfl (by simp [rr]) (.inl rfl) ai aaI aaI Z2 T2 rfl B2 (.inl ⟨10,0,_,rfl,by decide,rfl,rfl,by simp,rfl,rfl⟩) bq bq ai) ?_
  refine aB ?_
  refine bR (az.kill _ 10) ?_
  refine bf ?_
  refine iv (fun(i:Nat) (o:List Int) L=>(((((St.mk L.slot (hp [(11,⟨1,o.map eP,true⟩)])).put (some 3) (.ref 11 1 0 (k+1+1))).put (some 4) (ae i)).put (some 6) (ae n)).put (some 7) (ae k))) (fun i o=>i<=k/\abD k i o) (fun i o=>i) k (mT k++[1]) ⟨bF _,at5 k⟩ ?_
  rintro i o L2 ⟨hi,hP⟩
  refine bf ?_
  refine aL rfl ?_ ?_<;>intro vT sa
  ·obtain⟨j,rfl⟩:∃ j,i=j+1:=⟨i-1,J⟩
   have ek1:(((j+1:Nat):Int)-1)=(j:Int):=by omega
   have dj:=hP.1
   have hb1:=ahN hP J (x:=j+1) J
   have hb2:=ahN hP J (x:=j) J
   refine aB ?_
   refine aY 11 al ?_
   refine sE ?_
   exact fO j (o.set (j+1) (o.getD (j+1) 0+o.getD j 0)) ⟨J,awM hP hi⟩
  ·obtain rfl:i=0:=by omega
   have hE:=aoM hP
   subst hE
   refine bC ?_
   exact yb
 ·obtain rfl:n=k:=by omega
  refine bw ?_
  exact lW [11] rfl rfl (dH lQ rfl rfl (by rw [rr]))
open H0 in
theorem aiQ (U V:Nat) (c:List Rat) (hc:c.length=(U+1)*(V+1)) (hl:c.length<=1048576):ax ak 270 [.agg [ae U,ae V,.list 3 (c.map aa)]] (bL true):=by
 have hU:U+1<=c.length:=by rw [hc];exact pY _ (ic V)
 have hV:V+1<=c.length:=by rw [hc];exact pb _ (ic U)
 have tI:=dJ U V c
 refine aR Tryz.func270 ?_
 refine bw ?_
 refine ah (aM (v:=true) rfl rfl ((decide_eq_true J)) rfl) gr ?_
 refine ah (aM (v:=true) rfl rfl ((decide_eq_true J)) rfl) dE ?_
 refine ah (aM (v:=true) rfl rfl ((decide_eq_true J)) rfl) (.bin rfl rfl rfl) ?_
 refine ah rfl (.gU rfl ((decide_eq_true J))) ?_
 refine ao ?_
 refine ah (aM (v:=true) rfl rfl ((decide_eq_true J)) rfl) gr ?_
 refine ah (aM (v:=true) rfl rfl ((decide_eq_true J)) rfl) dE ?_
 refine ah (aM (v:=true) rfl rfl ((decide_eq_true J)) rfl) gr ?_
 refine ah (aM (v:=true) rfl rfl ((decide_eq_true J)) rfl) dE ?_
 refine ah (aM (v:=true) rfl rfl ((decide_eq_true J)) rfl) pM ?_
 refine ah (aM (v:=true) rfl rfl ((decide_eq_true J)) rfl) (.bin rfl rfl rfl) ?_
 refine ah rfl (.gU rfl ((decide_eq_true J))) ?_
 refine ao ?_
 refine ah (aM (v:=true) rfl rfl ((decide_eq_true J)) rfl) gr ?_
 refine ah (aM (v:=true) rfl rfl ((decide_eq_true J)) rfl) dE ?_
 refine ah (aM (v:=true) rfl rfl ((decide_eq_true J)) rfl) gr ?_
 refine ah (aM (v:=true) rfl rfl ((decide_eq_true J)) rfl) dE ?_
 refine ah (aM (v:=true) rfl rfl ((decide_eq_true J)) rfl) pM ?_
 refine ah (aM (v:=true) rfl rfl ((decide_eq_true J)) rfl) (.bin rfl rfl rfl) ?_
 refine ah rfl (.gU rfl ((decide_eq_true J))) ?_
 refine ao ?_
 refine ah (aM (v:=true) rfl rfl ((decide_eq_true J)) rfl) gr ?_
 refine ah (aM (v:=true) rfl rfl ((decide_eq_true J)) rfl) dE ?_
 refine ah (aM (v:=true) rfl rfl ((decide_eq_true J)) rfl) pM ?_
 refine ah (aM (v:=true) rfl rfl ((decide_eq_true J)) rfl) gr ?_
 refine ah (aM (v:=true) rfl rfl ((decide_eq_true J)) rfl) dE ?_
 refine ah (aM (v:=true) rfl rfl ((decide_eq_true J)) rfl) (.bin rfl rfl (acd J)) ?_
 refine ah (aM (v:=true) rfl rfl ((decide_eq_true J)) rfl) gr ?_
 refine ah (aM (v:=true) rfl rfl ((decide_eq_true J)) rfl) dE ?_
 refine ah (aM (v:=true) rfl rfl ((decide_eq_true J)) rfl) (.bin rfl rfl (acd J)) ?_
 refine ah (aM (v:=true) rfl rfl ((decide_eq_true J)) rfl) (.bin rfl rfl (ai3 hc.symm J)) ?_
 refine ah (aM (v:=true) rfl rfl ((decide_eq_true J)) rfl) (.bin rfl rfl rfl) ?_
 refine ah rfl (.gU rfl ((decide_eq_true J))) ?_
 refine aB ?_
 refine dO (x:=.v (.bool (((c.length:Nat):Int)==((c.length:Nat):Int)))) rfl ?_
 rw [beq_self_eq_true]
 exact .pure rfl
namespace awF
theorem aw {p q:Prop} (k:q) (e:p=q:=by simp only [e1,e2,e3,e4,p1,p2,p3,q1,q2,q3,l1,t0,t1,r1,r2,r3,r4,Nat.zero_add,Nat.reduceMul,Nat.reduceAdd,b1,b2,b3,b4,b5,b6,i1,i2,i3,i4,i5,i6,Nat.reduceBEq,cn,dfi,rr,egu,egv,ewn,Nat.add_zero,amg,fo,eO,dW,List.length_cons,List.length_nil,aG lQ,aG an,cA,cC,LV.kill,bH];exact rfl):p:=e.mpr k
end awF
open awF in
theorem ase (U V:Nat) (c:List Rat) (hc:c.length=(U+1)*(V+1)) (hl:c.length<=1048576) (hU4:U<=40) (hV4:V<=40) (R:Nat) (fa:1<=R) (hR:R<=1073741824) (ke:∀ x∈c,rl x<=R):ax ak 283 [.agg [ae U,ae V,.list 3 (c.map aa)]] (.list 3 ((ib U V c).map aa)):=by
 have hU:U+1<=c.length:=by rw [hc];exact pY _ (ic V)
 have hV:V+1<=c.length:=by rw [hc];exact pb _ (ic U)
 have tI:=dJ U V c
 refine aR Tryz.func283 ?_
 have egu:True:=trivial
 have egv:True:=trivial
 have ewn:True:=trivial
 refine eQ ?_
 refine cp aO (ahl V hV4) ?_
 refine bg ?_
 refine cp aO (ahl U hU4) ?_
 refine a7 ?_
 refine jm (az.own (t:=3) 47 3 rfl rfl) ?_
 refine iv (fun(i m:Nat) L=>(((((((St.mk L.slot (hp [(1,⟨3,[.agg [ae U,ae V,.list 3 (c.map aa)]],true⟩),(47,⟨3,(gL m (wU U V c)).map aa,true⟩)])).put (some 1) (.aF 1 3 0 0)).put (some 4) (.list 1 ((mT V).map eP))).put (some 14) (.list 1 ((mT U).map eP))).put (some 15) (ae (U+1))).put (some 16) (ae i)).put (some 3) (.ref 47 3 0 m))) (fun i m=>i<=U+1/\i*(V+1)=m) (fun i m=>U+1-i) 0 0 ⟨bS _,sb _⟩ ?_
 rintro i m L1 ⟨hi,hm⟩
 refine ay ?_
 refine aL rfl ?_ ?_<;>intro acD h17
 ·have dq:i<=U:=by omega
  have egu:=ab1 dq
  have hcu:=z9 i hU4
  refine sE ?_
  refine dI (fun(j:Nat) L=>((((((((((((St.mk L.slot (hp [(1,⟨3,[.agg [ae U,ae V,.list 3 (c.map aa)]],true⟩),(47,⟨3,(gL (m+j) (wU U V c)).map aa,true⟩)])).put (some 1) (.aF 1 3 0 0)).put (some 4) (.list 1 ((mT V).map eP))).put (some 14) (.list 1 ((mT U).map eP))).put (some 15) (ae (U+1))).put (some 16) (ae i)).put (some 3) (.ref 47 3 0 (m+j))).put (some 5) (ae i)).put (some 6) (ae (eu U i))).put (some 21) (.list 1 ((mT V).map eP))).put (some 22) (ae (V+1))).put (some 23) (ae j))) (fun j=>j<=V+1) (fun j=>V+1-j) 0 (bS _) ?_
  rintro j L2 hj
  refine ay ?_
  refine aL rfl ?_ ?_<;>intro rG vz
  ·have dL:j<=V:=by omega
   have egv:=ab1 dL
   have tB:=z9 j hV4
   have qA:=v9 dq dL
   rw [hm,<-hc] at qA
   have hgl:=nG (m+j) (wU U V c)
   have ewn:gL (m+(j+1)) (wU U V c)=gL (m+j) (wU U V c)++[(((eu U i:Nat):Int):Rat)*(((eu V j:Nat):Int):Rat)*c.getD (m+j) 0]:=by rw [<-oQ,aiE,wU,<-hm,aaP dL,aaA dL]
   have gk:=adi i hU4
   have mW:=adi j hV4
   have x7:=gQ fa ke (m+j)
   have hr4:=cM (((eu U i:Nat):Int):Rat) (((eu V j:Nat):Int):Rat)
   refine dk ?_
   refine aY 19 al ?_
   refine aH ?_
   refine cp aO (rZ ((eu U i:Nat):Int) J J) ?_
   refine ao ?_
   refine cp aO (rZ ((eu V j:Nat):Int) J J) ?_
   refine cp au (ef (((eu U i:Nat):Int):Rat) (((eu V j:Nat):Int):Rat) J) ?_
   refine a7 ?_
   refine ah rfl cu ?_
   refine ah rfl (.bin rfl rfl (ai3 hm J)) ?_
   refine ao ?_
   refine ah rfl sj ?_
   refine aH ?_
   refine cp au (ef ((((eu U i:Nat):Int):Rat)*(((eu V j:Nat):Int):Rat)) (c.getD (m+j) 0) J) ?_
   refine ao ?_
   refine bO rfl (.app (news:=[aa ((((eu U i:Nat):Int):Rat)*(((eu V j:Nat):Int):Rat)*c.getD (m+j) 0)]) rfl rfl rfl rfl rfl (by simp [nG]) (.inl rfl) ai dY dY kT dC rfl kX (.inl ⟨46,0,_,rfl,by decide,rfl,rfl,by simp,rfl,by simp [aK,an.pure]⟩) bq bq ai) ?_
   refine aB ?_
   refine bR (az.kill _ 46) ?_
   refine aB ?_
   exact qp
  ·obtain rfl:j=V+1:=by omega
   refine bC ?_
   exact fO (i+1) (m+(V+1)) ⟨J,by rw [iK];omega⟩
 ·obtain rfl:i=U+1:=by omega
  have hE:gL m (wU U V c)=ib U V c:=by rw [<-hm];rfl
  refine bw ?_
  rw [<-hE]
  exact lW [47] rfl rfl (dH an rfl rfl (by rw [nG]))
namespace avW
theorem aw {p q:Prop} (k:q) (e:p=q:=by simp only [e1,e2,e3,e4,p1,p2,p3,q1,q2,q3,l1,t0,t1,r1,r2,r3,r4,Nat.zero_add,Nat.reduceMul,Nat.reduceAdd,b1,b2,b3,b4,b5,b6,i1,i2,i3,i4,i5,i6,Nat.reduceBEq,cn,tb,Rat.add_zero,Nat.add_zero,amg,fo,eO,dW,List.length_cons,List.length_nil,aG lQ,aG an,cA,cC,LV.kill,bH];exact rfl):p:=e.mpr k
end avW
open avW in
theorem anA (U V:Nat) (c:List Rat) (hc:c.length=(U+1)*(V+1)) (hl:c.length<=1048576) (ke:∀ x∈c,rl x<=274877906944):ax ak 269 [.agg [ae U,ae V,.list 3 (c.map aa)]] (.agg [ae V,ae U,.list 3 ((gS U V c).map aa)]):=by
 have hU:U+1<=c.length:=by rw [hc];exact pY _ (ic V)
 have hV:V+1<=c.length:=by rw [hc];exact pb _ (ic U)
 have tI:=dJ U V c
 refine aR Tryz.func269 (ht:=(fun g=>LV.cQ g _ (dJ _ _ _))) ?_
 have tb:True:=trivial
 refine sE ?_
 refine cp aO (aiQ U V c hc hl) ?_
 refine bC ?_
 refine ah rfl cu ?_
 refine aB ?_
 refine jm ((az.cell 3 rfl (fun Z μ w cs h=>vU 43 3 _ _ Z μ w cs h)).trans (az.ov _ 43 3 rfl)) ?_
 refine iv (fun(j m:Nat) L=>((((((St.mk L.slot (hp [(1,⟨3,[.agg [ae U,ae V,.list 3 (c.map aa)]],true⟩),(2,⟨3,[.agg [.v (.int .i64 0),.v (.int .i64 0),.v (.slice none 0 0)]],true⟩),(3,⟨3,[.agg [ae V,ae U,.ref 43 3 0 m]],true⟩),(43,⟨3,(gL m (zo U V c)).map aa,true⟩)])).put (some 1) (.aF 1 3 0 0)).put (some 2) (.aF 2 3 0 0)).put (some 3) (.aF 3 3 0 0)).put (some 17) (ae (V+1))).put (some 18) (ae j))) (fun j m=>j<=V+1/\j*(U+1)=m) (fun j m=>V+1-j) 0 0 ⟨bS _,sb _⟩ ?_
 rintro j m L1 ⟨hj,hm⟩
 refine ay ?_
 refine aL rfl ?_ ?_<;>intro agy h19
 ·have dL:j<=V:=by omega
  refine df ?_
  refine ah rfl cu ?_
  refine aB ?_
  refine dI (fun(i:Nat) L=>(((((((((St.mk L.slot (hp [(1,⟨3,[.agg [ae U,ae V,.list 3 (c.map aa)]],true⟩),(2,⟨3,[.agg [.v (.int .i64 0),.v (.int .i64 0),.v (.slice none 0 0)]],true⟩),(3,⟨3,[.agg [ae V,ae U,.ref 43 3 0 (m+i)]],true⟩),(43,⟨3,(gL (m+i) (zo U V c)).map aa,true⟩)])).put (some 1) (.aF 1 3 0 0)).put (some 2) (.aF 2 3 0 0)).put (some 3) (.aF 3 3 0 0)).put (some 17) (ae (V+1))).put (some 18) (ae j)).put (some 4) (ae j)).put (some 23) (ae (U+1))).put (some 24) (ae i))) (fun i=>i<=U+1) (fun i=>U+1-i) 0 (bS _) ?_
  rintro i L2 hi
  refine ay ?_
  refine aL rfl ?_ ?_<;>intro afB yD
  ·have dq:i<=U:=by omega
   have wk:=v9 (U:=V) (V:=U) dL dq
   rw [hm,eH,<-hc] at wk
   have qA:=v9 dq dL
   rw [<-hc] at qA
   have hgl:=nG (m+i) (zo U V c)
   have tb:gL (m+(i+1)) (zo U V c)=gL (m+i) (zo U V c)++[c.getD (i*(V+1)+j) 0]:=by rw [<-oQ,aiE,zo,<-hm,aaP dq,aaA dq]
   have gk:=ke _ (eU (i:=i*(V+1)+j) qA)
   refine bh ?_
   refine aY 16 al ?_
   refine bf ?_
   refine ah rfl cu ?_
   refine ah rfl abC ?_
   refine ao ?_
   refine ah rfl sj ?_
   refine aH ?_
   refine ah rfl rE ?_
   refine cp au (fA (c.getD (i*(V+1)+j) 0) 0 (by rw [show rl 0=1 from rfl];omega)) ?_
   refine ao ?_
   refine bO rfl (.app (news:=[aa (c.getD (i*(V+1)+j) 0+0)]) rfl rfl rfl rfl rfl (by simp [nG]) (.inl rfl) ai dY dY kT dC rfl kX (.inl ⟨42,0,_,rfl,by decide,rfl,rfl,by simp,rfl,by simp [aK,an.pure]⟩) bq bq ai) ?_
   refine a7 ?_
   refine bR (az.kill _ 42) ?_
   refine aB ?_
   exact lK
  ·obtain rfl:i=U+1:=by omega
   refine bC ?_
   exact fO (j+1) (m+(U+1)) ⟨J,by rw [iK];omega⟩
 ·obtain rfl:j=V+1:=by omega
  have hE:gL m (zo U V c)=gS U V c:=by rw [<-hm];rfl
  refine bw ?_
  rw [<-hE]
  exact fi [43] rfl rfl rfl rfl rfl adk (.agg (.cons (.pure rfl) (.cons (.pure rfl) (.cons (dH an rfl rfl (by rw [nG])) .nil))))
theorem aJ7 (W:Nat->Rat):gL 0 W=[]:=rfl
namespace awc
theorem aw {p q:Prop} (k:q) (e:p=q:=by simp only [e1,e2,e3,e4,p1,p2,p3,q1,q2,q3,l1,t0,t1,r1,r2,r3,r4,Nat.zero_add,Nat.reduceMul,Nat.reduceAdd,b1,b2,b3,b4,b5,b6,i1,i2,i3,i4,i5,i6,Nat.reduceBEq,vo,cn,dfi,rr,egu,egv,Nat.add_zero,egd,esd,List.length_set,aG lQ,aG an,cA,cC,LV.kill,bH];exact rfl):p:=e.mpr k
theorem rF {p q:Prop} (k:q) (e:p=q:=by simp only [e1,e2,e3,e4,p1,p2,p3,q1,q2,q3,l1,t0,t1,r1,r2,r3,r4,Nat.zero_add,Nat.reduceMul,Nat.reduceAdd,b1,b2,b3,b4,b5,b6,i1,i2,i3,i4,i5,i6,Nat.reduceBEq,vo,cn,dfi,rr,egu,egv,Nat.add_zero,egd,esd,List.length_set,aG lQ,aG an,cA,cC,LV.kill,bH,aJ7,List.nil_append,List.drop_zero];exact rfl):p:=e.mpr k
theorem pt {p:Prop} (h:p:=by first | rfl | (refine rF ?_;first | exact trivial | rfl | (congr 3<;>omega) | (congr 2<;>omega))):p:=h
end awc
open awc in
theorem aIS (U1 V1 U2 V2:Nat) (a b:List Rat) (ha:a.length=(U1+1)*(V1+1)) (hb:b.length=(U2+1)*(V2+1)) (wM:a.length<=1048576) (oN:b.length<=1048576) (hu:U1+U2<=40) (hv:V1+V2<=40) (R:Nat) (fa:1<=R) (hR:R<=1000000) (hK:(U1+1)*((V1+1)*((U2+1)*((V2+1)*(2*R+14))))<=10000000000) (haR:∀ x∈a,rl x<=R) (x8:∀ x∈b,rl x<=R):ax ak 268 [.agg [ae U1,ae V1,.list 3 (a.map aa)],.agg [ae U2,ae V2,.list 3 (b.map aa)]] (.a9 [.agg [ae (U1+U2),ae (V1+V2),.list 3 ((jW U1 V1 U2 V2 a b).map aa)],iL 0]):=by
 have hA1:U1+1<=a.length:=by rw [ha];exact pY _ (ic V1)
 have hA2:V1+1<=a.length:=by rw [ha];exact pb _ (ic U1)
 have hB1:U2+1<=b.length:=by rw [hb];exact pY _ (ic V2)
 have hB2:V2+1<=b.length:=by rw [hb];exact pb _ (ic U2)
 have aK2:=dJ U1 V1 a
 have aiH:=dJ U2 V2 b
 have hT:((U1+U2+1)*(V1+V2+1))<=1681:=bb (jG (show U1+U2+1<=41 by omega) (show V1+V2+1<=41 by omega)) ai
 have hwa:=auL (U:=U1) (V:=V1) (c:=a) J J fa haR
 have hwb:=auL (U:=U2) (V:=V2) (c:=b) J J fa x8
 have aKW:(ib U1 V1 a).length=a.length:=by rw [ib,nG,ha]
 have aL1:(ib U2 V2 b).length=b.length:=by rw [ib,nG,hb]
 obtain⟨z1,qG⟩:∃ z1,(V2+1)*(2*R+14)=z1:=⟨_,rfl⟩
 obtain⟨z2,r7⟩:∃ z2,(U2+1)*z1=z2:=⟨_,rfl⟩
 obtain⟨z3,hz3⟩:∃ z3,(V1+1)*z2=z3:=⟨_,rfl⟩
 have tO:z1<=z2:=by rw [<-r7];exact pb _ (ic _)
 have hq2:z2<=z3:=by rw [<-hz3];exact pb _ (ic _)
 have hq3:z3<=(U1+1)*z3:=pb _ (ic _)
 have hq5:(U1+1)*z3<=10000000000:=by rw [<-hz3,<-r7,<-qG];exact hK
 refine aR Tryz.func268 (ht:=(iF (dJ _ _ _) rfl)) ?_
 have egu:True:=trivial
 have egv:True:=trivial
 have egd:True:=trivial
 have esd:True:=trivial
 refine df ?_
 refine ah rfl sj ?_
 refine aB ?_
 refine ah rfl sj ?_
 refine bw ?_
 refine ah (aM (v:=false) rfl rfl ((decide_eq_false J)) rfl) gr ?_
 refine ah (aM (v:=false) rfl rfl ((decide_eq_false J)) rfl) dE ?_
 refine ah (aM (v:=false) rfl rfl ((decide_eq_false J)) rfl) (.bin rfl rfl rfl) ?_
 refine ah rfl (.m9 rfl ((decide_eq_false J))) ?_
 refine aH ?_
 refine dp (b:=_) rfl (decide_eq_false J) ?_
 refine ay ?_
 refine cp aO (aiQ U1 V1 a ha wM) ?_
 refine aQ ?_
 refine cp aO (aiQ U2 V2 b hb oN) ?_
 refine bC ?_
 refine ah rfl cu ?_
 refine aH ?_
 refine ah rfl cu ?_
 refine ah rfl abC ?_
 refine dF rfl rfl (.lf (n:=((U1+U2+1)*(V1+V2+1))) (m:=((U1+U2+1)*(V1+V2+1))) ml ml om om om) ?_
 refine a7 ?_
 refine aY 6 al ?_
 refine ao ?_
 refine cp aO (ase U1 V1 a ha wM J J R fa J haR) ?_
 refine ao ?_
 refine cp aO (ase U2 V2 b hb oN J J R fa J x8) ?_
 refine bB ?_
 refine ah rfl cu ?_
 refine aB ?_
 refine iv (fun(i:Nat) (oI:List Rat) L=>(((((((((St.mk L.slot (hp [(2,⟨3,[.agg [ae U1,ae V1,.list 3 (a.map aa)]],true⟩),(3,⟨3,[.agg [ae U2,ae V2,.list 3 (b.map aa)]],true⟩),(4,⟨3,[.agg [.v (.int .i64 0),.v (.int .i64 0),.v (.slice none 0 0)]],true⟩),(6,⟨3,[.agg [ae (U1+U2),ae (V1+V2),.ref 55 3 0 ((U1+U2+1)*(V1+V2+1))]],true⟩),(55,⟨3,oI.map aa,true⟩)])).put (some 2) (.aF 2 3 0 0)).put (some 3) (.aF 3 3 0 0)).put (some 4) (.aF 4 3 0 0)).put (some 6) (.aF 6 3 0 0)).put (some 7) (.list 3 ((ib U1 V1 a).map aa))).put (some 8) (.list 3 ((ib U2 V2 b).map aa))).put (some 63) (ae (U1+1))).put (some 64) (ae i))) (fun i oI=>i<=U1+1/\oI=mI V1 V2 (V1+V2) U2 (ib U1 V1 a) (ib U2 V2 b) i (aV ((U1+U2+1)*(V1+V2+1)) 0)/\oI.length=((U1+U2+1)*(V1+V2+1))/\∀ x∈oI,rl x<=1+i*z3) (fun i oI=>U1+1-i) 0 (aV ((U1+U2+1)*(V1+V2+1)) 0) ⟨bS _,rfl,by simp,fun x hx=>by rw [(uc.1 hx).2];exact Nat.le_add_right 1 _⟩ ?_
 rintro i oI L1 ⟨hi,hoI,hlI,hrI⟩
 refine ay ?_
 refine aL rfl ?_ ?_<;>intro akY h65
 ·have dq:i<=U1:=by omega
  have hi3:i*z3+z3<=(U1+1)*z3:=by rw [<-iK];exact eT _ J
  refine df ?_
  refine ah rfl cu ?_
  refine aB ?_
  refine iv (fun(j:Nat) (oJ:List Rat) L=>((((((((((((St.mk L.slot (hp [(2,⟨3,[.agg [ae U1,ae V1,.list 3 (a.map aa)]],true⟩),(3,⟨3,[.agg [ae U2,ae V2,.list 3 (b.map aa)]],true⟩),(4,⟨3,[.agg [.v (.int .i64 0),.v (.int .i64 0),.v (.slice none 0 0)]],true⟩),(6,⟨3,[.agg [ae (U1+U2),ae (V1+V2),.ref 55 3 0 ((U1+U2+1)*(V1+V2+1))]],true⟩),(55,⟨3,oJ.map aa,true⟩)])).put (some 2) (.aF 2 3 0 0)).put (some 3) (.aF 3 3 0 0)).put (some 4) (.aF 4 3 0 0)).put (some 6) (.aF 6 3 0 0)).put (some 7) (.list 3 ((ib U1 V1 a).map aa))).put (some 8) (.list 3 ((ib U2 V2 b).map aa))).put (some 63) (ae (U1+1))).put (some 64) (ae i)).put (some 9) (ae i)).put (some 69) (ae (V1+1))).put (some 70) (ae j))) (fun j oJ=>j<=V1+1/\oJ=mJ V1 V2 (V1+V2) U2 (ib U1 V1 a) (ib U2 V2 b) i j oI/\oJ.length=((U1+U2+1)*(V1+V2+1))/\∀ x∈oJ,rl x<=1+i*z3+j*z2) (fun j oJ=>V1+1-j) 0 oI ⟨bS _,rfl,hlI,fun x hx=>by rw [sb];exact hrI x hx⟩ ?_
  rintro j oJ L2 ⟨hj,hoJ,hlJ,hrJ⟩
  refine ay ?_
  refine aL rfl ?_ ?_<;>intro aj2 h71
  ·have dL:j<=V1:=by omega
   have hj3:j*z2+z2<=z3:=by rw [<-iK,<-hz3];exact eT _ J
   refine df ?_
   refine ah rfl cu ?_
   refine aB ?_
   refine iv (fun(k:Nat) (oK:List Rat) L=>(((((((((((((((St.mk L.slot (hp [(2,⟨3,[.agg [ae U1,ae V1,.list 3 (a.map aa)]],true⟩),(3,⟨3,[.agg [ae U2,ae V2,.list 3 (b.map aa)]],true⟩),(4,⟨3,[.agg [.v (.int .i64 0),.v (.int .i64 0),.v (.slice none 0 0)]],true⟩),(6,⟨3,[.agg [ae (U1+U2),ae (V1+V2),.ref 55 3 0 ((U1+U2+1)*(V1+V2+1))]],true⟩),(55,⟨3,oK.map aa,true⟩)])).put (some 2) (.aF 2 3 0 0)).put (some 3) (.aF 3 3 0 0)).put (some 4) (.aF 4 3 0 0)).put (some 6) (.aF 6 3 0 0)).put (some 7) (.list 3 ((ib U1 V1 a).map aa))).put (some 8) (.list 3 ((ib U2 V2 b).map aa))).put (some 63) (ae (U1+1))).put (some 64) (ae i)).put (some 9) (ae i)).put (some 69) (ae (V1+1))).put (some 70) (ae j)).put (some 10) (ae j)).put (some 75) (ae (U2+1))).put (some 76) (ae k))) (fun k oK=>k<=U2+1/\oK=mK V1 V2 (V1+V2) (ib U1 V1 a) (ib U2 V2 b) i j k oJ/\oK.length=((U1+U2+1)*(V1+V2+1))/\∀ x∈oK,rl x<=1+i*z3+j*z2+k*z1) (fun k oK=>U2+1-k) 0 oJ ⟨bS _,rfl,hlJ,fun x hx=>by rw [sb];exact hrJ x hx⟩ ?_
   rintro k oK L3 ⟨hk,hoK,vA,hrK⟩
   refine ay ?_
   refine aL rfl ?_ ?_<;>intro amK h77
   ·have lS:k<=U2:=by omega
    have yR:k*z1+z1<=z2:=by rw [<-iK,<-r7];exact eT _ J
    refine df ?_
    refine ah rfl cu ?_
    refine aB ?_
    refine iv (fun(l:Nat) (o:List Rat) L=>((((((((((((((((((St.mk L.slot (hp [(2,⟨3,[.agg [ae U1,ae V1,.list 3 (a.map aa)]],true⟩),(3,⟨3,[.agg [ae U2,ae V2,.list 3 (b.map aa)]],true⟩),(4,⟨3,[.agg [.v (.int .i64 0),.v (.int .i64 0),.v (.slice none 0 0)]],true⟩),(6,⟨3,[.agg [ae (U1+U2),ae (V1+V2),.ref 55 3 0 ((U1+U2+1)*(V1+V2+1))]],true⟩),(55,⟨3,o.map aa,true⟩)])).put (some 2) (.aF 2 3 0 0)).put (some 3) (.aF 3 3 0 0)).put (some 4) (.aF 4 3 0 0)).put (some 6) (.aF 6 3 0 0)).put (some 7) (.list 3 ((ib U1 V1 a).map aa))).put (some 8) (.list 3 ((ib U2 V2 b).map aa))).put (some 63) (ae (U1+1))).put (some 64) (ae i)).put (some 9) (ae i)).put (some 69) (ae (V1+1))).put (some 70) (ae j)).put (some 10) (ae j)).put (some 75) (ae (U2+1))).put (some 76) (ae k)).put (some 11) (ae k)).put (some 81) (ae (V2+1))).put (some 82) (ae l))) (fun l o=>l<=V2+1/\o=mL V1 V2 (V1+V2) (ib U1 V1 a) (ib U2 V2 b) i j k l oK/\o.length=((U1+U2+1)*(V1+V2+1))/\∀ x∈o,rl x<=1+i*z3+j*z2+k*z1+l*(2*R+14)) (fun l o=>V2+1-l) 0 oK ⟨bS _,rfl,vA,fun x hx=>by rw [sb];exact hrK x hx⟩ ?_
    rintro l o L4 ⟨hl,ho,hlL,hrL⟩
    refine ay ?_
    refine aL rfl ?_ ?_<;>intro aKR h83
    ·have nN:l<=V2:=by omega
     have td:l*(2*R+14)+(2*R+14)<=z1:=by rw [<-iK,<-qG];exact eT _ J
     have ji:=v9 (U:=U1+U2) (V:=V1+V2) (i:=i+k) (j:=j+l) J J
     have qa:=v9 dq dL
     have hx3:=v9 lS nN
     rw [<-ha] at qa
     rw [<-hb] at hx3
     have gk:=gQ (S:=R+6) J hwa (i*(V1+1)+j)
     have mW:=gQ (S:=R+6) J hwb (k*(V2+1)+l)
     have x7:=gQ J hrL ((i+k)*(V1+V2+1)+j+l)
     have hr4:=cM ((ib U1 V1 a).getD (i*(V1+1)+j) 0) ((ib U2 V2 b).getD (k*(V2+1)+l) 0)
     have hr5:=nZ (o.getD ((i+k)*(V1+V2+1)+j+l) 0) ((ib U1 V1 a).getD (i*(V1+1)+j) 0*(ib U2 V2 b).getD (k*(V2+1)+l) 0)
     refine df ?_
     refine ah rfl sj ?_
     refine aH ?_
     refine ah rfl cu ?_
     refine ah rfl abC ?_
     refine ao ?_
     refine ah rfl sj ?_
     refine ao ?_
     refine ah rfl sj ?_
     refine aQ ?_
     refine aY 31 al ?_
     refine bg ?_
     try simp only [t1,cn,fg]
     refine aB ?_
     refine ah rfl cu ?_
     refine ah rfl abC ?_
     refine ao ?_
     refine ah rfl sj ?_
     refine ay ?_
     refine ah rfl cu ?_
     refine ah rfl abC ?_
     refine ao ?_
     refine ah rfl sj ?_
     refine aH ?_
     refine cp au (ef ((ib U1 V1 a).getD (i*(V1+1)+j) 0) ((ib U2 V2 b).getD (k*(V2+1)+l) 0) J) ?_
     refine cp au (fA (o.getD ((i+k)*(V1+V2+1)+j+l) 0) ((ib U1 V1 a).getD (i*(V1+1)+j) 0*(ib U2 V2 b).getD (k*(V2+1)+l) 0) J) ?_
     refine bh ?_
     exact fO (l+1) (o.set ((i+k)*(V1+V2+1)+j+l) (o.getD ((i+k)*(V1+V2+1)+j+l) 0+(ib U1 V1 a).getD (i*(V1+1)+j) 0*(ib U2 V2 b).getD (k*(V2+1)+l) 0)) ⟨J,by rw [ho];rfl,by rw [aeM];exact hlL,aqF (fun x hx=>by have:=hrL x hx;rw [iK];omega) (by rw [iK];omega)⟩
    ·obtain rfl:l=V2+1:=by omega
     refine bC ?_
     exact fO (k+1) o ⟨J,by rw [ho,hoK];rfl,hlL,fun x hx=>by have:=hrL x hx;rw [qG] at this;rw [iK];omega⟩
   ·obtain rfl:k=U2+1:=by omega
    rw [r7] at hrK
    refine bC ?_
    exact fO (j+1) oK ⟨J,by rw [hoK,hoJ];rfl,vA,fun x hx=>by have:=hrK x hx;rw [iK];omega⟩
  ·obtain rfl:j=V1+1:=by omega
   rw [hz3] at hrJ
   refine bC ?_
   exact fO (i+1) oJ ⟨J,by rw [hoJ,hoI];rfl,hlJ,fun x hx=>by have:=hrJ x hx;rw [iK];omega⟩
 ·obtain rfl:i=U1+1:=by omega
  have hOF:oI=(oz U1 V1 U2 V2 a b):=hoI
  clear hoI
  subst hOF
  refine ay ?_
  refine aY 8 al ?_
  refine aH ?_
  refine cp aO (ahl (U1+U2) hu) ?_
  refine aH ?_
  refine cp aO (ahl (V1+V2) hv) ?_
  refine dk ?_
  refine iv (fun(i m:Nat) L=>(((((((((St.mk L.slot (hp [(2,⟨3,[.agg [ae U1,ae V1,.list 3 (a.map aa)]],true⟩),(3,⟨3,[.agg [ae U2,ae V2,.list 3 (b.map aa)]],true⟩),(4,⟨3,[.agg [.v (.int .i64 0),.v (.int .i64 0),.v (.slice none 0 0)]],true⟩),(6,⟨3,[.agg [ae (U1+U2),ae (V1+V2),.ref 55 3 0 ((U1+U2+1)*(V1+V2+1))]],true⟩),(55,⟨3,(gL m (yr (U1+U2) (V1+V2) (oz U1 V1 U2 V2 a b))++(oz U1 V1 U2 V2 a b).drop m).map aa,true⟩)])).put (some 2) (.aF 2 3 0 0)).put (some 3) (.aF 3 3 0 0)).put (some 4) (.aF 4 3 0 0)).put (some 6) (.aF 6 3 0 0)).put (some 14) (.list 1 ((mT (U1+U2)).map eP))).put (some 15) (.list 1 ((mT (V1+V2)).map eP))).put (some 138) (ae (U1+U2+1))).put (some 139) (ae i))) (fun i m=>i<=U1+U2+1/\i*(V1+V2+1)=m) (fun i m=>U1+U2+1-i) 0 0 ⟨bS _,sb _⟩ (h0:=⟨_,az.of_eq (aj (aj (aj (aj (aj (aj (aj (aj (bJ pt) pt) pt) pt) pt) pt) pt) pt) pt)⟩) ?_
  rintro i m L5 ⟨hi,hm⟩
  refine ay ?_
  refine aL rfl ?_ ?_<;>intro aiV aJM
  ·have dq:i<=U1+U2:=by omega
   have egu:=ab1 dq
   have hcu:=z9 i hu
   refine nO ?_
   refine dI (fun(j:Nat) L=>((((((((((((St.mk L.slot (hp [(2,⟨3,[.agg [ae U1,ae V1,.list 3 (a.map aa)]],true⟩),(3,⟨3,[.agg [ae U2,ae V2,.list 3 (b.map aa)]],true⟩),(4,⟨3,[.agg [.v (.int .i64 0),.v (.int .i64 0),.v (.slice none 0 0)]],true⟩),(6,⟨3,[.agg [ae (U1+U2),ae (V1+V2),.ref 55 3 0 ((U1+U2+1)*(V1+V2+1))]],true⟩),(55,⟨3,(gL (m+j) (yr (U1+U2) (V1+V2) (oz U1 V1 U2 V2 a b))++(oz U1 V1 U2 V2 a b).drop (m+j)).map aa,true⟩)])).put (some 2) (.aF 2 3 0 0)).put (some 3) (.aF 3 3 0 0)).put (some 4) (.aF 4 3 0 0)).put (some 6) (.aF 6 3 0 0)).put (some 14) (.list 1 ((mT (U1+U2)).map eP))).put (some 15) (.list 1 ((mT (V1+V2)).map eP))).put (some 138) (ae (U1+U2+1))).put (some 139) (ae i)).put (some 16) (ae i)).put (some 143) (ae (V1+V2+1))).put (some 144) (ae j))) (fun j=>j<=V1+V2+1) (fun j=>V1+V2+1-j) 0 (bS _) ?_
   rintro j L6 hj
   refine ay ?_
   refine aL rfl ?_ ?_<;>intro aLE aLz
   ·have dL:j<=V1+V2:=by omega
    have egv:=ab1 dL
    have tB:=z9 j hv
    have qA:=v9 dq dL
    rw [hm] at qA
    have egd:=aBN (W:=(yr (U1+U2) (V1+V2) (oz U1 V1 U2 V2 a b))) (o:=(oz U1 V1 U2 V2 a b)) (m:=m+j)
    have oR:(yr (U1+U2) (V1+V2) (oz U1 V1 U2 V2 a b)) (m+j)=(oz U1 V1 U2 V2 a b).getD (m+j) 0/((((eu (U1+U2) i:Nat):Int):Rat)*(((eu (V1+V2) j:Nat):Int):Rat)):=by rw [yr,<-hm,aaP dL,aaA dL]
    have esd:=aBC (W:=(yr (U1+U2) (V1+V2) (oz U1 V1 U2 V2 a b))) (o:=(oz U1 V1 U2 V2 a b)) (m:=m+j) J oR.symm
    have hgl:(gL (m+j) (yr (U1+U2) (V1+V2) (oz U1 V1 U2 V2 a b))++(oz U1 V1 U2 V2 a b).drop (m+j)).length=((U1+U2+1)*(V1+V2+1)):=by rw [jS,nG,ni];omega
    have gk:=adi i hu
    have mW:=adi j hv
    have x7:=gQ J hrI (m+j)
    have hr4:=cM ((((eu (U1+U2) i:Nat):Int):Rat)) ((((eu (V1+V2) j:Nat):Int):Rat))
    refine eQ ?_
    refine ah rfl cu ?_
    refine ah rfl (.bin rfl rfl (ai3 hm J)) ?_
    refine ao ?_
    refine ah rfl sj ?_
    refine aQ ?_
    refine eZ 24 [22] al ?_
    refine bg ?_
    try simp only [t1,cn,fg,egd]
    refine aB ?_
    try simp only [t1,dfi,fg,egu]
    refine cp aO (rZ ((eu (U1+U2) i:Nat):Int) J J) ?_
    refine aB ?_
    try simp only [t1,dfi,fg,egv]
    refine cp aO (rZ ((eu (V1+V2) j:Nat):Int) J J) ?_
    refine cp au (ef ((((eu (U1+U2) i:Nat):Int):Rat)) ((((eu (V1+V2) j:Nat):Int):Rat)) J) ?_
    refine cp au (sH ((oz U1 V1 U2 V2 a b).getD (m+j) 0) ((((eu (U1+U2) i:Nat):Int):Rat)*(((eu (V1+V2) j:Nat):Int):Rat)) J) ?_
    refine dk ?_
    exact qp
   ·obtain rfl:j=V1+V2+1:=by omega
    refine bC ?_
    exact fO (i+1) (m+(V1+V2+1)) ⟨J,by rw [iK];omega⟩ (he:=az.of_eq (aj (aj (aj (aj (aj (aj (aj (aj (bJ pt) pt) pt) pt) pt) pt) pt) pt) pt))
  ·obtain rfl:i=U1+U2+1:=by omega
   have hE:(gL m (yr (U1+U2) (V1+V2) (oz U1 V1 U2 V2 a b))++(oz U1 V1 U2 V2 a b).drop m)=jW U1 V1 U2 V2 a b:=by rw [<-hm,List.drop_of_length_le J,qo];rfl
   refine dk ?_
   rw [<-hE]
   exact qE [55] rfl rfl rfl rfl rfl adk (.agg (.cons (.pure rfl) (.cons (.pure rfl) (.cons (dH an rfl rfl (by rw [jS,nG,ni];omega)) .nil)))) rfl (.pure rfl)
end Go.Proofs.YthcadngkamjpdaaGreat
namespace Go.Lg
theorem axI (b:Nat) (f:FuncId) (caps:List LV) (h:aK caps=true):(LV.bQ f caps).kill b=.bQ f caps:=LV.nz b _ (by simpa [LV.pure] using h)
end Go.Lg
namespace Go.Proofs.YthcadngkamjpdaaGreat
open Go.Lg
def gn (V:Nat) (c:List Rat) (i:Nat):List Rat:=(c.take ((i+1)*(V+1))).drop (i*(V+1))
theorem amX {U V i:Nat} {c:List Rat} (hc:c.length=(U+1)*(V+1)) (hi:i<=U):i*(V+1)+(V+1)<=c.length:=by
 rw [hc,<-iK];exact eT _ J
theorem nU {U V i:Nat} {c:List Rat} (hc:c.length=(U+1)*(V+1)) (hi:i<=U):(gn V c i).length=V+1:=by
 have:=amX hc hi
 unfold gn
 rw [ni,fQ,iK];omega
theorem xV {V i:Nat} {c:List Rat} {x:Rat} (h:x∈gn V c i):x∈c:=List.mem_of_mem_take (List.mem_of_mem_drop h)
theorem aE4 {U V i j:Nat} {c:List Rat} (hc:c.length=(U+1)*(V+1)) (hi:i<=U) (hj:j<=V):(gn V c i).getD j 0=c.getD (i*(V+1)+j) 0:=by
 have:=amX hc hi
 unfold gn
 rw [ahU,bE,List.getElem?_take_of_lt (by rw [iK];omega),<-bE]
def jD (g:List Rat->List Rat) (V:Nat) (c:List Rat):Nat->List Rat
 | 0=>[]
 | i+1=>jD g V c i++g (gn V c i)
theorem aa3 {g:List Rat->List Rat} {V W U:Nat} {c:List Rat} (hg:∀ i,i<=U->(g (gn V c i)).length=W+1):∀ n,n<=U+1->(jD g V c n).length=n*(W+1)
 | 0,_=>by rw [sb];rfl
 | n+1,h=>by rw [jD,jS,aa3 hg n J,hg n J,iK]
theorem sD (U V:Nat) (c:List Rat):(gS U V c).length=(V+1)*(U+1):=nG _ _
theorem amZ {U V R:Nat} {c:List Rat} (hR:1<=R) (h:∀ x∈c,rl x<=R):∀ x∈gS U V c,rl x<=R:=by
 intro x hx
 obtain⟨i,_,rfl⟩:=ga.1 hx
 exact gQ hR h _
def af5 (U V:Nat) (c:List Rat) (v:Rat):List Rat:=jD (fun p=>[eB p v]) V c (U+1)
def yX (U V:Nat) (c:List Rat) (u:Rat):List Rat:=jD (fun p=>[eB p u]) U (gS U V c) (V+1)
theorem azq (U V:Nat) (c:List Rat) (v:Rat):(af5 U V c v).length=U+1:=by
 have:=aa3 (g:=fun p=>[eB p v]) (V:=V) (W:=0) (U:=U) (c:=c) (fun i _=>rfl) (U+1) (bF _)
 rw [af5,this];omega
theorem aiz (U V:Nat) (c:List Rat) (u:Rat):(yX U V c u).length=V+1:=by
 have:=aa3 (g:=fun p=>[eB p u]) (V:=U) (W:=0) (U:=V) (c:=gS U V c) (fun i _=>rfl) (V+1) (bF _)
 rw [yX,this];omega
def gi (U V:Nat) (c:List Rat) (u v:Rat):Rat:=eB (yX U V c u) v
def eo (U V:Nat) (c:List Rat):List Rat:=gS V (U-1) (jD gf U (gS U V c) (V+1))
def en (U V:Nat) (c:List Rat):List Rat:=jD gf V c (U+1)
theorem alu {p:List Rat} {U:Nat} (h:p.length=U+1):(gf p).length=U-1+1:=by rw [abk];split<;>omega
theorem ap2 {g:List Rat->List Rat} {V U R:Nat} {c:List Rat} (h:∀ i,i<=U->∀ x∈g (gn V c i),rl x<=R):∀ {n:Nat},n<=U+1->∀ x∈jD g V c n,rl x<=R
 | 0,_,x,hx=>by cases hx
 | n+1,hn,x,hx=>by
  rcases oO.1 (show x∈jD g V c n++g (gn V c n) from hx) with h1 | h1
  ·exact ap2 h J x h1
  ·exact h n J x h1
open H0 in
theorem aAI (U V:Nat) (c:List Rat) (hc:c.length=(U+1)*(V+1)) (hl:c.length<=1048576) (i:Nat) (hi:i<=U):ax ak 271 [.agg [ae U,ae V,.list 3 (c.map aa)],ae i] (.list 3 ((gn V c i).map aa)):=by
 have hU:U+1<=c.length:=by rw [hc];exact pY _ (ic V)
 have hV:V+1<=c.length:=by rw [hc];exact pb _ (ic U)
 have tI:=dJ U V c
 have tX:=amX hc hi
 have o4:(i+1)*(V+1)=i*(V+1)+(V+1):=iK i (V+1)
 refine aR Tryz.func271 ?_
 refine dk ?_
 refine ah rfl cu ?_
 refine ah rfl abC ?_
 refine ao ?_
 refine ah rfl cu ?_
 refine aH ?_
 refine ah rfl cu ?_
 refine ah rfl abC ?_
 refine ah rfl (.aic (a:=_) (h:=_) an rfl dY dC rfl rfl J J) ?_
 refine aB ?_
 exact dR
namespace ar4
theorem aw {p q:Prop} (k:q) (e:p=q:=by simp only [e1,e2,e3,e4,p1,p2,p3,q1,q2,q3,l1,t0,t1,r1,r2,r3,r4,Nat.zero_add,Nat.reduceMul,Nat.reduceAdd,b1,b2,b3,b4,b5,b6,i1,i2,i3,i4,i5,i6,Nat.reduceBEq,vo,cn,axI _ _ _ fx,iH,eW,acV,Nat.add_sub_cancel,List.length_map,aG an,cA,cC,LV.kill,bH];exact rfl):p:=e.mpr k
theorem rF {p q:Prop} (k:q) (e:p=q:=by simp only [e1,e2,e3,e4,p1,p2,p3,q1,q2,q3,l1,t0,t1,r1,r2,r3,r4,Nat.zero_add,Nat.reduceMul,Nat.reduceAdd,b1,b2,b3,b4,b5,b6,i1,i2,i3,i4,i5,i6,Nat.reduceBEq,vo,cn,axI _ _ _ fx,iH,eW,acV,Nat.add_sub_cancel,List.length_map,aG an,cA,cC,LV.kill,bH,acV];exact rfl):p:=e.mpr k
theorem rp {p:Prop} (h:p:=by first | (refine rF ?_;exact rfl) | exact rfl):p:=h
end ar4
open ar4 in
theorem ahM (U V:Nat) (c:List Rat) (hc:c.length=(U+1)*(V+1)) (hl:c.length<=1048576) (f:Nat) (caps:List LV) (fx:aK caps=true) (jB:∀ x∈caps,x.av=1/\x.isAgg=false) (g:List Rat->List Rat) (W:Nat) (hf:∀ i,i<=U->ax ak f ([.list 3 ((gn V c i).map aa)]++caps) (.list 3 ((g (gn V c i)).map aa))) (hg:∀ i,i<=U->(g (gn V c i)).length=W+1) (hW:(U+1)*(W+1)<=1048576):ax ak 229 [.agg [ae U,ae V,.list 3 (c.map aa)],.bQ f caps] (.agg [ae U,ae W,.list 3 ((jD g V c (U+1)).map aa)]):=by
 have hU:U+1<=c.length:=by rw [hc];exact pY _ (ic V)
 have hV:V+1<=c.length:=by rw [hc];exact pb _ (ic U)
 have tI:=dJ U V c
 have hW2:W+1<=(U+1)*(W+1):=pb _ (ic U)
 refine aR Tryz.func229 (ht:=(fun g=>LV.cQ g _ (dJ _ _ _))) ?_
 have iH:True:=trivial
 have eW:True:=trivial
 have acV:True:=trivial
 refine nc ?_
 refine cp aO (aiQ U V c hc hl) ?_
 refine bC ?_
 refine ah rfl cu ?_
 refine aB ?_
 refine jm ((az.cell 5 rfl (fun Z μ w cs h=>vU 35 3 _ _ Z μ w cs h)).trans (az.ov _ 35 3 rfl)) ?_
 refine tz (fun(i m v:Nat) L=>(((((((St.mk L.slot (hp [(2,⟨3,[.agg [ae U,ae V,.list 3 (c.map aa)]],true⟩),(4,⟨3,[.agg [.v (.int .i64 0),.v (.int .i64 0),.v (.slice none 0 0)]],true⟩),(5,⟨3,[.agg [ae U,ae v,.ref 35 3 0 m]],true⟩),(35,⟨3,(jD g V c i).map aa,true⟩)])).put (some 1) (.bQ f caps)).put (some 2) (.aF 2 3 0 0)).put (some 4) (.aF 4 3 0 0)).put (some 5) (.aF 5 3 0 0)).put (some 19) (ae (U+1))).put (some 20) (ae i))) (fun i m v=>i<=U+1/\i*(W+1)=m/\(i=0\/v=W)) (fun i m v=>U+1-i) 0 0 0 ⟨bS _,sb _,.inl rfl⟩ ?_
 rintro i m v L1 ⟨hi,hm,hv⟩
 refine ay ?_
 refine aL rfl ?_ ?_<;>intro abv h21
 ·have dq:i<=U:=by omega
  have hfi:=hf i dq
  have acV:=hg i dq
  have ma:=aa3 hg i hi
  rw [hm] at ma
  have hmu:m+(W+1)<=(U+1)*(W+1):=by rw [<-hm,<-iK];exact eT _ J
  have iH:(jD g V c i).map aa++(g (gn V c i)).map aa=(jD g V c (i+1)).map aa:=by rw [jD,List.map_append]
  have eW:((jD g V c i).map aa).take m=(jD g V c i).map aa:=cE jQ
  refine eQ ?_
  refine cp au (aAI U V c hc hl i dq) ?_
  refine eN [] rfl rfl (.bQ (f:=f) (cap:=caps) (args:=[.list 3 ((gn V c i).map aa)]) rfl (.cons cG .nil) ⟨fx,jB⟩ hfi.1 ai (fun _ h=>by cases h)) (hfi.2 _) ?_
  refine bf ?_
  refine ah rfl nh ?_
  refine ao ?_
  refine bO rfl (.store rfl rfl rfl rfl rfl rfl rfl T3 jH) ?_
  refine r8 rp ?_
  refine a7 ?_
  refine bO rfl (.app (news:=(g (gn V c i)).map aa) rfl rfl rfl rfl rfl jQ (.inl rfl) ai dY me kT dC rfl kX (.inr (.inl rfl)) (by rw [eD,acV];omega) (by rw [eD,acV];omega) ai) ?_
  refine bh ?_
  exact s8 (i+1) (m+(W+1)) W ⟨J,by rw [iK];omega,.inr rfl⟩
 ·obtain rfl:i=U+1:=by omega
  obtain rfl:v=W:=by omega
  have ma:=aa3 hg (U+1) (bF _)
  refine bw ?_
  exact fi [35] rfl rfl rfl rfl rfl adk (.agg (.cons (.pure rfl) (.cons (.pure rfl) (.cons (dH an rfl rfl J) .nil))))
open H0 in
theorem aJf (p:List Rat) (v:Rat) (h:HS p v) (lA:0<p.length):ax ak 293 [.list 3 (p.map aa),.ba (aa v)] (.list 3 ([eB p v].map aa)):=by
 refine aR Tryz.func293 ?_
 refine bB ?_
 refine cp au (acN p v h lA) ?_
 refine a7 ?_
 exact lW [7] rfl rfl (dH an rfl rfl rfl)
open H0 in
theorem ay6 (U V:Nat) (c:List Rat) (hc:c.length=(U+1)*(V+1)) (hl:c.length<=1048576) (v:Rat) (hS:∀ i,i<=U->HS (gn V c i) v):ax ak 287 [.agg [ae U,ae V,.list 3 (c.map aa)],aa v] (.list 3 ((af5 U V c v).map aa)):=by
 have hU:U+1<=c.length:=by rw [hc];exact pY _ (ic V)
 have hV:V+1<=c.length:=by rw [hc];exact pb _ (ic U)
 have tI:=dJ U V c
 have sW:aK [LV.ba (aa v)]=true:=by simp [aK,LV.pure,an.pure]
 refine aR Tryz.func287 ?_
 refine bh ?_
 refine eN [3] rfl rfl (.mk (caps:=[.ba (aa v)]) (.cons (.aF rfl rfl rfl (an.av _) (p7 _) (an.pure _) rfl) .nil) (fun x hx=>by rw [fP.1 hx];exact⟨rfl,rfl⟩)) rfl ?_
 refine bM rfl (.cons (.pure tI) (.cons (.pure (show LV.pure (.bQ 293 [.ba (aa v)])=true by simpa [LV.pure] using sW)) .nil)) (ahM U V c hc hl 293 [.ba (aa v)] sW (fun x hx=>by rw [fP.1 hx];exact⟨rfl,rfl⟩) (fun p=>[eB p v]) 0 (fun i hi=>aJf _ v (hS i hi) (by rw [nU hc hi];exact ic V)) (fun i hi=>rfl) J) ?_
 refine ah rfl (.field rfl apQ rfl (cd an _ _)) ?_
 refine aB ?_
 exact dR
open H0 in
theorem aCO (U V:Nat) (c:List Rat) (hc:c.length=(U+1)*(V+1)) (hl:c.length<=1048576) (ke:∀ x∈c,rl x<=274877906944) (u:Rat) (hS:∀ j,j<=V->HS (gn U (gS U V c) j) u):ax ak 277 [.agg [ae U,ae V,.list 3 (c.map aa)],aa u] (.list 3 ((yX U V c u).map aa)):=by
 have hU:U+1<=c.length:=by rw [hc];exact pY _ (ic V)
 have hV:V+1<=c.length:=by rw [hc];exact pb _ (ic U)
 have tI:=dJ U V c
 have gO:=sD U V c
 have zQ:(gS U V c).length<=1048576:=by rw [gO,eH,<-hc];exact hl
 have aiH:=dJ V U (gS U V c)
 refine aR Tryz.func277 ?_
 refine bg ?_
 refine aY 5 al ?_
 refine ao ?_
 refine cp aO (anA U V c hc hl ke) ?_
 refine ao ?_
 refine cp au (ay6 V U (gS U V c) gO zQ u hS) ?_
 refine aB ?_
 exact dR
open H0 in
theorem aBV (U V:Nat) (c:List Rat) (hc:c.length=(U+1)*(V+1)) (hl:c.length<=1048576) (ke:∀ x∈c,rl x<=274877906944) (u v:Rat) (hS:∀ j,j<=V->HS (gn U (gS U V c) j) u) (zT:HS (yX U V c u) v):ax ak 255 [.agg [ae U,ae V,.list 3 (c.map aa)],aa u,aa v] (aa (gi U V c u v)):=by
 have hU:U+1<=c.length:=by rw [hc];exact pY _ (ic V)
 have hV:V+1<=c.length:=by rw [hc];exact pb _ (ic U)
 have tI:=dJ U V c
 refine aR Tryz.func255 ?_
 refine bB ?_
 refine aY 5 al ?_
 refine aH ?_
 refine cp au (aCO U V c hc hl ke u hS) ?_
 refine ao ?_
 refine cp au (acN (yX U V c u) v zT (by rw [aiz];exact ic V)) ?_
 refine aB ?_
 exact jJ
open H0 in
theorem asi (U V:Nat) (c:List Rat) (hc:c.length=(U+1)*(V+1)) (hl:c.length<=1048576) (ke:∀ x∈c,rl x<=274877906944) (f:Nat) (caps:List LV) (fx:aK caps=true) (jB:∀ x∈caps,x.av=1/\x.isAgg=false) (g:List Rat->List Rat) (W:Nat) (hf:∀ j,j<=V->ax ak f ([.list 3 ((gn U (gS U V c) j).map aa)]++caps) (.list 3 ((g (gn U (gS U V c) j)).map aa))) (hg:∀ j,j<=V->(g (gn U (gS U V c) j)).length=W+1) (hW:(V+1)*(W+1)<=1048576) (hgR:∀ x∈(jD g U (gS U V c) (V+1)),rl x<=274877906944):ax ak 227 [.agg [ae U,ae V,.list 3 (c.map aa)],.bQ f caps] (.agg [ae W,ae V,.list 3 ((gS V W (jD g U (gS U V c) (V+1))).map aa)]):=by
 have hU:U+1<=c.length:=by rw [hc];exact pY _ (ic V)
 have hV:V+1<=c.length:=by rw [hc];exact pb _ (ic U)
 have tI:=dJ U V c
 have gO:=sD U V c
 have zQ:(gS U V c).length<=1048576:=by rw [gO,eH,<-hc];exact hl
 have aiH:=dJ V U (gS U V c)
 have ma:=aa3 hg (V+1) (bF _)
 have aLm:=dJ V W (jD g U (gS U V c) (V+1))
 have mC:LV.pure (.bQ f caps)=true:=by simpa [LV.pure] using fx
 refine aR Tryz.func227 (ht:=(fun g=>LV.cQ g _ (dJ _ _ _))) ?_
 refine bB ?_
 refine cp aO (anA U V c hc hl ke) ?_
 refine ao ?_
 refine cp au (ahM V U (gS U V c) gO zQ f caps fx jB g W hf hg hW) ?_
 refine cp aO (anA V W (jD g U (gS U V c) (V+1)) ma J hgR) ?_
 refine aB ?_
 exact acs
open H0 in
theorem avS (U V:Nat) (c:List Rat) (hc:c.length=(U+1)*(V+1)) (hl:c.length<=1048576) (ke:∀ x∈c,rl x<=1073741824) (hU1:U<=900):ax ak 163 [.agg [ae U,ae V,.list 3 (c.map aa)]] (.agg [ae (U-1),ae V,.list 3 ((eo U V c).map aa)]):=by
 have hU:U+1<=c.length:=by rw [hc];exact pY _ (ic V)
 have hV:V+1<=c.length:=by rw [hc];exact pb _ (ic U)
 have tI:=dJ U V c
 have gO:=sD U V c
 have zQ:(gS U V c).length<=1048576:=by rw [gO,eH,<-hc];exact hl
 have aiH:=dJ (U-1) V (eo U V c)
 have hsR:=amZ (U:=U) (V:=V) (R:=1073741824) ai ke
 refine aR Tryz.func163 (ht:=(fun g=>LV.cQ g _ (dJ _ _ _))) ?_
 refine bB ?_
 refine cp au (asi U V c hc hl (fun x hx=>bb (ke x hx) ai) 228 [] rfl (fun x hx=>by cases hx) gf (U-1) (fun j hj=>ac5 _ (by rw [nU gO hj];omega) (fun x hx=>hsR x (xV hx))) (fun j hj=>alu (nU gO hj)) (by have:=lr (V+1) (show U-1+1<=U+1 by omega);omega) (ap2 (U:=V) (fun j hj x hx=>bb (abu (R:=1073741824) ai (by rw [nU gO hj];omega) (fun x hx=>hsR x (xV hx)) x hx) ai) (bF _))) ?_
 refine aB ?_
 exact acs
theorem amj {U V:Nat} {c:List Rat} (hc:c.length=(U+1)*(V+1)) {x:Rat} (hx:x∈gS U V c):x∈c:=by
 obtain⟨i,hi,rfl⟩:=ga.1 hx
 have hi:=wF.1 hi
 have h1:i/(U+1)<V+1:=alp (by rw [eH];exact hi)
 have h2:=jX i (show U+1 > 0 by omega)
 exact eU (by rw [hc];exact v9 J J)
theorem aaW {g:List Rat->List Rat} {V U:Nat} {c:List Rat} {Q:Rat->Prop} (h:∀ i,i<=U->∀ x∈g (gn V c i),Q x):∀ {n:Nat},n<=U+1->∀ x∈jD g V c n,Q x
 | 0,_,x,hx=>by cases hx
 | n+1,hn,x,hx=>by
  rcases oO.1 (show x∈jD g V c n++g (gn V c n) from hx) with h1 | h1
  ·exact aaW h J x h1
  ·exact h n J x h1
theorem aw4 {U V:Nat} {c:List Rat} {i j:Nat} (hi:i<=U) (hj:j<=V):(gS U V c).getD (j*(U+1)+i) 0=c.getD (i*(V+1)+j) 0:=by
 rw [gS,akt (v9 hj hi),zo,aaP hi,aaA hi]
section
variable {m M a b:Rat} {U V:Nat} {c:List Rat} (hc:c.length=(U+1)*(V+1)) (h0:0<=a) (cY:a<=b) (hb:b<=1) (h:∀ x∈c,m<=x/\x<=M)
end
open akz in
theorem aiG (u v:Int) (c:List Rat) (hl:c.length<=1048576) (jn:∀ x∈c,rl x<=137438953472):ax ak 158 [.agg [iL u,iL v,.list 3 (c.map aa)]] (aD (de c)):=by
 refine aR Tryz.func158 ?_
 have tf:True:=trivial
 refine sE ?_
 refine jm (az.kill _ 1) ?_
 refine dI (fun(k:Nat) L=>((((((St.mk L.slot (hp [(2,⟨6,[aD (0,0)],true⟩),(3,⟨6,[aD (kJ c k)],true⟩)])).put (some 2) (.aF 2 6 0 0)).put (some 3) (.aF 3 6 0 0)).put (some 7) (.list 3 (c.map aa))).put (some 8) (ae c.length)).put (some 9) (ae k))) (fun k=>k<=c.length) (fun k=>c.length-k) 0 (bS _) ?_
 rintro k L1 hk
 refine ay ?_
 refine aL rfl ?_ ?_<;>intro pA sC
 ·have lS:k<c.length:=by omega
  have gk:=ahL (R:=137438953472) ai jn
  have mW:=gk k
  have x7:=agp ai gk k
  have hr4:rl ((c.getD k 0,c.getD k 0):Rat × Rat).1<=137438953472:=mW
  have hr5:rl ((c.getD k 0,c.getD k 0):Rat × Rat).2<=137438953472:=mW
  have tf:kJ c (k+1)=iV (if k=0 then(c.getD k 0,c.getD k 0) else kJ c k) (c.getD k 0,c.getD k 0):=rfl
  refine sE ?_
  refine aL rfl ?_ ?_<;>intro oG mV
  ·have lJ:k=0:=by omega
   rw [if_pos lJ] at tf
   refine aH ?_
   refine cp aO (nD _ J) ?_
   refine aQ ?_
   refine aY 4 al ?_
   refine aH ?_
   refine cp aO (nD _ J) ?_
   refine cp au (s9 _ _ J J) ?_
   refine aB ?_
   refine bR (az.kill _ 5) ?_
   refine aB ?_
   exact yb
  ·have lJ:¬ k=0:=by omega
   rw [if_neg lJ] at tf
   refine aH ?_
   refine aY 4 al ?_
   refine aH ?_
   refine cp aO (nD _ J) ?_
   refine cp au (s9 _ _ J J) ?_
   refine aB ?_
   refine bR (az.kill _ 5) ?_
   refine aB ?_
   exact yb
 ·obtain rfl:k=c.length:=by omega
  refine bw ?_
  exact od
def plL (p:List Rat):LV:=.list 3 (p.map aa)
theorem plE:gY plL 1 false:=⟨fun _=>rfl,fun _=>rfl,fun p=>cd an 3 p⟩
def sw (V:Nat) (c:List Rat) (v U:Nat):List Rat:=jD (fun p=>iA p v) V c (U+1)
def hF (U V:Nat) (c:List Rat) (u v:Nat):List Rat:=gS v u (jD (fun p=>iA p u) U (gS U v (sw V c v U)) (v+1))
theorem aHb {U V v:Nat} {c:List Rat} (hc:c.length=(U+1)*(V+1)) (hV:V<=v):(sw V c v U).length=(U+1)*(v+1) :=
 aa3 (W:=v) (U:=U) (fun i hi=>aeB xB) _ (bF _)
theorem akx (U V:Nat) (c:List Rat) (u v:Nat):(hF U V c u v).length=(u+1)*(v+1):=sD v u _
theorem aln {p:List Rat} {n:Nat} (hl:p.length<=n+1) (h:nj p n):∀ x∈iA p n,rl x<=1073741824:=h.2 _ J
theorem agQ (V:Nat) (c:List Rat):∀ n,jD (fun p=>p) V c n=c.take (n*(V+1))
 | 0=>by simp [jD]
 | n+1=>by
  rw [jD,agQ V c n,gn,iK]
  have h:=List.take_append_drop (n*(V+1)) (c.take (n*(V+1)+(V+1)))
  rw [List.take_take,Nat.min_eq_left J] at h
  exact h
theorem aAT {U V:Nat} {c:List Rat} (hc:c.length=(U+1)*(V+1)):gS V U (gS U V c)=c:=by
 refine agX (by rw [sD,hc]) fun k hk=>?_
 rw [sD] at hk
 have h1:k/(V+1)<U+1:=alp (by rw [eH];exact hk)
 have h2:=jX k (show V+1 > 0 by omega)
 have e:k=k/(V+1)*(V+1)+k % (V+1):=by rw [eH];exact(yG k (V+1)).symm
 rw [e,aw4 (U:=V) (V:=U) (i:=k % (V+1)) (j:=k/(V+1)) J J,aw4 (U:=U) (V:=V) (i:=k/(V+1)) (j:=k % (V+1)) J J]
theorem ahm {g h:List Rat->List Rat} {V U:Nat} {c:List Rat} (e:∀ i,i<=U->g (gn V c i)=h (gn V c i)):∀ {n},n<=U+1->jD g V c n=jD h V c n
 | 0,_=>rfl
 | n+1,hn=>by rw [jD,jD,ahm e J,e n J]
theorem auh {U V:Nat} {c:List Rat} (hc:c.length=(U+1)*(V+1)):hF U V c U V=c:=by
 have h1:sw V c V U=c:=by
  rw [sw,ahm (h:=fun p=>p) (fun i hi=>af7 xB) (bF _),agQ,cE J]
 rw [hF,h1,ahm (h:=fun p=>p) (fun i hi=>af7 (by rw [nU (sD U V c) hi];omega)) (bF _),agQ,cE (by rw [sD];omega),aAT hc]
open H0 in
theorem atE (U V:Nat) (c:List Rat) (hc:c.length=(U+1)*(V+1)) (hl:c.length<=1048576) (ke:∀ x∈c,rl x<=1073741824) (hV1:V<=900):ax ak 164 [.agg [ae U,ae V,.list 3 (c.map aa)]] (.agg [ae U,ae (V-1),.list 3 ((en U V c).map aa)]):=by
 have hU:U+1<=c.length:=by rw [hc];exact pY _ (ic V)
 have hV:V+1<=c.length:=by rw [hc];exact pb _ (ic U)
 have tI:=dJ U V c
 have aiH:=dJ U (V-1) (en U V c)
 refine aR Tryz.func164 (ht:=(fun g=>LV.cQ g _ (dJ _ _ _))) ?_
 refine bB ?_
 refine cp au (ahM U V c hc hl 228 [] rfl (fun x hx=>by cases hx) gf (V-1) (fun i hi=>ac5 _ xB (fun x hx=>ke x (xV hx))) (fun i hi=>alu (nU hc hi)) (by have:=lr (U+1) (show V-1+1<=V+1 by omega);omega)) ?_
 refine aB ?_
 exact acs
open H0 in
theorem arM (p:List Rat) (d:Nat) (lA:0<p.length) (hd:d<=40) (qw:p.length<=d+1) (oT:nj p d):ax ak 290 [.list 3 (p.map aa),.ba (ae d)] (.list 3 ((iA p d).map aa)):=by
 refine aR Tryz.func290 ?_
 refine bB ?_
 refine cp au (aD0 p d lA hd qw oT) ?_
 refine df ?_
 exact dR
open H0 in
theorem aiM (d:Nat):ax ak 289 [ae d] (.bQ 290 [.ba (ae d)]):=by
 refine aR Tryz.func289 (ht:=(fun g=>by simp [LV.b7,dX])) ?_
 refine bg ?_
 refine eN [1] rfl rfl (.mk (caps:=[.ba (ae d)]) (.cons (.aF rfl rfl rfl rfl (ahS (ae d) rfl) rfl rfl) .nil) (fun x hx=>by rw [fP.1 hx];exact⟨rfl,rfl⟩)) rfl ?_
 refine aB ?_
 exact jL
namespace awZ
theorem aw {p q:Prop} (k:q) (e:p=q:=by simp only [e1,e2,e3,e4,p1,p2,p3,q1,q2,q3,l1,t0,t1,r1,r2,r3,r4,Nat.zero_add,Nat.reduceMul,Nat.reduceAdd,b1,b2,b3,b4,b5,b6,i1,i2,i3,i4,i5,i6,Nat.reduceBEq,vo,cn,aG an,cA,cC,LV.kill,bH];exact rfl):p:=e.mpr k
end awZ
open awZ in
theorem aq0 (U V:Nat) (c:List Rat) (hc:c.length=(U+1)*(V+1)) (hl:c.length<=1048576) (ke:∀ x∈c,rl x<=274877906944) (u v:Nat) (hUu:U<=u) (hVv:V<=v) (hu:u<=40) (hv:v<=40) (h1:∀ i,i<=U->nj (gn V c i) v) (h2:∀ j,j<=v->nj (gn U (gS U v (sw V c v U)) j) u):ax ak 282 [.agg [ae U,ae V,.list 3 (c.map aa)],ae u,ae v] (.agg [ae u,ae v,.list 3 ((hF U V c u v).map aa)]):=by
 have hU:U+1<=c.length:=by rw [hc];exact pY _ (ic V)
 have hV:V+1<=c.length:=by rw [hc];exact pb _ (ic U)
 have tI:=dJ U V c
 have kN:=aHb hc hVv
 have atc:(sw V c v U).length<=1048576:=by rw [kN];exact bb (jG (show U+1<=41 by omega) (show v+1<=41 by omega)) ai
 have mi:=dJ U v (sw V c v U)
 have fa:=ahM U V c hc hl 290 [.ba (ae v)] rfl (fun x hx=>by rw [fP.1 hx];exact⟨rfl,rfl⟩) (fun p=>iA p v) v (fun i hi=>arM _ v xB hv xB (h1 i hi)) (fun i hi=>aeB xB) (by rw [<-kN];exact atc)
 have jI:∀ x∈(sw V c v U),rl x<=1073741824:=aaW (U:=U) (fun i hi=>aln xB (h1 i hi)) (bF _)
 have gO:=sD U v (sw V c v U)
 have hR2:=asi U v (sw V c v U) kN atc (fun x hx=>bb (jI x hx) ai) 290 [.ba (ae u)] rfl (fun x hx=>by rw [fP.1 hx];exact⟨rfl,rfl⟩) (fun p=>iA p u) u (fun j hj=>arM _ u (by rw [nU gO hj];omega) hu (by rw [nU gO hj];omega) (h2 j hj)) (fun j hj=>aeB (by rw [nU gO hj];omega)) (by exact bb (jG (show v+1<=41 by omega) (show u+1<=41 by omega)) ai) (aaW (U:=v) (fun j hj x hx=>bb (aln (by rw [nU gO hj];omega) (h2 j hj) x hx) ai) (bF _))
 refine aR Tryz.func282 (ht:=(fun g=>LV.cQ g _ (dJ _ _ _))) ?_
 refine bw ?_
 refine aY 9 al ?_
 refine aQ ?_
 refine eN [] rfl rfl (.bQ (f:=289) (cap:=[]) (args:=[ae v]) rfl (.cons cG .nil) ⟨rfl,fun _ h=>by cases h⟩ (aiM v).1 ai (fun _ h=>by cases h)) ((aiM v).2 _) ?_
 refine bM rfl (.cons (.pure tI) (.cons (.pure rfl) .nil)) fa ?_
 refine aH ?_
 refine eN [] rfl rfl (.bQ (f:=289) (cap:=[]) (args:=[ae u]) rfl (.cons cG .nil) ⟨rfl,fun _ h=>by cases h⟩ (aiM u).1 ai (fun _ h=>by cases h)) ((aiM u).2 _) ?_
 refine bM rfl (.cons (.pure mi) (.cons (.pure rfl) .nil)) hR2 ?_
 refine aB ?_
 exact acs
theorem ar8 {a b u:Nat} (h1:a<=u) (h2:b<=u) (h:a=u\/b=u):(if ((b:Nat):Int) > ((a:Nat):Int) then((b:Nat):Int) else((a:Nat):Int))=((u:Nat):Int):=by split<;>omega
theorem mnE (a:Int):(if a<a then a else a)=a:=by split<;>rfl
structure wP (U V:Nat) (c:List Rat) (u v:Nat):Prop where
 hc:c.length=(U+1)*(V+1)
 hl:c.length<=1048576
 hR:∀ x∈c,rl x<=274877906944
 hU:U<=u
 hV:V<=v
 hu:u<=40
 hv:v<=40
 h1:∀ i,i<=U->nj (gn V c i) v
 h2:∀ j,j<=v->nj (gn U (gS U v (sw V c v U)) j) u
theorem wP.rl {U V u v:Nat} {c:List Rat} (h:wP U V c u v):∀ x∈hF U V c u v,Go.Lg.rl x<=1073741824 :=
 amZ ai fun x hx=>aaW (U:=v) (V:=U) (c:=gS U v (sw V c v U)) (n:=v+1) (fun j hj y hy=>aln (by rw [nU (sD U v _) hj];have:=h.hU;omega) (h.h2 j hj) y hy) (bF _) x hx
theorem wP.g {U V u v:Nat} {c:List Rat} (h:wP U V c u v) (k:Nat):Go.Lg.rl ((hF U V c u v).getD k 0)<=1073741824:=gQ ai h.rl k
theorem wP.n {U V u v:Nat} {c:List Rat} (h:wP U V c u v):(u+1)*(v+1)<=1681 :=
 bb (jG (show u+1<=41 by have:=h.hu;omega) (show v+1<=41 by have:=h.hv;omega)) ai
namespace awz
theorem aw {p q:Prop} (k:q) (e:p=q:=by simp only [e1,e2,e3,e4,p1,p2,p3,q1,q2,q3,l1,t0,t1,r1,r2,r3,r4,Nat.zero_add,Nat.reduceMul,Nat.reduceAdd,b1,b2,b3,b4,b5,b6,i1,i2,i3,i4,i5,i6,Nat.reduceBEq,vo,cn,hmu,hmv,mnE,eg,amg,elp,elq,fo,eO,dW,List.length_cons,List.length_nil,List.nil_append,List.map_nil,List.take_nil,List.append_nil,aG an,cA,cC,LV.kill,bH];exact rfl):p:=e.mpr k
end awz
open awz in
theorem azE (f:Nat) (g:Rat->Rat->Rat) (U1 V1 U2 V2:Nat) (a b:List Rat) (u v:Nat) (ha:wP U1 V1 a u v) (hb:wP U2 V2 b u v) (hu:U1=u\/U2=u) (hv:V1=v\/V2=v) (hf:∀ i,ax ak f [aa ((hF U1 V1 a u v).getD i 0),aa ((hF U2 V2 b u v).getD i 0)] (aa (g ((hF U1 V1 a u v).getD i 0) ((hF U2 V2 b u v).getD i 0)))):ax ak 267 [.agg [ae U1,ae V1,.list 3 (a.map aa)],.agg [ae U2,ae V2,.list 3 (b.map aa)],.bQ f []] (.agg [ae u,ae v,.list 3 ((nX g (hF U1 V1 a u v) (hF U2 V2 b u v)).map aa)]):=by
 have hmu:=ar8 ha.hU hb.hU hu
 have hmv:=ar8 ha.hV hb.hV hv
 have elp:(hF U1 V1 a u v).length=(u+1)*(v+1):=akx _ _ _ _ _
 have elq:(hF U2 V2 b u v).length=(u+1)*(v+1):=akx _ _ _ _ _
 have hn:=ha.n
 have mi:=dJ U1 V1 a
 have lN:=dJ U2 V2 b
 have vV:=dJ u v (hF U1 V1 a u v)
 have hn4:=dJ u v (hF U2 V2 b u v)
 refine aR Tryz.func267 (ht:=(fun g=>LV.cQ g _ (dJ _ _ _))) ?_
 have eg:True:=trivial
 have elp:True:=trivial
 have elq:True:=trivial
 refine bg ?_
 refine aY 12 al ?_
 refine eQ ?_
 refine aY 8 al ?_
 refine aQ ?_
 refine cp gM (aq0 U1 V1 a ha.hc ha.hl ha.hR u v ha.hU ha.hV ha.hu ha.hv ha.h1 ha.h2) ?_
 refine aQ ?_
 refine cp gM (aq0 U2 V2 b hb.hc hb.hl hb.hR u v hb.hU hb.hV hb.hu hb.hv hb.h1 hb.h2) ?_
 refine ak9 ?_
 refine jm ((az.cell 9 rfl (fun Z μ w cs h=>vU 57 3 _ _ Z μ w cs h)).trans (az.ov _ 57 3 rfl)) ?_
 refine dI (fun(i:Nat) L=>((((((((St.mk L.slot (hp [(3,⟨3,[.agg [ae u,ae v,.list 3 ((hF U1 V1 a u v).map aa)]],true⟩),(4,⟨3,[.agg [ae u,ae v,.list 3 ((hF U2 V2 b u v).map aa)]],true⟩),(6,⟨3,[.agg [.v (.int .i64 0),.v (.int .i64 0),.v (.slice none 0 0)]],true⟩),(9,⟨3,[.agg [ae u,ae v,.ref 57 3 0 i]],true⟩),(57,⟨3,(gL i (fun k=>g ((hF U1 V1 a u v).getD k 0) ((hF U2 V2 b u v).getD k 0))).map aa,true⟩)])).put (some 2) (.bQ f [])).put (some 3) (.aF 3 3 0 0)).put (some 4) (.aF 4 3 0 0)).put (some 6) (.aF 6 3 0 0)).put (some 9) (.aF 9 3 0 0)).put (some 38) (ae ((u+1)*(v+1)))).put (some 39) (ae i))) (fun i=>i<=(u+1)*(v+1)) (fun i=>(u+1)*(v+1)-i) 0 (bS _) ?_
 rintro i L1 hi
 refine ay ?_
 refine aL rfl ?_ ?_<;>intro zi pS
 ·have dq:i<(u+1)*(v+1):=by omega
  have hfi:=hf i
  have hgl:=nG i (fun k=>g ((hF U1 V1 a u v).getD k 0) ((hF U2 V2 b u v).getD k 0))
  have eg:gL (i+1) (fun k=>g ((hF U1 V1 a u v).getD k 0) ((hF U2 V2 b u v).getD k 0))=gL i (fun k=>g ((hF U1 V1 a u v).getD k 0) ((hF U2 V2 b u v).getD k 0))++[g ((hF U1 V1 a u v).getD i 0) ((hF U2 V2 b u v).getD i 0)]:=aiE _ _
  refine bh ?_
  refine aY 15 al ?_
  refine dk ?_
  refine eN [] rfl rfl (.bQ (f:=f) (cap:=[]) (args:=[aa ((hF U1 V1 a u v).getD i 0),aa ((hF U2 V2 b u v).getD i 0)]) rfl (.cons cG (.cons cG .nil)) ⟨rfl,fun _ h=>by cases h⟩ hfi.1 ai (fun _ h=>by cases h)) (hfi.2 _) ?_
  refine ao ?_
  refine bO rfl (.app (news:=[aa (g ((hF U1 V1 a u v).getD i 0) ((hF U2 V2 b u v).getD i 0))]) rfl rfl rfl rfl rfl (by simp [nG]) (.inl rfl) ai dY dY kT dC rfl kX (.inl ⟨56,0,_,rfl,by decide,rfl,rfl,by simp,rfl,by simp [aK,an.pure]⟩) bq bq ai) ?_
  refine a7 ?_
  refine bR (az.kill _ 56) ?_
  refine ah rfl cu ?_
  refine aQ ?_
  exact lK
 ·obtain rfl:i=(u+1)*(v+1):=by omega
  have hE:gL ((u+1)*(v+1)) (fun k=>g ((hF U1 V1 a u v).getD k 0) ((hF U2 V2 b u v).getD k 0))=(nX g (hF U1 V1 a u v) (hF U2 V2 b u v)):=by rw [nX,akx];rfl
  refine bw ?_
  rw [<-hE]
  exact fi [57] rfl rfl rfl rfl rfl adk (.agg (.cons (.pure rfl) (.cons (.pure rfl) (.cons (dH an rfl rfl (by rw [nG])) .nil))))
open H0 in
theorem aCk (U1 V1 U2 V2:Nat) (a b:List Rat) (u v:Nat) (ha:wP U1 V1 a u v) (hb:wP U2 V2 b u v) (hu:U1=u\/U2=u) (hv:V1=v\/V2=v):ax ak 225 [.agg [ae U1,ae V1,.list 3 (a.map aa)],.agg [ae U2,ae V2,.list 3 (b.map aa)]] (.agg [ae u,ae v,.list 3 ((nX (·-·) (hF U1 V1 a u v) (hF U2 V2 b u v)).map aa)]):=by
 have mi:=dJ U1 V1 a
 have lN:=dJ U2 V2 b
 refine aR Tryz.func225 (ht:=(fun g=>LV.cQ g _ (dJ _ _ _))) ?_
 refine bC ?_
 refine cp gM (azE 181 (·-·) U1 V1 U2 V2 a b u v ha hb hu hv (fun i=>oW _ _ (by have:=ha.g i;have:=hb.g i;omega))) ?_
 refine aB ?_
 exact acs
theorem at0:∀ (n m:Nat) (f:Nat->Nat->Rat),sm n (fun i=>sm m (f i))=sm m (fun j=>sm n (fun i=>f i j))
 | 0,m,f=>(axP m _ (fun _ _=>rfl)).symm
 | n+1,m,f=>by rw [sm,at0 n m f,<-aqh];rfl
def sx (U V:Nat) (c:List Rat) (i j:Nat):Rat:=cR U i*sq (gn V c i) j
theorem avV {U V i j:Nat} {c:List Rat} (hc:c.length=(U+1)*(V+1)) (hi:i<=U) (hj:j<=V):(ib U V c).getD (i*(V+1)+j) 0=sx U V c i j:=by
 rw [ib,akt (v9 hi hj),wU,aaP hj,aaA hj,sx,sq,nU hc hi,rO,aE4 hc hi hj,Rat.mul_assoc];rfl
theorem aqB {U V i j:Nat} {c:List Rat} (hc:c.length=(U+1)*(V+1)) (hi:i<=U) (hj:V<j):sx U V c i j=0:=by
 rw [sx,ayJ xB,aav]
theorem aIB {W i j r s:Nat} (hj:j<=W) (hs:s<=W) (h:i*(W+1)+j=r*(W+1)+s):i=r/\j=s:=by
 have h1:=congrArg (·/(W+1)) h
 have h2:=congrArg (· % (W+1)) h
 simp only [aaP hj,aaP hs,aaA hj,aaA hs] at h1 h2
 exact⟨h1,h2⟩
section
variable {V1 V2 W U U2 r s:Nat} {x y o:List Rat} (i j k:Nat)
theorem alQ:∀ l (o:List Rat),(mL V1 V2 W x y i j k l o).length=o.length
 | 0,o=>rfl
 | l+1,o=>by rw [mL,aeM,alQ l o]
theorem akZ:∀ k (o:List Rat),(mK V1 V2 W x y i j k o).length=o.length
 | 0,o=>rfl
 | k+1,o=>by rw [mK,alQ,akZ k o]
theorem anD:∀ j (o:List Rat),(mJ V1 V2 W U2 x y i j o).length=o.length
 | 0,o=>rfl
 | j+1,o=>by rw [mJ,akZ,anD j o]
theorem aur:∀ i (o:List Rat),(mI V1 V2 W U2 x y i o).length=o.length
 | 0,o=>rfl
 | i+1,o=>by rw [mI,anD,aur i o]
theorem au2 (hik:i+k<=U) (ho:o.length=(U+1)*(W+1)):∀ l,j+l<=W+1->∀ r s,s<=W->(mL V1 V2 W x y i j k l o).getD (r*(W+1)+s) 0=o.getD (r*(W+1)+s) 0+(if i+k=r/\j<=s/\s<j+l then x.getD (i*(V1+1)+j) 0*y.getD (k*(V2+1)+(s-j)) 0 else 0)
 | 0,_,r,s,hs=>by rw [mL,if_neg J,jC]
 | l+1,h,r,s,hs=>by
  have qA:=v9 (U:=U) (V:=W) (i:=i+k) (j:=j+l) J J
  have ih:=au2 hik ho l J
  rw [mL,aGf _ _ _ _ (by rw [alQ,ho];omega)]
  by_cases h1:(i+k)*(W+1)+j+l=r*(W+1)+s
  ·obtain⟨h2,h3⟩:=aIB (W:=W) (i:=i+k) (j:=j+l) (r:=r) (s:=s) J hs J
   rw [if_pos h1,h1,ih r s hs,if_neg J,if_pos J,show s-j=l by omega];grind
  ·rw [if_neg h1,ih r s hs]
   have h4:¬ (i+k=r/\j+l=s):=fun⟨e1,e2⟩=>h1 (by rw [<-e1,<-e2];omega)
   by_cases h2:i+k=r/\j<=s/\s<j+l
   ·rw [if_pos h2,if_pos J]
   ·rw [if_neg h2,if_neg J]
theorem auN (hs:s<=W) (hj:j+V2<=W) (ho:o.length=(U+1)*(W+1)):∀ k,i+k<=U+1->(mK V1 V2 W x y i j k o).getD (r*(W+1)+s) 0=o.getD (r*(W+1)+s) 0+sm k (fun k=>if i+k=r/\j<=s/\s<j+(V2+1) then x.getD (i*(V1+1)+j) 0*y.getD (k*(V2+1)+(s-j)) 0 else 0)
 | 0,_=>by rw [mK,sm,jC]
 | k+1,h=>by
  rw [mK,au2 (U:=U) i j k J (by rw [akZ];exact ho) _ J r s hs,auN hs hj ho k J,amn];rfl
theorem aqo (hs:s<=W) (hV:V1+V2<=W) (ho:o.length=(U+1)*(W+1)) (hi:i+U2<=U):∀ j,j<=V1+1->(mJ V1 V2 W U2 x y i j o).getD (r*(W+1)+s) 0=o.getD (r*(W+1)+s) 0+sm j (fun j=>sm (U2+1) fun k=>if i+k=r/\j<=s/\s<j+(V2+1) then x.getD (i*(V1+1)+j) 0*y.getD (k*(V2+1)+(s-j)) 0 else 0)
 | 0,_=>by rw [mJ,sm,jC]
 | j+1,h=>by
  rw [mJ,auN (U:=U) i j hs J (by rw [anD];exact ho) _ J,aqo hs hV ho hi j J,amn];rfl
theorem avI {U1:Nat} (hs:s<=W) (hV:V1+V2<=W) (ho:o.length=(U+1)*(W+1)) (hU:U1+U2<=U):∀ i,i<=U1+1->(mI V1 V2 W U2 x y i o).getD (r*(W+1)+s) 0=o.getD (r*(W+1)+s) 0+sm i (fun i=>sm (V1+1) fun j=>sm (U2+1) fun k=>if i+k=r/\j<=s/\s<j+(V2+1) then x.getD (i*(V1+1)+j) 0*y.getD (k*(V2+1)+(s-j)) 0 else 0)
 | 0,_=>by rw [mI,sm,jC]
 | i+1,h=>by
  rw [mI,aqo (U:=U) i hs hV (by rw [aur];exact ho) J _ (bF _),avI hs hV ho hU i J,amn];rfl
end
def tpS (U1 V1 U2 V2:Nat) (a b:List Rat) (r s:Nat):Rat:=sm (U1+1) fun i=>sm (U2+1) fun k=>if i+k=r then cf (sx U1 V1 a i) (sx U2 V2 b k) s else 0
theorem aJG {U1 V1 U2 V2 r s:Nat} {a b:List Rat} (ha:a.length=(U1+1)*(V1+1)) (hb:b.length=(U2+1)*(V2+1)) (hs:s<=V1+V2):(oz U1 V1 U2 V2 a b).getD (r*(V1+V2+1)+s) 0=tpS U1 V1 U2 V2 a b r s:=by
 rw [oz,avI (U:=U1+U2) (U1:=U1) hs (bF _) aW (bF _) _ (bF _),aIH,Rat.zero_add]
 refine afi _ _ _ fun i hi=>?_
 rw [at0]
 refine afi _ _ _ fun k hk=>?_
 by_cases h:i+k=r
 ·rw [if_pos h]
  have hG1:∀ j,V1+1<=j->(fun j=>if j<=s then sx U1 V1 a i j*sx U2 V2 b k (s-j) else 0) j=0:=fun j hj=>by
   show (if j<=s then sx U1 V1 a i j*sx U2 V2 b k (s-j) else 0)=0
   split
   ·rw [aqB ha J J,Rat.zero_mul]
   ·rfl
  have hG2:∀ j,s+1<=j->(fun j=>if j<=s then sx U1 V1 a i j*sx U2 V2 b k (s-j) else 0) j=0:=fun j hj=>if_neg J
  have e:cf (sx U1 V1 a i) (sx U2 V2 b k) s=sm (V1+1) (fun j=>if j<=s then sx U1 V1 a i j*sx U2 V2 b k (s-j) else 0):=by
   rw [<-alO _ _ hG1 (s+1),mH,alO _ _ hG2]
   exact afi _ _ _ fun j hj=>(if_pos J).symm
  rw [e]
  refine afi _ _ _ fun j hj=>?_
  by_cases h2:j<=s
  ·rw [if_pos h2]
   by_cases h3:s<j+(V2+1)
   ·rw [if_pos ⟨h,h2,h3⟩,avV ha J J,avV hb J J]
   ·rw [if_neg J,aqB hb J J,aav]
  ·rw [if_neg h2,if_neg J]
 ·rw [if_neg h]
  exact axP _ _ fun j _=>if_neg J
theorem amm (U1 V1 U2 V2:Nat) (a b:List Rat):(jW U1 V1 U2 V2 a b).length=(U1+U2+1)*(V1+V2+1):=nG _ _
theorem aCd {U1 V1 U2 V2 r s:Nat} {a b:List Rat} (ha:a.length=(U1+1)*(V1+1)) (hb:b.length=(U2+1)*(V2+1)) (hr:r<=U1+U2) (hs:s<=V1+V2):(jW U1 V1 U2 V2 a b).getD (r*(V1+V2+1)+s) 0=tpS U1 V1 U2 V2 a b r s/(cR (U1+U2) r*cR (V1+V2) s):=by
 rw [jW,akt (v9 hr hs),yr,aaP hs,aaA hs,aJG ha hb hs];rfl
section
variable {U1 V1 U2 V2 i k:Nat} {a b:List Rat} (ha:a.length=(U1+1)*(V1+1)) (hb:b.length=(U2+1)*(V2+1)) (hi:i<=U1) (hk:k<=U2)
end
section
variable {U1 V1 U2 V2 R:Nat} {a b:List Rat}
end
theorem aBF {U V:Nat} {c:List Rat} (hc:c.length=(U+1)*(V+1)):(en U V c).length=(U+1)*(V-1+1) :=
 aa3 (W:=V-1) (U:=U) (fun i hi=>alu (nU hc hi)) _ (bF _)
theorem aFk (U V:Nat) (c:List Rat):(eo U V c).length=(U-1+1)*(V+1):=sD _ _ _
theorem agC {B:Nat}:∀ (n:Nat) (f:Nat->Rat),(∀ i,i<n->rl (f i)<=B)->rl (sm n f)<=1+n*(B+1)
 | 0,f,_=>by show rl 0<=_;rw [show rl 0=1 from rfl];omega
 | n+1,f,h=>by
  have h1:=agC n f (fun i hi=>h i J)
  have h2:=h n J
  have h3:=nZ (sm n f) (f n)
  rw [sm,iK];omega
theorem aut {U V:Nat} {c:List Rat} (hc:c.length=(U+1)*(V+1)) (hU:U<=40) (hV:V<=40) (hR:∀ x∈c,rl x<=1073741824):wP U V c U V:=by
 have h1:sw V c V U=c:=by
  rw [sw,ahm (h:=fun p=>p) (fun i hi=>af7 xB) (bF _),agQ,cE J]
 have h2:∀ {p:List Rat} {n:Nat},p.length=n+1->(∀ x∈p,rl x<=1073741824)->nj p n:=fun {p n} hp oP=>⟨oP,fun k hk=>by
  obtain rfl:k=0:=by omega
  exact oP⟩
 refine⟨hc,?_,fun x hx=>bb (hR x hx) ai,bF _,bF _,hU,hV,fun i hi=>h2 (nU hc hi) (fun x hx=>hR x (xV hx)),fun j hj=>?_⟩
 ·rw [hc];exact bb (jG (show U+1<=41 by omega) (show V+1<=41 by omega)) ai
 ·rw [h1]
  exact h2 (nU (sD U V c) hj) (fun x hx=>hR x (amj hc (xV hx)))
theorem aJ0 {U V R:Nat} {c:List Rat} (hc:c.length=(U+1)*(V+1)) (hV:V<=900) (hR:1<=R) (h:∀ x∈c,rl x<=R):∀ x∈en U V c,rl x<=2*R+4 :=
 aaW (U:=U) (fun i hi=>abu hR xB (fun x hx=>h x (xV hx))) (bF _)
theorem aH0 {U V R:Nat} {c:List Rat} (hc:c.length=(U+1)*(V+1)) (hU:U<=900) (hR:1<=R) (h:∀ x∈c,rl x<=R):∀ x∈eo U V c,rl x<=2*R+4 :=
 amZ J (aaW (U:=V) (fun j hj=>abu hR (by rw [nU (sD U V c) hj];omega) (fun x hx=>h x (amj hc (xV hx)))) (bF _))
theorem aJ8 {R:Nat} {p q:List Rat} {g:Rat->Rat->Rat} (hg:∀ a b,rl (g a b)<=rl a+rl b+1) (hR:1<=R) (hp:∀ x∈p,rl x<=R) (hq:∀ x∈q,rl x<=R):∀ x∈nX g p q,rl x<=2*R+1:=fun x hx=>by
 obtain⟨i,_,rfl⟩:=ga.1 hx
 have h1:=gQ hR hp i
 have h2:=gQ hR hq i
 have h3:=hg (p.getD i 0) (q.getD i 0)
 omega
theorem mN:(default:List ar)=[]:=rfl
theorem aIp (d1 d2 d3 d4 sz:Nat) (x1 x2 x3 x4 y1 y2 y3 y4:LV) (Z:Nat->Prop) (μ:Nat->Option Nat) (w:World) (cs:List Value)
  (h:aJ Z μ w (.agg [.agg [x1,y1,.v (.slice none 0 0)],.agg [x2,y2,.v (.slice none 0 0)],.agg [x3,y3,.v (.slice none 0 0)],.agg [x4,y4,.v (.slice none 0 0)]]) cs) :
  aJ Z μ w (.agg [.agg [x1,y1,.ref d1 sz 0 0],.agg [x2,y2,.ref d2 sz 0 0],.agg [x3,y3,.ref d3 sz 0 0],.agg [x4,y4,.ref d4 sz 0 0]]) cs:=by
 rw [aJ] at h ⊢
 simp only [cj] at h ⊢
 obtain⟨a1,b1,e1,l1,g1,a2,b2,e2,l2,g2,a3,b3,e3,l3,g3,a4,b4,e4,l4,g4,e5⟩:=h
 exact⟨a1,b1,e1,l1,vU _ _ _ _ _ _ _ _ g1,a2,b2,e2,l2,vU _ _ _ _ _ _ _ _ g2,a3,b3,e3,l3,vU _ _ _ _ _ _ _ _ g3,a4,b4,e4,l4,vU _ _ _ _ _ _ _ _ g4,e5⟩
theorem aES {rows:List (List ar)} {i:Nat} (h:i<rows.length):rows.drop i=rows.getD i [] :: rows.drop (i+1):=by
 rw [xd h,bE,bY h];rfl
theorem aB5 {po:List ar} {j:Nat} (h:j<po.length):po.drop j=po.getD j default :: po.drop (j+1):=by
 rw [xd h,bE,bY h];rfl
theorem ac9 {rows:List (List ar)} {i:Nat} (h:i<rows.length):rows.getD i []∈rows:=by
 rw [bE,bY h];exact List.getElem_mem h
structure amp (rows:List (List ar)) (R:Nat):Prop where
 ok:∀ r∈rows,∀ q∈r,k5 R q
 n:rows.length<=1000
 m:∀ r∈rows,r.length<=1000
 f:rows.flatten.length<=10000
structure uk (rows:List (List ar)) (i:Nat) (ps:List ar):Prop where
 hi:i<=rows.length
 he:ps++(rows.drop i).flatten=rows.flatten
theorem uk.le {rows:List (List ar)} {i:Nat} {ps:List ar} (h:uk rows i ps):ps.length<=rows.flatten.length:=by
 rw [<-h.he];simp
theorem uk.zero (rows:List (List ar)):uk rows 0 []:=⟨bS _,rfl⟩
theorem uk.last {rows:List (List ar)} {ps:List ar} (h:uk rows rows.length ps):ps=rows.flatten:=by
 have:=h.he
 rwa [ad6,List.flatten_nil,qo] at this
structure vf (rows:List (List ar)) (i j:Nat) (qs:List ar):Prop where
 hi:i<rows.length
 hj:j<=(rows.getD i []).length
 he:qs++((rows.getD i []).drop j++(rows.drop (i+1)).flatten)=rows.flatten
theorem uk.go {rows:List (List ar)} {i:Nat} {ps:List ar} (h:uk rows i ps) (hi:i<rows.length):vf rows i 0 ps:=by
 refine⟨hi,bS _,?_⟩
 have:=h.he
 rwa [aES hi,acO] at this
theorem vf.le {rows:List (List ar)} {i j:Nat} {qs:List ar} (h:vf rows i j qs):qs.length<=rows.flatten.length:=by
 rw [<-h.he];simp
theorem vf.lt {rows:List (List ar)} {i j:Nat} {qs:List ar} (h:vf rows i j qs) (hj:j<(rows.getD i []).length):qs.length<rows.flatten.length:=by
 have:=congrArg List.length h.he
 rw [jS,jS,ni] at this
 omega
theorem vf.next {rows:List (List ar)} {i j:Nat} {qs:List ar} (h:vf rows i j qs) (hj:j<(rows.getD i []).length):vf rows i (j+1) (qs++[(rows.getD i []).getD j default]):=by
 refine⟨h.hi,J,?_⟩
 have:=h.he
 rw [aB5 hj] at this
 rw [<-this];simp
theorem vf.last {rows:List (List ar)} {i:Nat} {qs:List ar} (h:vf rows i (rows.getD i []).length qs):uk rows (i+1) qs:=by
 refine⟨h.hi,?_⟩
 have:=h.he
 rwa [ad6,List.nil_append] at this
theorem anf (po:List ar) (q:ar) (k:Nat):bn po k++[q.w*q.p.at k]=bn (po++[q]) k:=by simp [bn]
theorem aIc (po:List ar) (q:ar):aZ po++[q.w]=aZ (po++[q]):=by simp [aZ]
namespace ar6
theorem aw {p q:Prop} (k:q) (e:p=q:=by simp only [e1,e2,e3,e4,p1,p2,p3,q1,q2,q3,l1,t0,t1,r1,r2,r3,r4,Nat.zero_add,Nat.reduceMul,Nat.reduceAdd,b1,b2,b3,b4,b5,b6,i1,i2,i3,i4,i5,i6,Nat.reduceBEq,a5,afQ,afL,aat,age,ago,afq,agh,afO,dW,nW,aG cN,mN,cn,fo,eO,dW,List.length_cons,List.length_nil,List.nil_append,List.map_nil,List.take_nil,List.append_nil,List.set_cons_zero,List.set_cons_succ,Nat.reduceEqDiff,reduceIte,if_true,if_false,cB,dB,aG aX,aG bz,aG an,cA,cC,LV.kill,bH];exact rfl):p:=e.mpr k
end ar6
open ar6 in
theorem al1 (U V:Nat) (kU kV:List Rat) (rows:List (List ar)) (hU:U<=1000000) (hV:V<=1000000) (R:Nat) (hR:R<=1000000) (hw:amp rows R):ax ak 159 [.agg [ae U,ae V,.list 3 (kU.map aa),.list 3 (kV.map aa),.list 1 (rows.map a5)]] (.agg [.agg [ae U,ae V,.list 3 ((bn rows.flatten 0).map aa)],.agg [ae U,ae V,.list 3 ((bn rows.flatten 1).map aa)],.agg [ae U,ae V,.list 3 ((bn rows.flatten 2).map aa)],.agg [ae U,ae V,.list 3 ((aZ rows.flatten).map aa)]]):=by
 have jg:LV.pure (.agg [ae U,ae V,.list 3 (kU.map aa),.list 3 (kV.map aa),.list 1 (rows.map a5)])=true:=by simp [LV.pure,aK,aP an,aP cN]
 have hwn:=hw.n
 have hwf:=hw.f
 refine aR Tryz.func159 (ht:=(fun g=>LV.cQ g _ aaN)) ?_
 have afQ:True:=trivial
 have afL:True:=trivial
 have aat:True:=trivial
 have age:True:=trivial
 have ago:True:=trivial
 have afq:True:=trivial
 have agh:True:=trivial
 have afO:True:=trivial
 refine nO ?_
 refine bc ?_
 refine ay ?_
 refine bI (b:=_) rfl ai ?_
 refine bh ?_
 refine aeE rfl 8 3 [1,4,5] al rfl ?_
 simp only [rq,uZ,e1,e2,e3,e4,p1,p2,p3,q1,q2,q3,l1,t0,t1,r1,r2,r3,r4,fg,aba,wz,b1,b2,b3,b4,b5,b6,i1,i2,i3,i4,i5,i6,uC,bh7,dh1,dh2,dh3]
 refine bg ?_
 refine afY rfl rfl (fun om h=>by cases h;exact⟨_,_,_,_,_,rfl,rfl⟩) ?_
 simp only [wW,ks]
 refine bw ?_
 refine bc ?_
 refine ay ?_
 refine bI (b:=_) rfl ai ?_
 refine bh ?_
 refine aeE rfl 8 3 [1,4,5] al rfl ?_
 simp only [rq,uZ,e1,e2,e3,e4,p1,p2,p3,q1,q2,q3,l1,t0,t1,r1,r2,r3,r4,fg,aba,wz,b1,b2,b3,b4,b5,b6,i1,i2,i3,i4,i5,i6,uC,bh7,dh1,dh2,dh3]
 refine bg ?_
 refine afY rfl rfl (fun om h=>by cases h;exact⟨_,_,_,_,_,rfl,rfl⟩) ?_
 simp only [wW,ks]
 refine bw ?_
 refine bc ?_
 refine ay ?_
 refine bI (b:=_) rfl ai ?_
 refine bh ?_
 refine aeE rfl 8 3 [1,4,5] al rfl ?_
 simp only [rq,uZ,e1,e2,e3,e4,p1,p2,p3,q1,q2,q3,l1,t0,t1,r1,r2,r3,r4,fg,aba,wz,b1,b2,b3,b4,b5,b6,i1,i2,i3,i4,i5,i6,uC,bh7,dh1,dh2,dh3]
 refine bg ?_
 refine afY rfl rfl (fun om h=>by cases h;exact⟨_,_,_,_,_,rfl,rfl⟩) ?_
 simp only [wW,ks]
 refine bw ?_
 refine bc ?_
 refine ay ?_
 refine bI (b:=_) rfl ai ?_
 refine bh ?_
 refine aeE rfl 8 3 [1,4,5] al rfl ?_
 simp only [rq,uZ,e1,e2,e3,e4,p1,p2,p3,q1,q2,q3,l1,t0,t1,r1,r2,r3,r4,fg,aba,wz,b1,b2,b3,b4,b5,b6,i1,i2,i3,i4,i5,i6,uC,bh7,dh1,dh2,dh3]
 refine bg ?_
 refine afY rfl rfl (fun om h=>by cases h;exact⟨_,_,_,_,_,rfl,rfl⟩) ?_
 simp only [wW,ks]
 refine bw ?_
 refine bc ?_
 refine ay ?_
 refine dp (b:=_) rfl ai ?_
 refine eQ ?_
 refine jm (((az.cell 3 rfl (fun Z μ w cs h=>aIp 1001 1002 1003 1004 3 _ _ _ _ _ _ _ _ Z μ w cs h)).trans ((az.ov _ 1001 3 rfl).trans ((az.ov _ 1002 3 rfl).trans ((az.ov _ 1003 3 rfl).trans (az.ov _ 1004 3 rfl)))))) ?_
 refine iv (fun(i:Nat) (ps:List ar) L=>((((((St.mk L.slot (hp [(1,⟨5,[.agg [ae U,ae V,.list 3 (kU.map aa),.list 3 (kV.map aa),.list 1 (rows.map a5)]],true⟩),(2,⟨12,[.agg [.agg [.v (.int .i64 0),.v (.int .i64 0),.v (.slice none 0 0)],.agg [.v (.int .i64 0),.v (.int .i64 0),.v (.slice none 0 0)],.agg [.v (.int .i64 0),.v (.int .i64 0),.v (.slice none 0 0)],.agg [.v (.int .i64 0),.v (.int .i64 0),.v (.slice none 0 0)]]],true⟩),(3,⟨12,[.agg [.agg [ae U,ae V,.ref 1001 3 0 ps.length],.agg [ae U,ae V,.ref 1002 3 0 ps.length],.agg [ae U,ae V,.ref 1003 3 0 ps.length],.agg [ae U,ae V,.ref 1004 3 0 ps.length]]],true⟩),(1001,⟨3,(bn ps 0).map aa,true⟩),(1002,⟨3,(bn ps 1).map aa,true⟩),(1003,⟨3,(bn ps 2).map aa,true⟩),(1004,⟨3,(aZ ps).map aa,true⟩)])).put (some 2) (.aF 2 12 0 0)).put (some 3) (.aF 3 12 0 0)).put (some 26) (.list 1 (rows.map a5))).put (some 27) (ae rows.length)).put (some 28) (ae i))) (fun i ps=>uk rows i ps) (fun i ps=>rows.length-i) 0 ([]) (uk.zero rows) ?_
 rintro i ps L2 hI
 refine ay ?_
 refine aL rfl ?_ ?_<;>intro aa9 h29
 ·have dq:i<rows.length:=by omega
  refine nc ?_
  refine iv (fun(j:Nat) (qs:List ar) L=>(((((((((St.mk L.slot (hp [(1,⟨5,[.agg [ae U,ae V,.list 3 (kU.map aa),.list 3 (kV.map aa),.list 1 (rows.map a5)]],true⟩),(2,⟨12,[.agg [.agg [.v (.int .i64 0),.v (.int .i64 0),.v (.slice none 0 0)],.agg [.v (.int .i64 0),.v (.int .i64 0),.v (.slice none 0 0)],.agg [.v (.int .i64 0),.v (.int .i64 0),.v (.slice none 0 0)],.agg [.v (.int .i64 0),.v (.int .i64 0),.v (.slice none 0 0)]]],true⟩),(3,⟨12,[.agg [.agg [ae U,ae V,.ref 1001 3 0 qs.length],.agg [ae U,ae V,.ref 1002 3 0 qs.length],.agg [ae U,ae V,.ref 1003 3 0 qs.length],.agg [ae U,ae V,.ref 1004 3 0 qs.length]]],true⟩),(1001,⟨3,(bn qs 0).map aa,true⟩),(1002,⟨3,(bn qs 1).map aa,true⟩),(1003,⟨3,(bn qs 2).map aa,true⟩),(1004,⟨3,(aZ qs).map aa,true⟩)])).put (some 2) (.aF 2 12 0 0)).put (some 3) (.aF 3 12 0 0)).put (some 26) (.list 1 (rows.map a5))).put (some 27) (ae rows.length)).put (some 28) (ae i)).put (some 32) (.list 12 ((rows.getD i []).map bm))).put (some 33) (ae (rows.getD i []).length)).put (some 34) (ae j))) (fun j qs=>vf rows i j qs) (fun j qs=>(rows.getD i []).length-j) 0 ps (hI.go dq) ?_
  rintro j qs L3 hJ
  refine ay ?_
  refine aL rfl ?_ ?_<;>intro wx uK
  ·have dL:j<(rows.getD i []).length:=by omega
   have hJe:=hJ.hj
   have hJl:=hJ.le
   have hJi:=hJ.hi
   have hrm:=ac9 hJi
   have ma:=hw.m _ hrm
   have hqm:=tG dL
   have nE:=hw.ok _ hrm _ hqm
   have hJ2:=hJ.lt dL
   have ago:(bn qs 0)++[((rows.getD i []).getD j default).w*((rows.getD i []).getD j default).p.x]=(bn (qs++[((rows.getD i []).getD j default)]) 0):=anf _ _ 0
   have afq:(bn qs 1)++[((rows.getD i []).getD j default).w*((rows.getD i []).getD j default).p.y]=(bn (qs++[((rows.getD i []).getD j default)]) 1):=anf _ _ 1
   have agh:(bn qs 2)++[((rows.getD i []).getD j default).w*((rows.getD i []).getD j default).p.z]=(bn (qs++[((rows.getD i []).getD j default)]) 2):=anf _ _ 2
   have afO:(aZ qs)++[((rows.getD i []).getD j default).w]=(aZ (qs++[((rows.getD i []).getD j default)])):=aIc _ _
   have afQ:((bn qs 0).map aa).take qs.length=(bn qs 0).map aa:=cE (by rw [eD,qZ];omega)
   have afL:((bn qs 1).map aa).take qs.length=(bn qs 1).map aa:=cE (by rw [eD,qZ];omega)
   have aat:((bn qs 2).map aa).take qs.length=(bn qs 2).map aa:=cE (by rw [eD,qZ];omega)
   have age:((aZ qs).map aa).take qs.length=(aZ qs).map aa:=cE (by rw [eD,vX];omega)
   have iy:=qZ qs 0
   have mi:=qZ qs 1
   have lN:=qZ qs 2
   have vV:=vX qs
   refine eQ ?_
   refine cp aO (ajv ((rows.getD i []).getD j default) R hR nE) ?_
   refine aB ?_
   refine bc ?_
   refine ay ?_
   refine bI (b:=_) rfl ai ?_
   refine dk ?_
   refine eZ 7 [0] al ?_
   refine bf ?_
   refine bO rfl (.fV (d:=1001) (news:=[aa (((rows.getD i []).getD j default).w*((rows.getD i []).getD j default).p.x)]) rfl rfl rfl rfl bq (.inl rfl) ai me me kT dC rfl kX (.inl ⟨50,0,_,rfl,by decide,rfl,rfl,by simp,rfl,by simp [aK,an.pure]⟩) bq bq ai) ?_
   refine ay ?_
   refine bR ((az.kill _ 10).trans (az.kill _ 50)) ?_
   refine aB ?_
   refine bc ?_
   refine ay ?_
   refine bI (b:=_) rfl ai ?_
   refine dk ?_
   refine eZ 7 [0] al ?_
   refine bf ?_
   refine bO rfl (.fV (d:=1002) (news:=[aa (((rows.getD i []).getD j default).w*((rows.getD i []).getD j default).p.y)]) rfl rfl rfl rfl bq (.inl rfl) ai me me kT dC rfl kX (.inl ⟨50,0,_,rfl,by decide,rfl,rfl,by simp,rfl,by simp [aK,an.pure]⟩) bq bq ai) ?_
   refine ay ?_
   refine bR ((az.kill _ 10).trans (az.kill _ 50)) ?_
   refine aB ?_
   refine bc ?_
   refine ay ?_
   refine bI (b:=_) rfl ai ?_
   refine dk ?_
   refine eZ 7 [0] al ?_
   refine bf ?_
   refine bO rfl (.fV (d:=1003) (news:=[aa (((rows.getD i []).getD j default).w*((rows.getD i []).getD j default).p.z)]) rfl rfl rfl rfl bq (.inl rfl) ai me me kT dC rfl kX (.inl ⟨50,0,_,rfl,by decide,rfl,rfl,by simp,rfl,by simp [aK,an.pure]⟩) bq bq ai) ?_
   refine ay ?_
   refine bR ((az.kill _ 10).trans (az.kill _ 50)) ?_
   refine aB ?_
   refine bc ?_
   refine ay ?_
   refine bI (b:=_) rfl ai ?_
   refine dk ?_
   refine eZ 7 [0] al ?_
   refine bf ?_
   refine bO rfl (.fV (d:=1004) (news:=[aa (((rows.getD i []).getD j default).w)]) rfl rfl rfl rfl bq (.inl rfl) ai me me kT dC rfl kX (.inl ⟨50,0,_,rfl,by decide,rfl,rfl,by simp,rfl,by simp [aK,an.pure]⟩) bq bq ai) ?_
   refine ay ?_
   refine bR ((az.kill _ 10).trans (az.kill _ 50)) ?_
   refine aB ?_
   refine bc ?_
   refine ay ?_
   refine dp (b:=_) rfl ai ?_
   refine ay ?_
   refine bR (az.kill _ 8) ?_
   refine ah rfl cu ?_
   refine aQ ?_
   exact fO (j+1) (qs++[((rows.getD i []).getD j default)]) (hJ.next dL)
  ·have hJe:=hJ.hj
   have hJl:=hJ.le
   have hJi:=hJ.hi
   have hrm:=ac9 hJi
   have ma:=hw.m _ hrm
   obtain rfl:j=(rows.getD i []).length:=by omega
   refine bf ?_
   refine ah rfl cu ?_
   refine aQ ?_
   exact fO (i+1) qs hJ.last (hm:=by have:=hJ.hi;omega)
 ·have hIi:=hI.hi
  obtain rfl:i=rows.length:=by omega
  have hE:=hI.last
  subst hE
  refine bw ?_
  exact fi [1001,1002,1003,1004] rfl rfl rfl cs (cr cs rfl) avy (.agg (.cons (.agg (.cons (.pure rfl) (.cons (.pure rfl) (.cons (dH an rfl rfl (qZ _ 0).symm) .nil)))) (.cons (.agg (.cons (.pure rfl) (.cons (.pure rfl) (.cons (dH an rfl rfl (qZ _ 1).symm) .nil)))) (.cons (.agg (.cons (.pure rfl) (.cons (.pure rfl) (.cons (dH an rfl rfl (qZ _ 2).symm) .nil)))) (.cons (.agg (.cons (.pure rfl) (.cons (.pure rfl) (.cons (dH an rfl rfl (vX _).symm) .nil)))) .nil)))))
structure pf (R U V:Nat) (rows:List (List ar)):Prop where
 r1:1<=R
 rB:R<=1000000
 u1:1<=U
 u3:U<=3
 v1:1<=V
 v3:V<=3
 n:rows.length=U+1
 m:∀ r∈rows,r.length=V+1
 ok:∀ r∈rows,∀ q∈r,k5 R q
theorem ayF {rows:List (List ar)} {m:Nat} (h:∀ r∈rows,r.length=m):rows.flatten.length=rows.length*m:=by
 induction rows with
 | nil=>simp
 | cons r rs ih =>
  rw [acO,jS,ih fun x hx=>h x (List.mem_cons_of_mem _ hx),h r (List.mem_cons_self ..),l8,iK,mH]
section
variable {R U V:Nat} {rows:List (List ar)} (h:pf R U V rows)
include h
theorem pf.len:rows.flatten.length=(U+1)*(V+1):=by rw [ayF h.m,h.n]
theorem pf.l16:rows.flatten.length<=16:=by
 rw [h.len]
 have h1:=h.u3
 have h2:=h.v3
 exact bb (jG (show U+1<=4 by omega) (show V+1<=4 by omega)) ai
theorem pf.fok:∀ q∈rows.flatten,k5 R q:=fun q hq=>by
 obtain⟨r,h1,h2⟩:=List.mem_flatten.1 hq
 exact h.ok r h1 q h2
theorem pf.rw:amp rows R:=by
 have h1:=h.u3
 have h2:=h.v3
 have h3:=h.n
 have h4:=h.l16
 exact⟨h.ok,J,fun r hr=>by have:=h.m r hr;omega,J⟩
theorem pf.nl (k:Nat):(bn rows.flatten k).length=(U+1)*(V+1):=by rw [qZ,h.len]
theorem pf.wl:(aZ rows.flatten).length=(U+1)*(V+1):=by rw [vX,h.len]
theorem pf.nr (k:Nat):∀ x∈bn rows.flatten k,rl x<=2*R:=ahO h.fok k
theorem pf.wr:∀ x∈aZ rows.flatten,rl x<=R:=ahv h.fok
end
theorem aqX {U V i j R:Nat} {c:List Rat} (hU:U<=40) (hV:V<=40) (hc:c.length=(U+1)*(V+1)) (hi:i<=U) (hR:1<=R) (h:∀ x∈c,rl x<=R):rl (sx U V c i j)<=R+4:=by
 have h1:=ahT (n:=U) i hU
 have h2:=ahT (n:=V) j hV
 have h3:=gQ (S:=R) hR (fun x hx=>h x (xV (V:=V) (i:=i) hx)) j
 have h4:=cM (cR V j) ((gn V c i).getD j 0)
 have h5:=cM (cR U i) (cR V j*(gn V c i).getD j 0)
 rw [sx,sq,nU hc hi,rO]
 unfold cR at *
 omega
theorem auW {S U1 V1 U2 V2:Nat} {a b:List Rat} (ha:a.length=(U1+1)*(V1+1)) (hb:b.length=(U2+1)*(V2+1)) (hU1:U1<=3) (hV1:V1<=3) (hU2:U2<=3) (hV2:V2<=3) (hS:1<=S) (haR:∀ x∈a,rl x<=S) (x8:∀ x∈b,rl x<=S):∀ x∈jW U1 V1 U2 V2 a b,rl x<=224*S+1200:=by
 intro x hx
 have ht:=amm U1 V1 U2 V2 a b
 obtain⟨k,hk,rfl⟩:=List.getElem_of_mem hx
 rw [ht] at hk
 have h1:k/(V1+V2+1)<U1+U2+1:=alp (by rw [eH];exact hk)
 have h2:=jX k (show V1+V2+1 > 0 by omega)
 have e:k=k/(V1+V2+1)*(V1+V2+1)+k % (V1+V2+1):=by rw [eH];exact(yG k _).symm
 have e2:(jW U1 V1 U2 V2 a b)[k]=(jW U1 V1 U2 V2 a b).getD k 0:=by rw [bE,bY (by rw [ht];exact hk)];rfl
 rw [e2,e]
 generalize k/(V1+V2+1)=r at *
 generalize k % (V1+V2+1)=s at *
 rw [aCd ha hb J J]
 have c1:=ahT (n:=U1+U2) r J
 have c2:=ahT (n:=V1+V2) s J
 have c3:=cM (cR (U1+U2) r) (cR (V1+V2) s)
 have hcf:∀ i,i<U1+1->∀ k,k<U2+1->rl (if i+k=r then cf (sx U1 V1 a i) (sx U2 V2 b k) s else 0)<=14*S+64:=fun i hi k hk=>by
  split
  ·have:=agC (B:=2*S+8) (s+1) (fun j=>sx U1 V1 a i j*sx U2 V2 b k (s-j)) (fun j _=>by
    have g1:=aqX (j:=j) (show U1<=40 by omega) (show V1<=40 by omega) ha (show i<=U1 by omega) hS haR
    have g2:=aqX (j:=s-j) (show U2<=40 by omega) (show V2<=40 by omega) hb (show k<=U2 by omega) hS x8
    have g3:=cM (sx U1 V1 a i j) (sx U2 V2 b k (s-j))
    omega)
   refine bb this ?_
   have:(s+1)*(2*S+8+1)<=7*(2*S+8+1):=jG J (bF _)
   omega
  ·show rl 0<=_
   rw [show rl 0=1 from rfl];omega
 have h3:=agC (B:=56*S+261) (U1+1) _ (fun i hi=>bb (agC (B:=14*S+64) (U2+1) _ (hcf i hi)) (by
  have:(U2+1)*(14*S+64+1)<=4*(14*S+64+1):=jG J (bF _)
  omega))
 have h4:=pH (tpS U1 V1 U2 V2 a b r s) (cR (U1+U2) r*cR (V1+V2) s)
 have h5:rl (tpS U1 V1 U2 V2 a b r s)<=1+(U1+1)*(56*S+261+1):=h3
 have h6:(U1+1)*(56*S+261+1)<=4*(56*S+261+1):=jG J (bF _)
 unfold cR at *
 omega
def dQ (U V Ud Vd:Nat) (D:List Rat->List Rat) (F:List ar) (k:Nat):List Rat:=nX (·-·) (jW Ud Vd U V (D (bn F k)) (aZ F)) (jW U V Ud Vd (bn F k) (D (aZ F)))
structure s7 (U V Ud Vd:Nat) (D:List Rat->List Rat):Prop where
 u:Ud<=3
 v:Vd<=3
 l:∀ c:List Rat,c.length=(U+1)*(V+1)->(D c).length=(Ud+1)*(Vd+1)
 r:∀ (R:Nat) (c:List Rat),1<=R->c.length=(U+1)*(V+1)->(∀ x∈c,rl x<=R)->∀ x∈D c,rl x<=2*R+4
theorem asf {U V:Nat} (hU:U<=3) (hV:V<=3):s7 U V (U-1) V (eo U V) :=
 ⟨J,hV,fun c _=>aFk U V c,fun R c hR hc h=>aH0 (R:=R) hc J hR h⟩
theorem aya {U V:Nat} (hU:U<=3) (hV:V<=3):s7 U V U (V-1) (en U V) :=
 ⟨hU,J,fun c hc=>aBF hc,fun R c hR hc h=>aJ0 (R:=R) hc J hR h⟩
section
variable {R U V Ud Vd:Nat} {rows:List (List ar)} {D:List Rat->List Rat} (h:pf R U V rows) (hd:s7 U V Ud Vd D) (k:Nat)
theorem ad4 (h:pf R U V rows) (hd:s7 U V Ud Vd D) (k:Nat):(jW Ud Vd U V (D (bn rows.flatten k)) (aZ rows.flatten)).length=(Ud+U+1)*(Vd+V+1)/\∀ x∈jW Ud Vd U V (D (bn rows.flatten k)) (aZ rows.flatten),rl x<=900*R+2100 :=
 ⟨amm ..,fun x hx=>by
  have hr:=h.r1
  have:=auW (S:=4*R+4) (hd.l _ (h.nl k)) h.wl hd.u hd.v h.u3 h.v3 J (fun x hx=>by have:=hd.r _ _ (show 1<=2*R by omega) (h.nl k) (h.nr k) x hx;omega) (fun x hx=>by have:=h.wr x hx;omega) x hx
  omega⟩
theorem aiO (h:pf R U V rows) (hd:s7 U V Ud Vd D) (k:Nat):(jW U V Ud Vd (bn rows.flatten k) (D (aZ rows.flatten))).length=(Ud+U+1)*(Vd+V+1)/\∀ x∈jW U V Ud Vd (bn rows.flatten k) (D (aZ rows.flatten)),rl x<=900*R+2100 :=
 ⟨by rw [amm,mH U Ud,mH V Vd],fun x hx=>by
  have hr:=h.r1
  have:=auW (S:=4*R+4) (h.nl k) (hd.l _ h.wl) h.u3 h.v3 hd.u hd.v J (fun x hx=>by have:=h.nr k x hx;omega) (fun x hx=>by have:=hd.r _ _ hr h.wl h.wr x hx;omega) x hx
  omega⟩
theorem aah (h:pf R U V rows) (hd:s7 U V Ud Vd D) (k:Nat):(dQ U V Ud Vd D rows.flatten k).length=(Ud+U+1)*(Vd+V+1):=by rw [dQ,af4];exact(ad4 h hd k).1
theorem uB (h:pf R U V rows) (hd:s7 U V Ud Vd D) (k:Nat):∀ x∈dQ U V Ud Vd D rows.flatten k,rl x<=1800*R+4201:=fun x hx=>by
 have:=aJ8 (R:=900*R+2100) fD J (ad4 h hd k).2 (aiO h hd k).2 x hx
 omega
theorem arn {a b:Nat} (ha:a<=6) (hb:b<=6):(a+1)*(b+1)<=49:=bb (jG (show a+1<=7 by omega) (show b+1<=7 by omega)) ai
theorem adp (h:pf R U V rows) (hd:s7 U V Ud Vd D) (k:Nat):(dQ U V Ud Vd D rows.flatten k).length<=49:=by
 have h1:=h.u3
 have h2:=h.v3
 have h3:=hd.u
 have h4:=hd.v
 rw [aah h hd k]
 exact arn J J
end
def xe (x:Rat):Prop:=rl (1-x)+rl x+1<=20
theorem aij {R U V:Nat} {c:List Rat} {u v:Rat} (hc:c.length=(U+1)*(V+1)) (hU:U<=6) (hV:V<=6) (fa:1<=R) (hR:R<=100000) (h:∀ x∈c,rl x<=R) (hu:xe u) (hv:xe v) :
  (∀ j,j<=V->HS (gn U (gS U V c) j) u)/\HS (yX U V c u) v/\(∀ i,i<=U->HS (gn V c i) v)/\HS (af5 U V c v) u/\rl (gi U V c u v)<=4100*(R+30):=by
 unfold xe at hu hv
 have h1:∀ j,j<=V->∀ x∈gn U (gS U V c) j,rl x<=R:=fun j _ x hx=>h x (amj hc (xV hx))
 have h2:∀ j,j<=V->(gn U (gS U V c) j).length=U+1:=fun j hj=>nU (sD U V c) hj
 have h3:∀ i,i<=U->∀ x∈gn V c i,rl x<=R:=fun j _ x hx=>h x (xV hx)
 have h4:∀ i,i<=U->(gn V c i).length=V+1:=fun j hj=>nU hc hj
 have p6:∀ n,n<=6->2 ^ n<=64:=fun n hn=>Nat.pow_le_pow_right (n:=2) ai hn
 have ahx:∀ x∈yX U V c u,rl x<=(R+20)*64:=aaW (U:=V) (fun j hj x hx=>by
  rw [fP.1 hx]
  have:=al2 (p:=gn U (gS U V c) j) (t:=u) (by rw [h2 j hj];omega) fa (h1 j hj)
  rw [h2 j hj,rO] at this
  exact bb this (jG J (p6 U hU))) (bF _)
 have az3:∀ x∈af5 U V c v,rl x<=(R+20)*64:=aaW (U:=U) (fun i hi x hx=>by
  rw [fP.1 hx]
  have:=al2 (p:=gn V c i) (t:=v) (by rw [h4 i hi];omega) fa (h3 i hi)
  rw [h4 i hi,rO] at this
  exact bb this (jG J (p6 V hV))) (bF _)
 refine⟨fun j hj=>adx (by rw [h2 j hj];omega) (fun y hy=>by have:=h1 j hj y hy;omega) J,adx (by rw [aiz];omega) (fun y hy=>by have:=ahx y hy;omega) J,
  fun j hj=>adx (by rw [h4 j hj];omega) (fun y hy=>by have:=h3 j hj y hy;omega) J,adx (by rw [azq];omega) (fun y hy=>by have:=az3 y hy;omega) J,?_⟩
 have:=al2 (p:=yX U V c u) (t:=v) (by rw [aiz];omega) (show 1<=(R+20)*64 by omega) ahx
 rw [aiz,rO] at this
 refine bb this (bb (jG (show _<=(R+20)*64+20 by omega) (p6 V hV)) ?_)
 omega
open alN in
theorem aoE (d:Nat) (a b:Rat) (ha:rl a<=100) (hb:rl b<=100) (cY:a<b) (h9:d<=6):ax ak 76 [.list 3 ((aA d a b).map aa)] (aD (a,b)):=by
 have jb:=gW d a b
 have cq:=yN d a b
 have iZ:=abo d a b
 have hkp:=cd an 3 (aA d a b)
 have hS:=xN a b J
 rw [ajx cY,ahV cY] at hS
 refine aR Tryz.func76 ?_
 refine dk ?_
 refine aL rfl ?_ ?_<;>intro h5r h5
 ·omega
 ·refine aQ ?_
  refine aY 10 al ?_
  refine ay ?_
  refine ah rfl nh ?_
  refine aH ?_
  try simp only [t1,cn,jb,cq,iZ,eD]
  refine cp au (hS) ?_
  refine aB ?_
  exact od
namespace aas
theorem aw {p q:Prop} (k:q) (e:p=q:=by simp only [e1,e2,e3,e4,p1,p2,p3,q1,q2,q3,l1,t0,t1,r1,r2,r3,r4,Nat.zero_add,Nat.reduceMul,Nat.reduceAdd,b1,b2,b3,b4,b5,b6,i1,i2,i3,i4,i5,i6,Nat.reduceBEq,nW,aG cN,mN,cn,fo,eO,dW,List.length_cons,List.length_nil,List.nil_append,List.map_nil,List.take_nil,List.append_nil,List.set_cons_zero,List.set_cons_succ,Nat.reduceEqDiff,reduceIte,if_true,if_false,cB,dB,aG aX,aG bz,aG an,cA,cC,LV.kill,bH];exact rfl):p:=e.mpr k
end aas
open aas in
theorem aet (U V:Nat) (ua ub va vb:Rat) (rows:List (List ar)) (vG:rl ua<=100) (hub:rl ub<=100) (r9:rl va<=100) (zd:rl vb<=100) (hu:ua<ub) (hv:va<vb) (hU:U<=6) (hV:V<=6):ax ak 36 [.agg [ae U,ae V,.list 3 ((aA U ua ub).map aa),.list 3 ((aA V va vb).map aa),.list 1 (rows.map a5)]] (.a9 [aD (ua,ub),aD (va,vb)]):=by
 have jg:LV.pure (.agg [ae U,ae V,.list 3 ((aA U ua ub).map aa),.list 3 ((aA V va vb).map aa),.list 1 (rows.map a5)])=true:=by simp [LV.pure,aK,aP an,aP cN]
 have xZ:=cd an 3 (aA U ua ub)
 have uY:=cd an 3 (aA V va vb)
 refine aR Tryz.func36 (ht:=(iF (bl.pure _) (bl.pure _))) ?_
 refine bg ?_
 refine aY 6 al ?_
 refine aH ?_
 refine cp aO (aoE U ua ub vG hub hu hU) ?_
 refine aH ?_
 refine cp aO (aoE V va vb r9 zd hv hV) ?_
 refine a7 ?_
 exact afP [] rfl rfl rfl (bl.av _) (wi _) jM (.pure (bl.pure _)) rfl rfl (bl.av _) (wi _) jM (.pure (bl.pure _))
open ig in
theorem ayb (a b t:Rat) (ha:rl a<=100) (hb:rl b<=100) (cY:a<b) (ht:rl t<=100) (hi:jr (a,b) t=true):ax ak 254 [aD (a,b),aa t] (.a9 [aa ((t-a)/(b-a)),aa (b-a),bL true]):=by
 have qG:=fD t a
 have r7:=fD b a
 have hW:ax ak 137 [aD (a,b)] (aa (b-a)):=abF (a,b) (by show rl b+rl a<=_;omega)
 have hQ:ax ak 180 [aa (t-a),aa (b-a)] (.a9 [aa ((t-a)/(b-a)),iL 0]):=by
  have:=sH (t-a) (b-a) J
  rwa [if_neg dz] at this
 have hH:ax ak 91 [aD (a,b),aa t] (bL true):=by
  have:=adP (a,b) t (by show rl a+rl t<=_;omega) (by show rl t+rl b<=_;omega)
  rwa [hi] at this
 refine aR Tryz.func254 (ht:=(ac6 (an.pure _) (an.pure _) rfl)) ?_
 refine df ?_
 refine cp au (hH) ?_
 refine aQ ?_
 refine aL rfl ?_ ?_<;>intro acj yc
 ·first | exact yc.elim | cases acj
 ·refine a7 ?_
  refine cp aO (hW) ?_
  refine aB ?_
  refine eZ 9 [8] al ?_
  refine aQ ?_
  refine cp au (oW t a J) ?_
  refine ao ?_
  refine cp au (hQ) ?_
  refine bg ?_
  refine ahp ?_
  refine ab6 0 1 2 _ _ _ al rfl rfl rfl ?_ ?_ ?_
  ·refine ao ?_
   refine aC ?_
   refine ab6 1 2 4 _ _ _ al rfl rfl rfl ?_ ?_ ?_
   ·refine ao ?_
    refine aC ?_
    refine eG 2 4 _ _ al rfl rfl ?_ ?_
    ·refine ao ?_
     refine aC ?_
     refine eG 3 4 _ _ al rfl rfl ?_ ?_
     ·refine ao ?_
      refine aC ?_
      refine aS 4 _ al rfl ?_
      refine ao ?_
      refine aC ?_
      refine aS 5 _ al rfl ?_
      refine ao ?_
      refine aC ?_
      refine aS 6 _ al rfl ?_
      refine ao ?_
      refine aC ?_
      refine dt al ?_
      refine aH ?_
      exact fq
     ·refine ao ?_
      refine aC ?_
      refine eG 3 5 _ _ al rfl rfl ?_ ?_
      ·refine ao ?_
       refine aC ?_
       refine aS 5 _ al rfl ?_
       refine ao ?_
       refine aC ?_
       refine aS 6 _ al rfl ?_
       refine ao ?_
       refine aC ?_
       refine dt al ?_
       refine aH ?_
       exact fq
      ·refine ao ?_
       refine aC ?_
       refine aS 3 _ al rfl ?_
       refine ao ?_
       refine aC ?_
       refine aS 6 _ al rfl ?_
       refine ao ?_
       refine aC ?_
       refine dt al ?_
       refine aH ?_
       exact fq
    ·refine ao ?_
     refine aC ?_
     refine eG 2 5 _ _ al rfl rfl ?_ ?_
     ·refine ao ?_
      refine aC ?_
      refine eG 3 5 _ _ al rfl rfl ?_ ?_
      ·refine ao ?_
       refine aC ?_
       refine aS 5 _ al rfl ?_
       refine ao ?_
       refine aC ?_
       refine aS 6 _ al rfl ?_
       refine ao ?_
       refine aC ?_
       refine dt al ?_
       refine aH ?_
       exact fq
      ·refine ao ?_
       refine aC ?_
       refine aS 3 _ al rfl ?_
       refine ao ?_
       refine aC ?_
       refine aS 6 _ al rfl ?_
       refine ao ?_
       refine aC ?_
       refine dt al ?_
       refine aH ?_
       exact fq
     ·refine ao ?_
      refine aC ?_
      refine aS 2 _ al rfl ?_
      refine ao ?_
      refine aC ?_
      refine aS 3 _ al rfl ?_
      refine ao ?_
      refine aC ?_
      refine aS 6 _ al rfl ?_
      refine ao ?_
      refine aC ?_
      refine dt al ?_
      refine aH ?_
      exact fq
   ·refine ao ?_
    refine aC ?_
    refine ab6 1 3 4 _ _ _ al rfl rfl rfl ?_ ?_ ?_
    ·refine ao ?_
     refine aC ?_
     refine eG 3 4 _ _ al rfl rfl ?_ ?_
     ·refine ao ?_
      refine aC ?_
      refine aS 4 _ al rfl ?_
      refine ao ?_
      refine aC ?_
      refine aS 5 _ al rfl ?_
      refine ao ?_
      refine aC ?_
      refine aS 6 _ al rfl ?_
      refine ao ?_
      refine aC ?_
      refine dt al ?_
      refine aH ?_
      exact fq
     ·refine ao ?_
      refine aC ?_
      refine eG 3 5 _ _ al rfl rfl ?_ ?_
      ·refine ao ?_
       refine aC ?_
       refine aS 5 _ al rfl ?_
       refine ao ?_
       refine aC ?_
       refine aS 6 _ al rfl ?_
       refine ao ?_
       refine aC ?_
       refine dt al ?_
       refine aH ?_
       exact fq
      ·refine ao ?_
       refine aC ?_
       refine aS 3 _ al rfl ?_
       refine ao ?_
       refine aC ?_
       refine aS 6 _ al rfl ?_
       refine ao ?_
       refine aC ?_
       refine dt al ?_
       refine aH ?_
       exact fq
    ·refine ao ?_
     refine aC ?_
     refine eG 1 4 _ _ al rfl rfl ?_ ?_
     ·refine ao ?_
      refine aC ?_
      refine aS 4 _ al rfl ?_
      refine ao ?_
      refine aC ?_
      refine aS 5 _ al rfl ?_
      refine ao ?_
      refine aC ?_
      refine aS 6 _ al rfl ?_
      refine ao ?_
      refine aC ?_
      refine dt al ?_
      refine aH ?_
      exact fq
     ·refine ao ?_
      refine aC ?_
      refine aS 1 _ al rfl ?_
      refine ao ?_
      refine aC ?_
      refine aS 5 _ al rfl ?_
      refine ao ?_
      refine aC ?_
      refine aS 6 _ al rfl ?_
      refine ao ?_
      refine aC ?_
      refine dt al ?_
      refine aH ?_
      exact fq
    ·refine ao ?_
     refine aC ?_
     refine eG 1 3 _ _ al rfl rfl ?_ ?_
     ·refine ao ?_
      refine aC ?_
      refine eG 3 5 _ _ al rfl rfl ?_ ?_
      ·refine ao ?_
       refine aC ?_
       refine aS 5 _ al rfl ?_
       refine ao ?_
       refine aC ?_
       refine aS 6 _ al rfl ?_
       refine ao ?_
       refine aC ?_
       refine dt al ?_
       refine aH ?_
       exact fq
      ·refine ao ?_
       refine aC ?_
       refine aS 3 _ al rfl ?_
       refine ao ?_
       refine aC ?_
       refine aS 6 _ al rfl ?_
       refine ao ?_
       refine aC ?_
       refine dt al ?_
       refine aH ?_
       exact fq
     ·refine ao ?_
      refine aC ?_
      refine aS 1 _ al rfl ?_
      refine ao ?_
      refine aC ?_
      refine aS 5 _ al rfl ?_
      refine ao ?_
      refine aC ?_
      refine aS 6 _ al rfl ?_
      refine ao ?_
      refine aC ?_
      refine dt al ?_
      refine aH ?_
      exact fq
   ·refine ao ?_
    refine aC ?_
    refine eG 1 2 _ _ al rfl rfl ?_ ?_
    ·refine ao ?_
     refine aC ?_
     refine eG 2 5 _ _ al rfl rfl ?_ ?_
     ·refine ao ?_
      refine aC ?_
      refine eG 3 5 _ _ al rfl rfl ?_ ?_
      ·refine ao ?_
       refine aC ?_
       refine aS 5 _ al rfl ?_
       refine ao ?_
       refine aC ?_
       refine aS 6 _ al rfl ?_
       refine ao ?_
       refine aC ?_
       refine dt al ?_
       refine aH ?_
       exact fq
      ·refine ao ?_
       refine aC ?_
       refine aS 3 _ al rfl ?_
       refine ao ?_
       refine aC ?_
       refine aS 6 _ al rfl ?_
       refine ao ?_
       refine aC ?_
       refine dt al ?_
       refine aH ?_
       exact fq
     ·refine ao ?_
      refine aC ?_
      refine aS 2 _ al rfl ?_
      refine ao ?_
      refine aC ?_
      refine aS 3 _ al rfl ?_
      refine ao ?_
      refine aC ?_
      refine aS 6 _ al rfl ?_
      refine ao ?_
      refine aC ?_
      refine dt al ?_
      refine aH ?_
      exact fq
    ·refine ao ?_
     refine aC ?_
     refine eG 1 3 _ _ al rfl rfl ?_ ?_
     ·refine ao ?_
      refine aC ?_
      refine eG 3 5 _ _ al rfl rfl ?_ ?_
      ·refine ao ?_
       refine aC ?_
       refine aS 5 _ al rfl ?_
       refine ao ?_
       refine aC ?_
       refine aS 6 _ al rfl ?_
       refine ao ?_
       refine aC ?_
       refine dt al ?_
       refine aH ?_
       exact fq
      ·refine ao ?_
       refine aC ?_
       refine aS 3 _ al rfl ?_
       refine ao ?_
       refine aC ?_
       refine aS 6 _ al rfl ?_
       refine ao ?_
       refine aC ?_
       refine dt al ?_
       refine aH ?_
       exact fq
     ·refine ao ?_
      refine aC ?_
      refine aS 1 _ al rfl ?_
      refine ao ?_
      refine aC ?_
      refine aS 5 _ al rfl ?_
      refine ao ?_
      refine aC ?_
      refine aS 6 _ al rfl ?_
      refine ao ?_
      refine aC ?_
      refine dt al ?_
      refine aH ?_
      exact fq
  ·refine ao ?_
   refine aC ?_
   refine eG 0 2 _ _ al rfl rfl ?_ ?_
   ·refine ao ?_
    refine aC ?_
    refine eG 2 4 _ _ al rfl rfl ?_ ?_
    ·refine ao ?_
     refine aC ?_
     refine eG 3 4 _ _ al rfl rfl ?_ ?_
     ·refine ao ?_
      refine aC ?_
      refine aS 4 _ al rfl ?_
      refine ao ?_
      refine aC ?_
      refine aS 5 _ al rfl ?_
      refine ao ?_
      refine aC ?_
      refine aS 6 _ al rfl ?_
      refine ao ?_
      refine aC ?_
      refine dt al ?_
      refine aH ?_
      exact fq
     ·refine ao ?_
      refine aC ?_
      refine eG 3 5 _ _ al rfl rfl ?_ ?_
      ·refine ao ?_
       refine aC ?_
       refine aS 5 _ al rfl ?_
       refine ao ?_
       refine aC ?_
       refine aS 6 _ al rfl ?_
       refine ao ?_
       refine aC ?_
       refine dt al ?_
       refine aH ?_
       exact fq
      ·refine ao ?_
       refine aC ?_
       refine aS 3 _ al rfl ?_
       refine ao ?_
       refine aC ?_
       refine aS 6 _ al rfl ?_
       refine ao ?_
       refine aC ?_
       refine dt al ?_
       refine aH ?_
       exact fq
    ·refine ao ?_
     refine aC ?_
     refine eG 2 5 _ _ al rfl rfl ?_ ?_
     ·refine ao ?_
      refine aC ?_
      refine eG 3 5 _ _ al rfl rfl ?_ ?_
      ·refine ao ?_
       refine aC ?_
       refine aS 5 _ al rfl ?_
       refine ao ?_
       refine aC ?_
       refine aS 6 _ al rfl ?_
       refine ao ?_
       refine aC ?_
       refine dt al ?_
       refine aH ?_
       exact fq
      ·refine ao ?_
       refine aC ?_
       refine aS 3 _ al rfl ?_
       refine ao ?_
       refine aC ?_
       refine aS 6 _ al rfl ?_
       refine ao ?_
       refine aC ?_
       refine dt al ?_
       refine aH ?_
       exact fq
     ·refine ao ?_
      refine aC ?_
      refine aS 2 _ al rfl ?_
      refine ao ?_
      refine aC ?_
      refine aS 3 _ al rfl ?_
      refine ao ?_
      refine aC ?_
      refine aS 6 _ al rfl ?_
      refine ao ?_
      refine aC ?_
      refine dt al ?_
      refine aH ?_
      exact fq
   ·refine ao ?_
    refine aC ?_
    refine eG 0 3 _ _ al rfl rfl ?_ ?_
    ·refine ao ?_
     refine aC ?_
     refine eG 3 4 _ _ al rfl rfl ?_ ?_
     ·refine ao ?_
      refine aC ?_
      refine aS 4 _ al rfl ?_
      refine ao ?_
      refine aC ?_
      refine aS 5 _ al rfl ?_
      refine ao ?_
      refine aC ?_
      refine aS 6 _ al rfl ?_
      refine ao ?_
      refine aC ?_
      refine dt al ?_
      refine aH ?_
      exact fq
     ·refine ao ?_
      refine aC ?_
      refine eG 3 5 _ _ al rfl rfl ?_ ?_
      ·refine ao ?_
       refine aC ?_
       refine aS 5 _ al rfl ?_
       refine ao ?_
       refine aC ?_
       refine aS 6 _ al rfl ?_
       refine ao ?_
       refine aC ?_
       refine dt al ?_
       refine aH ?_
       exact fq
      ·refine ao ?_
       refine aC ?_
       refine aS 3 _ al rfl ?_
       refine ao ?_
       refine aC ?_
       refine aS 6 _ al rfl ?_
       refine ao ?_
       refine aC ?_
       refine dt al ?_
       refine aH ?_
       exact fq
    ·refine ao ?_
     refine aC ?_
     refine aS 0 _ al rfl ?_
     refine ao ?_
     refine aC ?_
     refine aS 4 _ al rfl ?_
     refine ao ?_
     refine aC ?_
     refine aS 5 _ al rfl ?_
     refine ao ?_
     refine aC ?_
     refine aS 6 _ al rfl ?_
     refine ao ?_
     refine aC ?_
     refine dt al ?_
     refine aH ?_
     exact fq
  ·refine ao ?_
   refine aC ?_
   refine ab6 0 1 3 _ _ _ al rfl rfl rfl ?_ ?_ ?_
   ·refine ao ?_
    refine aC ?_
    refine ab6 1 3 4 _ _ _ al rfl rfl rfl ?_ ?_ ?_
    ·refine ao ?_
     refine aC ?_
     refine eG 3 4 _ _ al rfl rfl ?_ ?_
     ·refine ao ?_
      refine aC ?_
      refine aS 4 _ al rfl ?_
      refine ao ?_
      refine aC ?_
      refine aS 5 _ al rfl ?_
      refine ao ?_
      refine aC ?_
      refine aS 6 _ al rfl ?_
      refine ao ?_
      refine aC ?_
      refine dt al ?_
      refine aH ?_
      exact fq
     ·refine ao ?_
      refine aC ?_
      refine eG 3 5 _ _ al rfl rfl ?_ ?_
      ·refine ao ?_
       refine aC ?_
       refine aS 5 _ al rfl ?_
       refine ao ?_
       refine aC ?_
       refine aS 6 _ al rfl ?_
       refine ao ?_
       refine aC ?_
       refine dt al ?_
       refine aH ?_
       exact fq
      ·refine ao ?_
       refine aC ?_
       refine aS 3 _ al rfl ?_
       refine ao ?_
       refine aC ?_
       refine aS 6 _ al rfl ?_
       refine ao ?_
       refine aC ?_
       refine dt al ?_
       refine aH ?_
       exact fq
    ·refine ao ?_
     refine aC ?_
     refine eG 1 4 _ _ al rfl rfl ?_ ?_
     ·refine ao ?_
      refine aC ?_
      refine aS 4 _ al rfl ?_
      refine ao ?_
      refine aC ?_
      refine aS 5 _ al rfl ?_
      refine ao ?_
      refine aC ?_
      refine aS 6 _ al rfl ?_
      refine ao ?_
      refine aC ?_
      refine dt al ?_
      refine aH ?_
      exact fq
     ·refine ao ?_
      refine aC ?_
      refine aS 1 _ al rfl ?_
      refine ao ?_
      refine aC ?_
      refine aS 5 _ al rfl ?_
      refine ao ?_
      refine aC ?_
      refine aS 6 _ al rfl ?_
      refine ao ?_
      refine aC ?_
      refine dt al ?_
      refine aH ?_
      exact fq
    ·refine ao ?_
     refine aC ?_
     refine eG 1 3 _ _ al rfl rfl ?_ ?_
     ·refine ao ?_
      refine aC ?_
      refine eG 3 5 _ _ al rfl rfl ?_ ?_
      ·refine ao ?_
       refine aC ?_
       refine aS 5 _ al rfl ?_
       refine ao ?_
       refine aC ?_
       refine aS 6 _ al rfl ?_
       refine ao ?_
       refine aC ?_
       refine dt al ?_
       refine aH ?_
       exact fq
      ·refine ao ?_
       refine aC ?_
       refine aS 3 _ al rfl ?_
       refine ao ?_
       refine aC ?_
       refine aS 6 _ al rfl ?_
       refine ao ?_
       refine aC ?_
       refine dt al ?_
       refine aH ?_
       exact fq
     ·refine ao ?_
      refine aC ?_
      refine aS 1 _ al rfl ?_
      refine ao ?_
      refine aC ?_
      refine aS 5 _ al rfl ?_
      refine ao ?_
      refine aC ?_
      refine aS 6 _ al rfl ?_
      refine ao ?_
      refine aC ?_
      refine dt al ?_
      refine aH ?_
      exact fq
   ·refine ao ?_
    refine aC ?_
    refine eG 0 3 _ _ al rfl rfl ?_ ?_
    ·refine ao ?_
     refine aC ?_
     refine eG 3 4 _ _ al rfl rfl ?_ ?_
     ·refine ao ?_
      refine aC ?_
      refine aS 4 _ al rfl ?_
      refine ao ?_
      refine aC ?_
      refine aS 5 _ al rfl ?_
      refine ao ?_
      refine aC ?_
      refine aS 6 _ al rfl ?_
      refine ao ?_
      refine aC ?_
      refine dt al ?_
      refine aH ?_
      exact fq
     ·refine ao ?_
      refine aC ?_
      refine eG 3 5 _ _ al rfl rfl ?_ ?_
      ·refine ao ?_
       refine aC ?_
       refine aS 5 _ al rfl ?_
       refine ao ?_
       refine aC ?_
       refine aS 6 _ al rfl ?_
       refine ao ?_
       refine aC ?_
       refine dt al ?_
       refine aH ?_
       exact fq
      ·refine ao ?_
       refine aC ?_
       refine aS 3 _ al rfl ?_
       refine ao ?_
       refine aC ?_
       refine aS 6 _ al rfl ?_
       refine ao ?_
       refine aC ?_
       refine dt al ?_
       refine aH ?_
       exact fq
    ·refine ao ?_
     refine aC ?_
     refine aS 0 _ al rfl ?_
     refine ao ?_
     refine aC ?_
     refine aS 4 _ al rfl ?_
     refine ao ?_
     refine aC ?_
     refine aS 5 _ al rfl ?_
     refine ao ?_
     refine aC ?_
     refine aS 6 _ al rfl ?_
     refine ao ?_
     refine aC ?_
     refine dt al ?_
     refine aH ?_
     exact fq
   ·refine ao ?_
    refine aC ?_
    refine eG 0 1 _ _ al rfl rfl ?_ ?_
    ·refine ao ?_
     refine aC ?_
     refine eG 1 4 _ _ al rfl rfl ?_ ?_
     ·refine ao ?_
      refine aC ?_
      refine aS 4 _ al rfl ?_
      refine ao ?_
      refine aC ?_
      refine aS 5 _ al rfl ?_
      refine ao ?_
      refine aC ?_
      refine aS 6 _ al rfl ?_
      refine ao ?_
      refine aC ?_
      refine dt al ?_
      refine aH ?_
      exact fq
     ·refine ao ?_
      refine aC ?_
      refine aS 1 _ al rfl ?_
      refine ao ?_
      refine aC ?_
      refine aS 5 _ al rfl ?_
      refine ao ?_
      refine aC ?_
      refine aS 6 _ al rfl ?_
      refine ao ?_
      refine aC ?_
      refine dt al ?_
      refine aH ?_
      exact fq
    ·refine ao ?_
     refine aC ?_
     refine aS 0 _ al rfl ?_
     refine ao ?_
     refine aC ?_
     refine aS 4 _ al rfl ?_
     refine ao ?_
     refine aC ?_
     refine aS 5 _ al rfl ?_
     refine ao ?_
     refine aC ?_
     refine aS 6 _ al rfl ?_
     refine ao ?_
     refine aC ?_
     refine dt al ?_
     refine aH ?_
     exact fq
def jj (p q:V3):V3:=⟨p.y*q.z-p.z*q.y,p.z*q.x-p.x*q.z,p.x*q.y-p.y*q.x⟩
theorem z7 {R:Nat} {p q:V3} (hp:cP R p) (hq:cP R q):cP (4*R+5) (jj p q):=by
 obtain⟨a1,a2,a3⟩:=hp
 obtain⟨b1,b2,b3⟩:=hq
 have g:∀ a b c d:Rat,rl a<=R->rl b<=R->rl c<=R->rl d<=R->rl (a*b-c*d)<=4*R+5:=fun a b c d h1 h2 h3 h4=>by
  have m1:=cM a b
  have m2:=cM c d
  have m3:=fD (a*b) (c*d)
  omega
 exact⟨g _ _ _ _ a2 b3 a3 b2,g _ _ _ _ a3 b1 a1 b3,g _ _ _ _ a1 b2 a2 b1⟩
def vS (s t:Rat × Rat):Rat × Rat:=(s.1-t.2,s.2-t.1)
theorem aiC {R S:Nat} {s t:Rat × Rat} (hs:dg R s) (ht:dg S t):dg (R+S+1) (vS s t):=by
 have m1:=fD s.1 t.2
 have m2:=fD s.2 t.1
 exact⟨by show rl (s.1-t.2)<=_;have:=hs.1;have:=ht.2;omega,by show rl (s.2-t.1)<=_;have:=hs.2;have:=ht.1;omega⟩
open ig in
theorem ah4 (p q:V3) (R:Nat) (hR:R<=1000000000) (hp:cP R p) (hq:cP R q):ax ak 196 [aE p,aE q] (aE (jj p q)):=by
 obtain⟨a1,a2,a3⟩:=hp
 obtain⟨y1,y2,y3⟩:=hq
 have m01:=cM p.x q.y
 have m02:=cM p.x q.z
 have m10:=cM p.y q.x
 have m12:=cM p.y q.z
 have m20:=cM p.z q.x
 have m21:=cM p.z q.y
 refine aR Tryz.func196 (ht:=(fun r=>LV.cQ r _ (aX.pure _))) ?_
 refine nc ?_
 refine bc ?_
 refine ay ?_
 refine bI (b:=_) rfl ai ?_
 refine dk ?_
 refine ah rfl (.bin rfl rfl (show dM .add .i64 0 1=some (.int .i64 ((1:Nat):Int)) from rfl)) ?_
 refine ah rfl (.bin rfl rfl (show dM .rem .i64 1 3=some (.int .i64 ((1:Nat):Int)) from rfl)) ?_
 refine ao ?_
 refine ah rfl (.bin rfl rfl (show dM .add .i64 0 2=some (.int .i64 ((2:Nat):Int)) from rfl)) ?_
 refine ah rfl (.bin rfl rfl (show dM .rem .i64 2 3=some (.int .i64 ((2:Nat):Int)) from rfl)) ?_
 refine aB ?_
 refine aY 17 al ?_
 refine bf ?_
 refine cp au (ef p.y q.z J) ?_
 refine ay ?_
 refine cp au (ef p.z q.y J) ?_
 refine cp au (oW (p.y*q.z) (p.z*q.y) J) ?_
 refine bh ?_
 refine bc ?_
 refine ay ?_
 refine bI (b:=_) rfl ai ?_
 refine dk ?_
 refine ah rfl (.bin rfl rfl (show dM .add .i64 1 1=some (.int .i64 ((2:Nat):Int)) from rfl)) ?_
 refine ah rfl (.bin rfl rfl (show dM .rem .i64 2 3=some (.int .i64 ((2:Nat):Int)) from rfl)) ?_
 refine ao ?_
 refine ah rfl (.bin rfl rfl (show dM .add .i64 1 2=some (.int .i64 ((3:Nat):Int)) from rfl)) ?_
 refine ah rfl (.bin rfl rfl (show dM .rem .i64 3 3=some (.int .i64 ((0:Nat):Int)) from rfl)) ?_
 refine aB ?_
 refine aY 17 al ?_
 refine bf ?_
 refine cp au (ef p.z q.x J) ?_
 refine ay ?_
 refine cp au (ef p.x q.z J) ?_
 refine cp au (oW (p.z*q.x) (p.x*q.z) J) ?_
 refine bh ?_
 refine bc ?_
 refine ay ?_
 refine bI (b:=_) rfl ai ?_
 refine dk ?_
 refine ah rfl (.bin rfl rfl (show dM .add .i64 2 1=some (.int .i64 ((3:Nat):Int)) from rfl)) ?_
 refine ah rfl (.bin rfl rfl (show dM .rem .i64 3 3=some (.int .i64 ((0:Nat):Int)) from rfl)) ?_
 refine ao ?_
 refine ah rfl (.bin rfl rfl (show dM .add .i64 2 2=some (.int .i64 ((4:Nat):Int)) from rfl)) ?_
 refine ah rfl (.bin rfl rfl (show dM .rem .i64 4 3=some (.int .i64 ((1:Nat):Int)) from rfl)) ?_
 refine aB ?_
 refine aY 17 al ?_
 refine bf ?_
 refine cp au (ef p.x q.y J) ?_
 refine ay ?_
 refine cp au (ef p.y q.x J) ?_
 refine cp au (oW (p.x*q.y) (p.y*q.x) J) ?_
 refine bh ?_
 refine bc ?_
 refine ay ?_
 refine dp (b:=_) rfl ai ?_
 refine bw ?_
 exact yI
open ig in
theorem amA (s t:Rat × Rat) (R:Nat) (hR:R<=1000000000) (hs:dg R s) (ht:dg R t):ax ak 169 [aD s,aD t] (aD (vS s t)):=by
 obtain⟨a1,a2⟩:=hs
 obtain⟨y1,y2⟩:=ht
 refine aR Tryz.func169 ?_
 refine bg ?_
 refine aY 11 al ?_
 refine aB ?_
 refine cp au (oW s.1 t.2 J) ?_
 refine aB ?_
 refine cp au (oW s.2 t.1 J) ?_
 refine a7 ?_
 exact od
theorem abb {a b:Nat} (ha:a<=3) (hb:b<=3):(a+1)*(b+1)<=16:=bb (jG (show a+1<=4 by omega) (show b+1<=4 by omega)) ai
theorem azt {a b c d x:Nat} (ha:a<=3) (hb:b<=3) (hc:c<=3) (hd:d<=3):(a+1)*((b+1)*((c+1)*((d+1)*x)))<=256*x:=by
 have h1:(d+1)*x<=4*x:=eT _ J
 have h2:(c+1)*((d+1)*x)<=4*(4*x):=jG J h1
 have h3:(b+1)*((c+1)*((d+1)*x))<=4*(4*(4*x)):=jG J h2
 have h4:(a+1)*((b+1)*((c+1)*((d+1)*x)))<=4*(4*(4*(4*x))):=jG J h3
 omega
open ig in
theorem acu (U1 V1 U2 V2:Nat) (a b:List Rat) (ha:a.length=(U1+1)*(V1+1)) (hb:b.length=(U2+1)*(V2+1)) (hU1:U1<=3) (hV1:V1<=3) (hU2:U2<=3) (hV2:V2<=3) (S:Nat) (pg:1<=S) (hS:S<=1000000) (haR:∀ x∈a,rl x<=S) (x8:∀ x∈b,rl x<=S):ax ak 226 [.agg [ae U1,ae V1,.list 3 (a.map aa)],.agg [ae U2,ae V2,.list 3 (b.map aa)]] (.agg [ae (U1+U2),ae (V1+V2),.list 3 ((jW U1 V1 U2 V2 a b).map aa)]):=by
 have wM:=abb hU1 hV1
 have oN:=abb hU2 hV2
 have mi:=dJ U1 V1 a
 have lN:=dJ U2 V2 b
 have nH:=azt (x:=2*S+14) hU1 hV1 hU2 hV2
 have vV:=dJ (U1+U2) (V1+V2) (jW U1 V1 U2 V2 a b)
 refine aR Tryz.func226 (ht:=(fun g=>LV.cQ g _ (dJ _ _ _))) ?_
 refine bC ?_
 refine cp au (aIS U1 V1 U2 V2 a b ha hb J J J J S pg hS J haR x8) ?_
 refine eQ ?_
 exact acs
theorem amY (U V:Nat) (a b:List Rat) (hU:U<=40) (hV:V<=40) (ha:a.length=(U+1)*(V+1)) (hb:b.length=(U+1)*(V+1)) (haR:∀ x∈a,rl x<=500000000) (x8:∀ x∈b,rl x<=500000000):ax ak 225 [.agg [ae U,ae V,.list 3 (a.map aa)],.agg [ae U,ae V,.list 3 (b.map aa)]] (.agg [ae U,ae V,.list 3 ((nX (·-·) a b).map aa)]):=by
 have:=aCk U V U V a b U V (aut ha hU hV fun x hx=>by have:=haR x hx;omega) (aut hb hU hV fun x hx=>by have:=x8 x hx;omega) (.inl rfl) (.inl rfl)
 rwa [auh ha,auh hb] at this
namespace ajC
theorem aw {p q:Prop} (k:q) (e:p=q:=by simp only [e1,e2,e3,e4,p1,p2,p3,q1,q2,q3,l1,t0,t1,r1,r2,r3,r4,Nat.zero_add,Nat.reduceMul,Nat.reduceAdd,b1,b2,b3,b4,b5,b6,i1,i2,i3,i4,i5,i6,Nat.reduceBEq,vo,nW,aG cN,mN,cn,fo,eO,dW,List.length_cons,List.length_nil,List.nil_append,List.map_nil,List.take_nil,List.append_nil,List.set_cons_zero,List.set_cons_succ,Nat.reduceEqDiff,reduceIte,if_true,if_false,cB,dB,aG aX,aG bz,aG an,cA,cC,LV.kill,bH];exact rfl):p:=e.mpr k
end ajC
open ajC in
theorem ajA (R U V Ud Vd:Nat) (kU kV:List Rat) (rows:List (List ar)) (h:pf R U V rows) (hR:R<=200000) (D:List Rat->List Rat) (hd:s7 U V Ud Vd D) (f:Nat) (hf:∀ c:List Rat,c.length=(U+1)*(V+1)->(∀ x∈c,rl x<=2*R)->ax ak f [.agg [ae U,ae V,.list 3 (c.map aa)]] (.agg [ae Ud,ae Vd,.list 3 ((D c).map aa)])):ax ak 162 [.agg [ae U,ae V,.list 3 (kU.map aa),.list 3 (kV.map aa),.list 1 (rows.map a5)],.bQ f []] (.agg [.agg [ae (Ud+U),ae (Vd+V),.list 3 ((dQ U V Ud Vd D rows.flatten 0).map aa)],.agg [ae (Ud+U),ae (Vd+V),.list 3 ((dQ U V Ud Vd D rows.flatten 1).map aa)],.agg [ae (Ud+U),ae (Vd+V),.list 3 ((dQ U V Ud Vd D rows.flatten 2).map aa)]]):=by
 have jg:LV.pure (.agg [ae U,ae V,.list 3 (kU.map aa),.list 3 (kV.map aa),.list 1 (rows.map a5)])=true:=by simp [LV.pure,aK,aP an,aP cN]
 have gk:=h.r1
 have lV:=h.u3
 have ny:=h.v3
 have hud:=hd.u
 have hvd:=hd.v
 have gh:=h.wl
 have hdw:=hd.l _ gh
 have hwr:=h.wr
 have amQ:=hd.r _ _ gk gh hwr
 have hpw:=dJ U V (aZ rows.flatten)
 have aKI:=dJ Ud Vd (D (aZ rows.flatten))
 have ahr:=h.nl 0
 have azO:=hd.l _ ahr
 have alC:=h.nr 0
 have aHB:=hd.r _ _ (show 1<=2*R by omega) ahr alC
 have aKk:=dJ U V (bn rows.flatten 0)
 have aLW:=dJ Ud Vd (D (bn rows.flatten 0))
 have aKL:=dJ (Ud+U) (Vd+V) (jW Ud Vd U V (D (bn rows.flatten 0)) (aZ rows.flatten))
 have aKN:=dJ (Ud+U) (Vd+V) (jW U V Ud Vd (bn rows.flatten 0) (D (aZ rows.flatten)))
 have aKc:=dJ (Ud+U) (Vd+V) (dQ U V Ud Vd D rows.flatten 0)
 obtain⟨ay9,aBZ⟩:=ad4 h hd 0
 obtain⟨aGE,aAB⟩:=aiO h hd 0
 have hA0:=acu Ud Vd U V (D (bn rows.flatten 0)) (aZ rows.flatten) azO gh hud hvd lV ny (4*R+4) J J (fun x hx=>by have:=aHB x hx;omega) (fun x hx=>by have:=hwr x hx;omega)
 have hB0:=acu U V Ud Vd (bn rows.flatten 0) (D (aZ rows.flatten)) ahr hdw lV ny hud hvd (4*R+4) J J (fun x hx=>by have:=alC x hx;omega) (fun x hx=>by have:=amQ x hx;omega)
 rw [mH U Ud,mH V Vd] at hB0
 have hS0:=amY (Ud+U) (Vd+V) (jW Ud Vd U V (D (bn rows.flatten 0)) (aZ rows.flatten)) (jW U V Ud Vd (bn rows.flatten 0) (D (aZ rows.flatten))) J J ay9 aGE (fun x hx=>by have:=aBZ x hx;omega) (fun x hx=>by have:=aAB x hx;omega)
 have aiU:=h.nl 1
 have aDX:=hd.l _ aiU
 have alm:=h.nr 1
 have aE9:=hd.r _ _ (show 1<=2*R by omega) aiU alm
 have aKu:=dJ U V (bn rows.flatten 1)
 have aLM:=dJ Ud Vd (D (bn rows.flatten 1))
 have aKv:=dJ (Ud+U) (Vd+V) (jW Ud Vd U V (D (bn rows.flatten 1)) (aZ rows.flatten))
 have aKn:=dJ (Ud+U) (Vd+V) (jW U V Ud Vd (bn rows.flatten 1) (D (aZ rows.flatten)))
 have aLo:=dJ (Ud+U) (Vd+V) (dQ U V Ud Vd D rows.flatten 1)
 obtain⟨aBl,aGr⟩:=ad4 h hd 1
 obtain⟨aCA,ayI⟩:=aiO h hd 1
 have hA1:=acu Ud Vd U V (D (bn rows.flatten 1)) (aZ rows.flatten) aDX gh hud hvd lV ny (4*R+4) J J (fun x hx=>by have:=aE9 x hx;omega) (fun x hx=>by have:=hwr x hx;omega)
 have hB1:=acu U V Ud Vd (bn rows.flatten 1) (D (aZ rows.flatten)) aiU hdw lV ny hud hvd (4*R+4) J J (fun x hx=>by have:=alm x hx;omega) (fun x hx=>by have:=amQ x hx;omega)
 rw [mH U Ud,mH V Vd] at hB1
 have pg:=amY (Ud+U) (Vd+V) (jW Ud Vd U V (D (bn rows.flatten 1)) (aZ rows.flatten)) (jW U V Ud Vd (bn rows.flatten 1) (D (aZ rows.flatten))) J J aBl aCA (fun x hx=>by have:=aGr x hx;omega) (fun x hx=>by have:=ayI x hx;omega)
 have agD:=h.nl 2
 have aGa:=hd.l _ agD
 have aoo:=h.nr 2
 have aET:=hd.r _ _ (show 1<=2*R by omega) agD aoo
 have aLU:=dJ U V (bn rows.flatten 2)
 have aKX:=dJ Ud Vd (D (bn rows.flatten 2))
 have aKO:=dJ (Ud+U) (Vd+V) (jW Ud Vd U V (D (bn rows.flatten 2)) (aZ rows.flatten))
 have aK9:=dJ (Ud+U) (Vd+V) (jW U V Ud Vd (bn rows.flatten 2) (D (aZ rows.flatten)))
 have aLb:=dJ (Ud+U) (Vd+V) (dQ U V Ud Vd D rows.flatten 2)
 obtain⟨aDl,aHm⟩:=ad4 h hd 2
 obtain⟨aDu,aFj⟩:=aiO h hd 2
 have hA2:=acu Ud Vd U V (D (bn rows.flatten 2)) (aZ rows.flatten) aGa gh hud hvd lV ny (4*R+4) J J (fun x hx=>by have:=aET x hx;omega) (fun x hx=>by have:=hwr x hx;omega)
 have hB2:=acu U V Ud Vd (bn rows.flatten 2) (D (aZ rows.flatten)) agD hdw lV ny hud hvd (4*R+4) J J (fun x hx=>by have:=aoo x hx;omega) (fun x hx=>by have:=amQ x hx;omega)
 rw [mH U Ud,mH V Vd] at hB2
 have zT:=amY (Ud+U) (Vd+V) (jW Ud Vd U V (D (bn rows.flatten 2)) (aZ rows.flatten)) (jW U V Ud Vd (bn rows.flatten 2) (D (aZ rows.flatten))) J J aDl aDu (fun x hx=>by have:=aHm x hx;omega) (fun x hx=>by have:=aFj x hx;omega)
 have hfw:=hf (aZ rows.flatten) gh (fun x hx=>by have:=hwr x hx;omega)
 have hf0:=hf (bn rows.flatten 0) ahr alC
 have xL:=hf (bn rows.flatten 1) aiU alm
 have ot:=hf (bn rows.flatten 2) agD aoo
 refine aR Tryz.func162 (ht:=(fun g=>LV.cQ g _ (by simp [LV.pure,aK,aP an]))) ?_
 refine bB ?_
 refine cp aO (al1 U V kU kV rows J J R J h.rw) ?_
 refine bB ?_
 refine eN [] rfl rfl (.bQ (f:=f) (cap:=[]) (args:=[.agg [ae U,ae V,.list 3 ((aZ rows.flatten).map aa)]]) rfl (.cons cG .nil) ⟨rfl,fun _ h=>by cases h⟩ hfw.1 ai (fun _ h=>by cases h)) (hfw.2 _) ?_
 refine nm ?_
 refine bc ?_
 refine ay ?_
 refine bI (b:=_) rfl ai ?_
 refine bh ?_
 refine aY 16 al ?_
 refine a7 ?_
 refine eN [] rfl rfl (.bQ (f:=f) (cap:=[]) (args:=[.agg [ae U,ae V,.list 3 ((bn rows.flatten 0).map aa)]]) rfl (.cons cG .nil) ⟨rfl,fun _ h=>by cases h⟩ hf0.1 ai (fun _ h=>by cases h)) (hf0.2 _) ?_
 refine aH ?_
 refine cp au (hA0) ?_
 refine aB ?_
 refine cp au (hB0) ?_
 refine cp au (hS0) ?_
 refine bh ?_
 refine bc ?_
 refine ay ?_
 refine bI (b:=_) rfl ai ?_
 refine bh ?_
 refine aY 16 al ?_
 refine a7 ?_
 refine eN [] rfl rfl (.bQ (f:=f) (cap:=[]) (args:=[.agg [ae U,ae V,.list 3 ((bn rows.flatten 1).map aa)]]) rfl (.cons cG .nil) ⟨rfl,fun _ h=>by cases h⟩ xL.1 ai (fun _ h=>by cases h)) (xL.2 _) ?_
 refine aH ?_
 refine cp au (hA1) ?_
 refine aB ?_
 refine cp au (hB1) ?_
 refine cp au (pg) ?_
 refine bh ?_
 refine bc ?_
 refine ay ?_
 refine bI (b:=_) rfl ai ?_
 refine bh ?_
 refine aY 16 al ?_
 refine a7 ?_
 refine eN [] rfl rfl (.bQ (f:=f) (cap:=[]) (args:=[.agg [ae U,ae V,.list 3 ((bn rows.flatten 2).map aa)]]) rfl (.cons cG .nil) ⟨rfl,fun _ h=>by cases h⟩ ot.1 ai (fun _ h=>by cases h)) (ot.2 _) ?_
 refine aH ?_
 refine cp au (hA2) ?_
 refine aB ?_
 refine cp au (hB2) ?_
 refine cp au (zT) ?_
 refine bh ?_
 refine bc ?_
 refine ay ?_
 refine dp (b:=_) rfl ai ?_
 refine bw ?_
 exact fi [] rfl rfl rfl cs (cr cs rfl) auU (.pure (by simp [LV.pure,aK,aP an]))
section
variable {R U V:Nat} {rows:List (List ar)} (h:pf R U V rows)
include h
theorem pf.pos:0<rows.flatten.length:=by rw [h.len];exact Nat.mul_pos (ic U) (ic V)
theorem pf.wlo:0<(de (aZ rows.flatten)).1:=by
 have h0:0<(aZ rows.flatten).length:=by rw [vX];exact h.pos
 obtain⟨i,hi,e⟩:=((aec (aZ rows.flatten) (aZ rows.flatten).length).2 h0).1
 show 0<(kJ (aZ rows.flatten) (aZ rows.flatten).length).1
 rw [e]
 obtain⟨q,hq,hw⟩:=ga.1 (eU (p:=aZ rows.flatten) hi)
 rw [<-hw]
 exact(h.fok q hq).2.2
theorem pf.wsq:dg (2*R) (iU (de (aZ rows.flatten)))/\jr (iU (de (aZ rows.flatten))) 0=false:=by
 have h0:0<(aZ rows.flatten).length:=by rw [vX];exact h.pos
 exact⟨atJ (zM h.r1 h.wr) h.r1,(sq_pos h.wlo (atA h0)).2⟩
end
def pdv (U V Ud Vd:Nat) (D:List Rat->List Rat) (F:List ar) (wd x y:Rat):V3 :=
 kK (1/(wd*(gi U V (aZ F) x y*gi U V (aZ F) x y))) ⟨gi (Ud+U) (Vd+V) (dQ U V Ud Vd D F 0) x y,gi (Ud+U) (Vd+V) (dQ U V Ud Vd D F 1) x y,gi (Ud+U) (Vd+V) (dQ U V Ud Vd D F 2) x y⟩
def rP (U V Ud Vd:Nat) (D:List Rat->List Rat) (F:List ar) (wd:Rat) (k:Nat):Rat × Rat:=kz (k6 (de (dQ U V Ud Vd D F k)) (iU (de (aZ F)))) (1/wd,1/wd)
def psB (U V Ud Vd:Nat) (D:List Rat->List Rat) (F:List ar) (wd:Rat):jt:=⟨rP U V Ud Vd D F wd 0,rP U V Ud Vd D F wd 1,rP U V Ud Vd D F wd 2⟩
theorem aF0 (w:Rat):rcS (w,w)=(1/w,1/w):=by
 unfold rcS eM er
 simp only [ite_self]
theorem aly (s:Rat × Rat) (w:Rat):k6 s (w,w)=kz s (1/w,1/w):=by unfold k6;rw [aF0]
theorem alZ {a b:Rat} (h:a<b):jr (b-a,b-a) 0=false:=by
 unfold jr
 rw [decide_eq_false (by show ¬(b-a<=0);grind)];rfl
theorem auj {x:Rat} (h:rl x<=8):xe x:=by
 have:=fD 1 x
 have:rl 1=1:=rfl
 unfold xe
 omega
structure tJ (Du Dv:Nat) (q:List Rat) (x y:Rat):Prop where
 hl:q.length=(Du+1)*(Dv+1)
 du:Du<=6
 dv:Dv<=6
 qr:∀ t∈q,rl t<=49231
 hx:xe x
 hy:xe y
theorem tJ.e {Du Dv:Nat} {q:List Rat} {x y:Rat} (h:tJ Du Dv q x y):rl (gi Du Dv q x y)<=201970100 :=
 bb (aij h.hl h.du h.dv (by omega:1<=49231) J h.qr h.hx h.hy).2.2.2.2 ai
theorem aw0 {R U V Ud Vd:Nat} {rows:List (List ar)} {D:List Rat->List Rat} (h:pf R U V rows) (hd:s7 U V Ud Vd D) (hR:R<=25) {wd x y:Rat} (hw:rl wd<=1000) (hx:xe x) (hy:xe y) :
  rl (gi U V (aZ rows.flatten) x y)<=225500/\(∀ k,rl (gi (Ud+U) (Vd+V) (dQ U V Ud Vd D rows.flatten k) x y)<=201970100)/\cP 210000000 (pdv U V Ud Vd D rows.flatten wd x y):=by
 have h1:rl (gi U V (aZ rows.flatten) x y)<=225500:=by
  have:=(aij h.wl (by have:=h.u3;omega) (by have:=h.v3;omega) h.r1 J h.wr hx hy).2.2.2.2
  have:4100*(R+30)<=4100*55:=lr _ J
  omega
 have hu:=hd.u
 have hv:=hd.v
 have lV:=h.u3
 have ny:=h.v3
 have h2:∀ k,rl (gi (Ud+U) (Vd+V) (dQ U V Ud Vd D rows.flatten k) x y)<=201970100:=fun k =>
  bb (aij (R:=49231) (aah h hd k) J J J J (fun t ht=>by have:=uB h hd k t ht;omega) hx hy).2.2.2.2 ai
 refine⟨h1,h2,?_⟩
 have h3:=cM (gi U V (aZ rows.flatten) x y) (gi U V (aZ rows.flatten) x y)
 have h4:=cM wd (gi U V (aZ rows.flatten) x y*gi U V (aZ rows.flatten) x y)
 have h5:=pH 1 (wd*(gi U V (aZ rows.flatten) x y*gi U V (aZ rows.flatten) x y))
 have h6:rl 1=1:=rfl
 have g:∀ k,rl (1/(wd*(gi U V (aZ rows.flatten) x y*gi U V (aZ rows.flatten) x y))*gi (Ud+U) (Vd+V) (dQ U V Ud Vd D rows.flatten k) x y)<=210000000:=fun k=>by
  have:=cM (1/(wd*(gi U V (aZ rows.flatten) x y*gi U V (aZ rows.flatten) x y))) (gi (Ud+U) (Vd+V) (dQ U V Ud Vd D rows.flatten k) x y)
  have:=h2 k
  omega
 exact⟨g 0,g 1,g 2⟩
theorem ah1 (Du Dv:Nat) (q:List Rat) (x y:Rat) (h:tJ Du Dv q x y):ax ak 255 [.agg [ae Du,ae Dv,.list 3 (q.map aa)],aa x,aa y] (aa (gi Du Dv q x y)):=by
 obtain⟨s1,s2,_⟩:=aij h.hl h.du h.dv (by omega:1<=49231) J h.qr h.hx h.hy
 have h49:(Du+1)*(Dv+1)<=49:=arn h.du h.dv
 exact aBV Du Dv q h.hl (by rw [h.hl];omega) (fun t ht=>by have:=h.qr t ht;omega) x y s1 s2
open aas in
theorem auZ (Du Dv:Nat) (o6 o7 pa:List Rat) (wd W x y:Rat) (h0:tJ Du Dv o6 x y) (h1:tJ Du Dv o7 x y) (h2:tJ Du Dv pa x y) (hw:rl wd<=1000) (hW:rl W<=250000):ax ak 256 [.agg [.agg [ae Du,ae Dv,.list 3 (o6.map aa)],.agg [ae Du,ae Dv,.list 3 (o7.map aa)],.agg [ae Du,ae Dv,.list 3 (pa.map aa)]],aa wd,.ba (aa W),.ba (aa x),.ba (aa y)] (aE (kK (1/(wd*(W*W))) ⟨(gi Du Dv o6 x y),(gi Du Dv o7 x y),(gi Du Dv pa x y)⟩)):=by
 have kI:∀ l:List Rat,aK (l.map aa)=true:=fun l=>aP an l
 have aIs:=dJ Du Dv o6
 have aE2:=dJ Du Dv o7
 have aHD:=dJ Du Dv pa
 have he0:=h0.e
 have he1:=h1.e
 have he2:=h2.e
 have hp3:LV.pure (.agg [.agg [ae Du,ae Dv,.list 3 (o6.map aa)],.agg [ae Du,ae Dv,.list 3 (o7.map aa)],.agg [ae Du,ae Dv,.list 3 (pa.map aa)]])=true:=by simp [LV.pure,aK,aP an]
 have m1:=cM W W
 have m2:=cM wd (W*W)
 have m3:=pH 1 (wd*(W*W))
 have gk:rl 1=1:=rfl
 refine aR Tryz.func256 (ht:=(fun r=>LV.cQ r _ (aX.pure _))) ?_
 refine bg ?_
 refine eZ 11 [9] al ?_
 refine cp aO (rZ 1 ai ai) ?_
 refine aQ ?_
 refine cp au (ef W W J) ?_
 refine cp au (ef wd (W*W) J) ?_
 refine cp au (sH 1 (wd*(W*W)) J) ?_
 refine sE ?_
 refine bc ?_
 refine ay ?_
 refine bI (b:=_) rfl ai ?_
 refine dk ?_
 refine aY 8 al ?_
 refine a7 ?_
 refine cp gM (ah1 Du Dv o6 x y h0) ?_
 refine cp au (ef (1/(wd*(W*W))) (gi Du Dv o6 x y) J) ?_
 refine a7 ?_
 refine bR (az.kill _ 12) ?_
 refine aB ?_
 refine bc ?_
 refine ay ?_
 refine bI (b:=_) rfl ai ?_
 refine dk ?_
 refine aY 8 al ?_
 refine a7 ?_
 refine cp gM (ah1 Du Dv o7 x y h1) ?_
 refine cp au (ef (1/(wd*(W*W))) (gi Du Dv o7 x y) J) ?_
 refine a7 ?_
 refine bR (az.kill _ 12) ?_
 refine aB ?_
 refine bc ?_
 refine ay ?_
 refine bI (b:=_) rfl ai ?_
 refine dk ?_
 refine aY 8 al ?_
 refine a7 ?_
 refine cp gM (ah1 Du Dv pa x y h2) ?_
 refine cp au (ef (1/(wd*(W*W))) (gi Du Dv pa x y) J) ?_
 refine a7 ?_
 refine bR (az.kill _ 12) ?_
 refine aB ?_
 refine bc ?_
 refine ay ?_
 refine dp (b:=_) rfl ai ?_
 refine bw ?_
 exact yI
open ajC in
theorem aBS (R U V:Nat) (ua ub va vb:Rat) (rows:List (List ar)) (h:pf R U V rows) (vG:rl ua<=100) (hub:rl ub<=100) (r9:rl va<=100) (zd:rl vb<=100) (hu:ua<ub) (hv:va<vb) (u v x y:Rat) (rJ:rl u<=100) (yP:rl v<=100) (hx:xe x) (hy:xe y) (ex:(u-ua)/(ub-ua)=x) (ey:(v-va)/(vb-va)=y) (hR:R<=25) (hUi:jr (ua,ub) u=true) (hVi:jr (va,vb) v=true):ax ak 202 [.agg [ae U,ae V,.list 3 ((aA U ua ub).map aa),.list 3 ((aA V va vb).map aa),.list 1 (rows.map a5)],aa u,aa v] (.a9 [aE (pdv U V (U-1) V (eo U V) rows.flatten (ub-ua) x y),aE (pdv U V U (V-1) (en U V) rows.flatten (vb-va) x y),iL 0]):=by
 have kI:∀ l:List Rat,aK (l.map aa)=true:=fun l=>aP an l
 have jg:LV.pure (.agg [ae U,ae V,.list 3 ((aA U ua ub).map aa),.list 3 ((aA V va vb).map aa),.list 1 (rows.map a5)])=true:=by simp [LV.pure,aK,aP an,aP cN]
 have xZ:=cd an 3 (aA U ua ub)
 have uY:=cd an 3 (aA V va vb)
 have lV:=h.u3
 have ny:=h.v3
 have gk:=h.r1
 have aDA:=fD ub ua
 have aHz:=fD vb va
 have ri:s7 U V (U-1) V (eo U V):=asf h.u3 h.v3
 have oR:s7 U V U (V-1) (en U V):=aya h.u3 h.v3
 have aCB:tJ ((U-1)+U) (V+V) (dQ U V (U-1) V (eo U V) rows.flatten 0) x y:=⟨aah h ri 0,J,J,fun t ht=>by have:=uB h ri 0 t ht;omega,hx,hy⟩
 have aBh:tJ ((U-1)+U) (V+V) (dQ U V (U-1) V (eo U V) rows.flatten 1) x y:=⟨aah h ri 1,J,J,fun t ht=>by have:=uB h ri 1 t ht;omega,hx,hy⟩
 have aF1:tJ ((U-1)+U) (V+V) (dQ U V (U-1) V (eo U V) rows.flatten 2) x y:=⟨aah h ri 2,J,J,fun t ht=>by have:=uB h ri 2 t ht;omega,hx,hy⟩
 have azV:tJ (U+U) ((V-1)+V) (dQ U V U (V-1) (en U V) rows.flatten 0) x y:=⟨aah h oR 0,J,J,fun t ht=>by have:=uB h oR 0 t ht;omega,hx,hy⟩
 have aGe:tJ (U+U) ((V-1)+V) (dQ U V U (V-1) (en U V) rows.flatten 1) x y:=⟨aah h oR 1,J,J,fun t ht=>by have:=uB h oR 1 t ht;omega,hx,hy⟩
 have aCh:tJ (U+U) ((V-1)+V) (dQ U V U (V-1) (en U V) rows.flatten 2) x y:=⟨aah h oR 2,J,J,fun t ht=>by have:=uB h oR 2 t ht;omega,hx,hy⟩
 have hpU:LV.pure (.agg [.agg [ae ((U-1)+U),ae (V+V),.list 3 ((dQ U V (U-1) V (eo U V) rows.flatten 0).map aa)],.agg [ae ((U-1)+U),ae (V+V),.list 3 ((dQ U V (U-1) V (eo U V) rows.flatten 1).map aa)],.agg [ae ((U-1)+U),ae (V+V),.list 3 ((dQ U V (U-1) V (eo U V) rows.flatten 2).map aa)]])=true:=by simp [LV.pure,aK,aP an]
 obtain⟨hWU,hEU,hBU⟩:=aw0 h ri hR (wd:=(ub-ua)) J hx hy
 have hpV:LV.pure (.agg [.agg [ae (U+U),ae ((V-1)+V),.list 3 ((dQ U V U (V-1) (en U V) rows.flatten 0).map aa)],.agg [ae (U+U),ae ((V-1)+V),.list 3 ((dQ U V U (V-1) (en U V) rows.flatten 1).map aa)],.agg [ae (U+U),ae ((V-1)+V),.list 3 ((dQ U V U (V-1) (en U V) rows.flatten 2).map aa)]])=true:=by simp [LV.pure,aK,aP an]
 obtain⟨hWV,hEV,hBV⟩:=aw0 h oR hR (wd:=(vb-va)) J hx hy
 have hqW:tJ U V (aZ rows.flatten) x y:=⟨h.wl,J,J,fun t ht=>by have:=h.wr t ht;omega,hx,hy⟩
 have hpW:=dJ U V (aZ rows.flatten)
 have hO1:=ayb ua ub u vG hub hu rJ hUi
 have hO2:=ayb va vb v r9 zd hv yP hVi
 rw [ex] at hO1
 rw [ey] at hO2
 have sW:aK [.ba (aa (gi U V (aZ rows.flatten) x y)),.ba (aa x),.ba (aa y)]=true:=by simp [aK,LV.pure,an.pure]
 have hAU:=auZ ((U-1)+U) (V+V) (dQ U V (U-1) V (eo U V) rows.flatten 0) (dQ U V (U-1) V (eo U V) rows.flatten 1) (dQ U V (U-1) V (eo U V) rows.flatten 2) (ub-ua) (gi U V (aZ rows.flatten) x y) x y aCB aBh aF1 J J
 have hTU:=ajA R U V (U-1) V (aA U ua ub) (aA V va vb) rows h J (eo U V) ri 163 (fun c hc hr=>avS U V c hc (by rw [hc];have:=abb lV ny;omega) (fun t ht=>by have:=hr t ht;omega) J)
 have hAV:=auZ (U+U) ((V-1)+V) (dQ U V U (V-1) (en U V) rows.flatten 0) (dQ U V U (V-1) (en U V) rows.flatten 1) (dQ U V U (V-1) (en U V) rows.flatten 2) (vb-va) (gi U V (aZ rows.flatten) x y) x y azV aGe aCh J J
 have hTV:=ajA R U V U (V-1) (aA U ua ub) (aA V va vb) rows h J (en U V) oR 164 (fun c hc hr=>atE U V c hc (by rw [hc];have:=abb lV ny;omega) (fun t ht=>by have:=hr t ht;omega) J)
 refine aR Tryz.func202 (ht:=(ac6 (aX.pure _) (aX.pure _) rfl)) ?_
 refine dk ?_
 refine cp aO (aet U V ua ub va vb rows vG hub r9 zd hu hv J J) ?_
 refine dk ?_
 refine cp au (hO1) ?_
 refine eQ ?_
 refine cp au (hO2) ?_
 refine iY ?_
 refine ah (aM (v:=false) rfl rfl ((rfl)) rfl) (.move _) ?_
 refine ah (aM (v:=false) rfl rfl ((rfl)) rfl) (.not rfl) ?_
 refine ah rfl (.m9 rfl ((rfl))) ?_
 refine aH ?_
 refine dp (b:=_) rfl (rfl) ?_
 refine aQ ?_
 refine aY 7 al ?_
 refine ao ?_
 refine cp aO (al1 U V (aA U ua ub) (aA V va vb) rows J J R J h.rw) ?_
 refine aQ ?_
 refine cp gM (ah1 U V (aZ rows.flatten) x y hqW) ?_
 refine ay ?_
 refine eN [17,11,14] rfl rfl (.mk (caps:=[.ba (aa (gi U V (aZ rows.flatten) x y)),.ba (aa x),.ba (aa y)]) (.cons (.aF rfl rfl rfl (an.av _) (p7 _) (an.pure _) rfl) (.cons (.aF rfl rfl rfl (an.av _) (p7 _) (an.pure _) rfl) (.cons (.aF rfl rfl rfl (an.av _) (p7 _) (an.pure _) rfl) .nil))) (fun x hx=>by simp only [ff,iq,or_false] at hx;rcases hx with rfl | rfl | rfl<;>exact⟨rfl,rfl⟩)) rfl ?_
 refine aB ?_
 refine aY 10 al ?_
 refine aH ?_
 refine cp au (hTU) ?_
 refine ao ?_
 refine eN [] rfl rfl (.bQ (f:=256) (cap:=[.ba (aa (gi U V (aZ rows.flatten) x y)),.ba (aa x),.ba (aa y)]) (args:=[.agg [.agg [ae ((U-1)+U),ae (V+V),.list 3 ((dQ U V (U-1) V (eo U V) rows.flatten 0).map aa)],.agg [ae ((U-1)+U),ae (V+V),.list 3 ((dQ U V (U-1) V (eo U V) rows.flatten 1).map aa)],.agg [ae ((U-1)+U),ae (V+V),.list 3 ((dQ U V (U-1) V (eo U V) rows.flatten 2).map aa)]],aa (ub-ua)]) rfl (.cons cG (.cons cG .nil)) ⟨sW,(fun x hx=>by simp only [ff,iq,or_false] at hx;rcases hx with rfl | rfl | rfl<;>exact⟨rfl,rfl⟩)⟩ hAU.1 ai (fun _ h=>by cases h)) (hAU.2 _) ?_
 refine aH ?_
 refine cp au (hTV) ?_
 refine ao ?_
 refine eN [] rfl rfl (.bQ (f:=256) (cap:=[.ba (aa (gi U V (aZ rows.flatten) x y)),.ba (aa x),.ba (aa y)]) (args:=[.agg [.agg [ae (U+U),ae ((V-1)+V),.list 3 ((dQ U V U (V-1) (en U V) rows.flatten 0).map aa)],.agg [ae (U+U),ae ((V-1)+V),.list 3 ((dQ U V U (V-1) (en U V) rows.flatten 1).map aa)],.agg [ae (U+U),ae ((V-1)+V),.list 3 ((dQ U V U (V-1) (en U V) rows.flatten 2).map aa)]],aa (vb-va)]) rfl (.cons cG (.cons cG .nil)) ⟨sW,(fun x hx=>by simp only [ff,iq,or_false] at hx;rcases hx with rfl | rfl | rfl<;>exact⟨rfl,rfl⟩)⟩ hAV.1 ai (fun _ h=>by cases h)) (hAV.2 _) ?_
 refine ay ?_
 exact asq [] rfl rfl rfl cs (cr cs rfl) iQ (.pure pu) rfl rfl cs (cr cs rfl) iQ (.pure pu) rfl (.pure rfl)
open aas in
theorem asu (Du Dv:Nat) (o6 o7 pa:List Rat) (a b:Rat) (w:Rat × Rat) (S:Nat) (pg:1<=S) (hS:S<=49000000) (ha:rl a<=100) (hb:rl b<=100) (cY:a<b) (hw:dg S w) (hz:jr w 0=false) (hl0:o6.length<=49) (lE:∀ t∈o6,rl t<=S) (kN:o7.length<=49) (gk:∀ t∈o7,rl t<=S) (nN:pa.length<=49) (mW:∀ t∈pa,rl t<=S):ax ak 160 [.agg [.agg [ae Du,ae Dv,.list 3 (o6.map aa)],.agg [ae Du,ae Dv,.list 3 (o7.map aa)],.agg [ae Du,ae Dv,.list 3 (pa.map aa)]],aD (a,b),.ba (aD w)] (fY ⟨(kz (k6 (de o6) w) (1/(b-a),1/(b-a))),(kz (k6 (de o7) w) (1/(b-a),1/(b-a))),(kz (k6 (de pa) w) (1/(b-a),1/(b-a)))⟩):=by
 have kI:∀ l:List Rat,aK (l.map aa)=true:=fun l=>aP an l
 have aIs:=dJ Du Dv o6
 have aE2:=dJ Du Dv o7
 have aHD:=dJ Du Dv pa
 have hp3:LV.pure (.agg [.agg [ae Du,ae Dv,.list 3 (o6.map aa)],.agg [ae Du,ae Dv,.list 3 (o7.map aa)],.agg [ae Du,ae Dv,.list 3 (pa.map aa)]])=true:=by simp [LV.pure,aK,aP an]
 have hwd:=fD b a
 have hpt:dg (2*S+1001) (b-a,b-a):=⟨by show rl (b-a)<=_;omega,by show rl (b-a)<=_;omega⟩
 have atD:=zM pg lE
 have aEP:dg (2*S+1001) (k6 (de o6) w):=(ae9 atD hw).le J
 have hz0:=vc (k6 (de o6) w) (b-a,b-a) (2*S+1001) J aEP hpt (alZ cY)
 rw [aly] at hz0
 have avz:=zM pg gk
 have aEl:dg (2*S+1001) (k6 (de o7) w):=(ae9 avz hw).le J
 have qG:=vc (k6 (de o7) w) (b-a,b-a) (2*S+1001) J aEl hpt (alZ cY)
 rw [aly] at qG
 have arw:=zM pg mW
 have aHi:dg (2*S+1001) (k6 (de pa) w):=(ae9 arw hw).le J
 have r7:=vc (k6 (de pa) w) (b-a,b-a) (2*S+1001) J aHi hpt (alZ cY)
 rw [aly] at r7
 refine aR Tryz.func160 (ht:=(fun r=>LV.cQ r _ (og.pure _))) ?_
 refine lF ?_
 refine bc ?_
 refine ay ?_
 refine bI (b:=_) rfl ai ?_
 refine df ?_
 refine eZ 8 [6] al ?_
 refine ao ?_
 refine cp aO (aiG Du Dv o6 J (fun t ht=>by have:=lE t ht;omega)) ?_
 refine ao ?_
 refine cp au (vc (de o6) w S J atD hw hz) ?_
 refine bg ?_
 refine eZ 10 [8] al ?_
 refine aQ ?_
 refine cp aO (abF (a,b) (by show rl b+rl a<=_;omega)) ?_
 refine cp aO (nD (b-a) J) ?_
 refine cp au (hz0) ?_
 refine bg ?_
 refine bR ((az.kill _ 9).trans (az.kill _ 8)) ?_
 refine aB ?_
 refine bc ?_
 refine ay ?_
 refine bI (b:=_) rfl ai ?_
 refine df ?_
 refine eZ 8 [6] al ?_
 refine ao ?_
 refine cp aO (aiG Du Dv o7 J (fun t ht=>by have:=gk t ht;omega)) ?_
 refine ao ?_
 refine cp au (vc (de o7) w S J avz hw hz) ?_
 refine bg ?_
 refine eZ 10 [8] al ?_
 refine aQ ?_
 refine cp aO (abF (a,b) (by show rl b+rl a<=_;omega)) ?_
 refine cp aO (nD (b-a) J) ?_
 refine cp au (qG) ?_
 refine bg ?_
 refine bR ((az.kill _ 9).trans (az.kill _ 8)) ?_
 refine aB ?_
 refine bc ?_
 refine ay ?_
 refine bI (b:=_) rfl ai ?_
 refine df ?_
 refine eZ 8 [6] al ?_
 refine ao ?_
 refine cp aO (aiG Du Dv pa J (fun t ht=>by have:=mW t ht;omega)) ?_
 refine ao ?_
 refine cp au (vc (de pa) w S J arw hw hz) ?_
 refine bg ?_
 refine eZ 10 [8] al ?_
 refine aQ ?_
 refine cp aO (abF (a,b) (by show rl b+rl a<=_;omega)) ?_
 refine cp aO (nD (b-a) J) ?_
 refine cp au (r7) ?_
 refine bg ?_
 refine bR ((az.kill _ 9).trans (az.kill _ 8)) ?_
 refine aB ?_
 refine bc ?_
 refine ay ?_
 refine dp (b:=_) rfl ai ?_
 refine bw ?_
 exact aeF
open ajC in
theorem aId (R U V:Nat) (ua ub va vb:Rat) (rows:List (List ar)) (h:pf R U V rows) (vG:rl ua<=100) (hub:rl ub<=100) (r9:rl va<=100) (zd:rl vb<=100) (hu:ua<ub) (hv:va<vb) (hR:R<=20000):ax ak 89 [.agg [ae U,ae V,.list 3 ((aA U ua ub).map aa),.list 3 ((aA V va vb).map aa),.list 1 (rows.map a5)]] (.a9 [fY (psB U V (U-1) V (eo U V) rows.flatten (ub-ua)),fY (psB U V U (V-1) (en U V) rows.flatten (vb-va))]):=by
 have kI:∀ l:List Rat,aK (l.map aa)=true:=fun l=>aP an l
 have jg:LV.pure (.agg [ae U,ae V,.list 3 ((aA U ua ub).map aa),.list 3 ((aA V va vb).map aa),.list 1 (rows.map a5)])=true:=by simp [LV.pure,aK,aP an,aP cN]
 have xZ:=cd an 3 (aA U ua ub)
 have uY:=cd an 3 (aA V va vb)
 have lV:=h.u3
 have ny:=h.v3
 have gk:=h.r1
 have aDA:=fD ub ua
 have aHz:=fD vb va
 have ri:s7 U V (U-1) V (eo U V):=asf h.u3 h.v3
 have oR:s7 U V U (V-1) (en U V):=aya h.u3 h.v3
 have wT:=h.wsq
 have hwb:=zM h.r1 h.wr
 have gh:=h.wl
 have h49:=abb lV ny
 have aLC:(aZ rows.flatten).length<=49:=by omega
 have hpW:=dJ U V (aZ rows.flatten)
 have hpU:LV.pure (.agg [.agg [ae ((U-1)+U),ae (V+V),.list 3 ((dQ U V (U-1) V (eo U V) rows.flatten 0).map aa)],.agg [ae ((U-1)+U),ae (V+V),.list 3 ((dQ U V (U-1) V (eo U V) rows.flatten 1).map aa)],.agg [ae ((U-1)+U),ae (V+V),.list 3 ((dQ U V (U-1) V (eo U V) rows.flatten 2).map aa)]])=true:=by simp [LV.pure,aK,aP an]
 have hpV:LV.pure (.agg [.agg [ae (U+U),ae ((V-1)+V),.list 3 ((dQ U V U (V-1) (en U V) rows.flatten 0).map aa)],.agg [ae (U+U),ae ((V-1)+V),.list 3 ((dQ U V U (V-1) (en U V) rows.flatten 1).map aa)],.agg [ae (U+U),ae ((V-1)+V),.list 3 ((dQ U V U (V-1) (en U V) rows.flatten 2).map aa)]])=true:=by simp [LV.pure,aK,aP an]
 have sW:aK [.ba (aD (iU (de (aZ rows.flatten))))]=true:=by simp [aK,LV.pure,bl.pure]
 have hAU:=asu ((U-1)+U) (V+V) (dQ U V (U-1) V (eo U V) rows.flatten 0) (dQ U V (U-1) V (eo U V) rows.flatten 1) (dQ U V (U-1) V (eo U V) rows.flatten 2) ua ub (iU (de (aZ rows.flatten))) (1800*R+4201) J J vG hub hu (wT.1.le J) wT.2 (adp h ri 0) (uB h ri 0) (adp h ri 1) (uB h ri 1) (adp h ri 2) (uB h ri 2)
 have hTU:=ajA R U V (U-1) V (aA U ua ub) (aA V va vb) rows h J (eo U V) ri 163 (fun c hc hr=>avS U V c hc (by rw [hc];have:=abb lV ny;omega) (fun t ht=>by have:=hr t ht;omega) J)
 have hAV:=asu (U+U) ((V-1)+V) (dQ U V U (V-1) (en U V) rows.flatten 0) (dQ U V U (V-1) (en U V) rows.flatten 1) (dQ U V U (V-1) (en U V) rows.flatten 2) va vb (iU (de (aZ rows.flatten))) (1800*R+4201) J J r9 zd hv (wT.1.le J) wT.2 (adp h oR 0) (uB h oR 0) (adp h oR 1) (uB h oR 1) (adp h oR 2) (uB h oR 2)
 have hTV:=ajA R U V U (V-1) (aA U ua ub) (aA V va vb) rows h J (en U V) oR 164 (fun c hc hr=>atE U V c hc (by rw [hc];have:=abb lV ny;omega) (fun t ht=>by have:=hr t ht;omega) J)
 refine aR Tryz.func89 (ht:=(iF (og.pure _) (og.pure _))) ?_
 refine bh ?_
 refine cp aO (al1 U V (aA U ua ub) (aA V va vb) rows J J R J h.rw) ?_
 refine ao ?_
 refine cp aO (aiG U V (aZ rows.flatten) J (fun t ht=>by have:=h.wr t ht;omega)) ?_
 refine cp aO (ayc (de (aZ rows.flatten)) R J hwb) ?_
 refine ay ?_
 refine eN [4] rfl rfl (.mk (caps:=[.ba (aD (iU (de (aZ rows.flatten))))]) (.cons (.aF rfl rfl rfl (bl.av _) (wi _) (bl.pure _) rfl) .nil) (fun x hx=>by rw [fP.1 hx];exact⟨rfl,rfl⟩)) rfl ?_
 refine ay ?_
 refine cp aO (aet U V ua ub va vb rows vG hub r9 zd hu hv J J) ?_
 refine bh ?_
 refine aY 10 al ?_
 refine aH ?_
 refine cp au (hTU) ?_
 refine ao ?_
 refine eN [] rfl rfl (.bQ (f:=160) (cap:=[.ba (aD (iU (de (aZ rows.flatten))))]) (args:=[.agg [.agg [ae ((U-1)+U),ae (V+V),.list 3 ((dQ U V (U-1) V (eo U V) rows.flatten 0).map aa)],.agg [ae ((U-1)+U),ae (V+V),.list 3 ((dQ U V (U-1) V (eo U V) rows.flatten 1).map aa)],.agg [ae ((U-1)+U),ae (V+V),.list 3 ((dQ U V (U-1) V (eo U V) rows.flatten 2).map aa)]],aD (ua,ub)]) rfl (.cons cG (.cons cG .nil)) ⟨sW,(fun x hx=>by rw [fP.1 hx];exact⟨rfl,rfl⟩)⟩ hAU.1 ai (fun _ h=>by cases h)) (hAU.2 _) ?_
 refine aH ?_
 refine cp au (hTV) ?_
 refine ao ?_
 refine eN [] rfl rfl (.bQ (f:=160) (cap:=[.ba (aD (iU (de (aZ rows.flatten))))]) (args:=[.agg [.agg [ae (U+U),ae ((V-1)+V),.list 3 ((dQ U V U (V-1) (en U V) rows.flatten 0).map aa)],.agg [ae (U+U),ae ((V-1)+V),.list 3 ((dQ U V U (V-1) (en U V) rows.flatten 1).map aa)],.agg [ae (U+U),ae ((V-1)+V),.list 3 ((dQ U V U (V-1) (en U V) rows.flatten 2).map aa)]],aD (va,vb)]) rfl (.cons cG (.cons cG .nil)) ⟨sW,(fun x hx=>by rw [fP.1 hx];exact⟨rfl,rfl⟩)⟩ hAV.1 ai (fun _ h=>by cases h)) (hAV.2 _) ?_
 refine a7 ?_
 exact afP [] rfl rfl rfl cs (cr cs rfl) T98 (.pure pu) rfl rfl cs (cr cs rfl) T98 (.pure pu)
section
variable {R U V:Nat} {rows:List (List ar)} (h:pf R U V rows)
include h
theorem pf.r0 {i:Nat} (hi:i<=U):(rows.getD i []).length=V+1:=h.m _ (ac9 (by rw [h.n];omega))
theorem pf.fp {i:Nat} (hi:i<(rows.flatten.map (·.p)).length):cP R ((rows.flatten.map (·.p)).getD i default):=by
 rw [aoQ]
 exact(h.fok _ (tG (by rw [eD] at hi;exact hi))).1
end
namespace aw2
theorem aw {p q:Prop} (k:q) (e:p=q:=by simp only [e1,e2,e3,e4,p1,p2,p3,q1,q2,q3,l1,t0,t1,r1,r2,r3,r4,Nat.zero_add,Nat.reduceMul,Nat.reduceAdd,b1,b2,b3,b4,b5,b6,i1,i2,i3,i4,i5,i6,Nat.reduceBEq,a5,eW,iH,avP,dW,nW,aG cN,mN,cn,fo,eO,dW,List.length_cons,List.length_nil,List.nil_append,List.map_nil,List.take_nil,List.append_nil,List.set_cons_zero,List.set_cons_succ,Nat.reduceEqDiff,reduceIte,if_true,if_false,cB,dB,aG aX,aG bz,aG an,cA,cC,LV.kill,bH];exact rfl):p:=e.mpr k
end aw2
open aw2 in
theorem aJF (U V:Nat) (kU kV:List Rat) (rows:List (List ar)) (R:Nat) (hw:amp rows R):ax ak 88 [.agg [ae U,ae V,.list 3 (kU.map aa),.list 3 (kV.map aa),.list 1 (rows.map a5)]] (.list 9 ((rows.flatten.map (·.p)).map aE)):=by
 have jg:LV.pure (.agg [ae U,ae V,.list 3 (kU.map aa),.list 3 (kV.map aa),.list 1 (rows.map a5)])=true:=by simp [LV.pure,aK,aP an,aP cN]
 have hwn:=hw.n
 have hwf:=hw.f
 refine aR Tryz.func88 (ht:=(fun g=>LV.cQ g _ (cd aX 9 _))) ?_
 have eW:True:=trivial
 have iH:True:=trivial
 have avP:True:=trivial
 refine sE ?_
 refine jm ((az.kill _ 1).trans (az.own (t:=3) 25 9 rfl rfl)) ?_
 refine iv (fun(i:Nat) (ps:List ar) L=>(((((St.mk L.slot (hp [(25,⟨9,(ps.map (·.p)).map aE,true⟩)])).put (some 3) (.ref 25 9 0 ps.length)).put (some 9) (.list 1 (rows.map a5))).put (some 10) (ae rows.length)).put (some 11) (ae i))) (fun i ps=>uk rows i ps) (fun i ps=>rows.length-i) 0 ([]) (uk.zero rows) ?_
 rintro i ps L1 hI
 refine ay ?_
 refine aL rfl ?_ ?_<;>intro abL h12
 ·have dq:i<rows.length:=by omega
  refine nc ?_
  refine iv (fun(j:Nat) (qs:List ar) L=>((((((((St.mk L.slot (hp [(25,⟨9,(qs.map (·.p)).map aE,true⟩)])).put (some 3) (.ref 25 9 0 qs.length)).put (some 9) (.list 1 (rows.map a5))).put (some 10) (ae rows.length)).put (some 11) (ae i)).put (some 15) (.list 12 ((rows.getD i []).map bm))).put (some 16) (ae (rows.getD i []).length)).put (some 17) (ae j))) (fun j qs=>vf rows i j qs) (fun j qs=>(rows.getD i []).length-j) 0 ps (hI.go dq) ?_
  rintro j qs L2 hJ
  refine ay ?_
  refine aL rfl ?_ ?_<;>intro aau xT
  ·have dL:j<(rows.getD i []).length:=by omega
   have hJe:=hJ.hj
   have hJl:=hJ.le
   have hJi:=hJ.hi
   have hrm:=ac9 hJi
   have ma:=hw.m _ hrm
   have iH:(qs.map (·.p))++[((rows.getD i []).getD j default).p]=((qs++[((rows.getD i []).getD j default)]).map (·.p)):=by simp
   have eW:((qs.map (·.p)).map aE).take qs.length=(qs.map (·.p)).map aE:=cE aW
   have avP:(qs.map (·.p)).length=qs.length:=eD ..
   have hJ2:=hJ.lt dL
   refine iY ?_
   refine bO rfl (.fV (d:=25) (news:=[aE ((rows.getD i []).getD j default).p]) rfl rfl rfl rfl aW (.inl rfl) ai ox ox Z54 iQ cs B54 (.inl ⟨24,0,_,rfl,by decide,rfl,rfl,by simp,rfl,by simp [aK,aX.pure]⟩) bq bq ai) ?_
   refine aB ?_
   refine bR ((az.kill _ 7).trans (az.kill _ 24)) ?_
   refine ah rfl cu ?_
   refine aQ ?_
   exact fO (j+1) (qs++[((rows.getD i []).getD j default)]) (hJ.next dL)
  ·have hJe:=hJ.hj
   have hJl:=hJ.le
   have hJi:=hJ.hi
   have hrm:=ac9 hJi
   have ma:=hw.m _ hrm
   obtain rfl:j=(rows.getD i []).length:=by omega
   refine bf ?_
   refine ah rfl cu ?_
   refine aQ ?_
   exact fO (i+1) qs hJ.last (hm:=by have:=hJ.hi;omega)
 ·have hIi:=hI.hi
  obtain rfl:i=rows.length:=by omega
  have hE:=hI.last
  subst hE
  refine bw ?_
  exact lW [25] rfl rfl (dH aX rfl rfl (by rw [eD]))
open aas in
theorem aJA (R U V:Nat) (kU kV:List Rat) (rows:List (List ar)) (h:pf R U V rows) (hR:R<=200000):ax ak 41 [.agg [ae U,ae V,.list 3 (kU.map aa),.list 3 (kV.map aa),.list 1 (rows.map a5)]] (fY (xH (rows.flatten.map (·.p)))):=by
 have jg:LV.pure (.agg [ae U,ae V,.list 3 (kU.map aa),.list 3 (kV.map aa),.list 1 (rows.map a5)])=true:=by simp [LV.pure,aK,aP an,aP cN]
 have sa:=h.l16
 have h0:=h.pos
 have jf:(rows.flatten.map (·.p)).length=rows.flatten.length:=eD ..
 refine aR Tryz.func41 (ht:=(fun r=>LV.cQ r _ (og.pure _))) ?_
 refine bB ?_
 refine cp aO (aJF U V kU kV rows R h.rw) ?_
 refine cp aO (auM (rows.flatten.map (·.p)) J J R J (fun i hi=>h.fp hi)) ?_
 refine eQ ?_
 exact aeF
def gg (V:Nat) (rows:List (List ar)):List (List ar):=(fe (V+1)).map fun j=>rows.map fun r=>r.getD j default
theorem tj (V:Nat) (rows:List (List ar)):(gg V rows).length=V+1:=by simp [gg]
theorem afG {V:Nat} (rows:List (List ar)) {j:Nat} (h:j<V+1):(gg V rows)[j]?=some (rows.map fun r=>r.getD j default):=by
 rw [gg,gZ,List.getElem?_range h];rfl
theorem akf {V:Nat} (rows:List (List ar)) {j:Nat} (h:j<V+1):(gg V rows).getD j []=rows.map fun r=>r.getD j default:=by
 rw [bE,afG rows h];rfl
theorem aBT {V:Nat} (rows:List (List ar)) {j:Nat} (h:j<V+1):(gg V rows).take j++[rows.map fun r=>r.getD j default]=(gg V rows).take (j+1):=by
 rw [v8,afG rows h];rfl
theorem acA {α β:Type} [Inhabited α] (f:α->β) (l:List α) (d:α) {i:Nat} (h:i<l.length):(l.map f).take i++[f (l.getD i d)]=(l.map f).take (i+1):=by
 rw [v8,gZ,bE,bY h];rfl
theorem anz {R U V:Nat} {rows:List (List ar)} (h:pf R U V rows):pf R V U (gg V rows) where
 r1:=h.r1
 rB:=h.rB
 u1:=h.v1
 u3:=h.v3
 v1:=h.u1
 v3:=h.u3
 n:=tj ..
 m:=fun r hr=>by
  obtain⟨j,_,rfl⟩:=ga.1 hr
  rw [eD,h.n]
 ok:=fun r hr q hq=>by
  obtain⟨j,hj,rfl⟩:=ga.1 hr
  obtain⟨r',vY,rfl⟩:=ga.1 hq
  have dL:j<r'.length:=by rw [h.m r' vY];exact wF.1 hj
  exact h.ok r' vY _ (tG dL)
theorem aF2:cF ak 26 (plL []):=⟨Tryz.t26,_,by kernel_rfl,rfl,rfl,fun _ _ _=>aa6 3⟩
instance:EC ak 26 plL 1 false []:=⟨plE,aF2,T26⟩
theorem avN {a b:Int} {k:IntKind} (h:a=b):dM .neq k a b=some (.bool false):=by simp [dM,h]
theorem k5.le {R S:Nat} {q:ar} (h:k5 R q) (hRS:R<=S):k5 S q:=⟨h.1.le hRS,bb h.2.1 hRS,h.2.2⟩
theorem zh (bs:List Nat) (c:Nat) (y:bA) (l:List (Nat × bA)):vD bs ((c,y) :: l)=(c,⟨y.sz,y.vals,y.mt && !bs.contains c⟩) :: vD bs l:=rfl
namespace ar9
theorem aw {p q:Prop} (k:q) (e:p=q:=by simp only [e1,e2,e3,e4,p1,p2,p3,q1,q2,q3,l1,t0,t1,r1,r2,r3,r4,Nat.zero_add,Nat.reduceMul,Nat.reduceAdd,b1,b2,b3,b4,b5,b6,i1,i2,i3,i4,i5,i6,Nat.reduceBEq,mN,List.set_cons_zero,List.set_cons_succ,Nat.reduceEqDiff,reduceIte,if_true,if_false,cB,dB,aG aX,aG bz,aG an,cA,cC,LV.kill,bH,List.length_map];exact rfl):p:=e.mpr k
end ar9
open ar9 in
theorem aFH (f:Nat) (cap:List LV) (fx:aK cap=true) (jB:∀ x∈cap,x.av=1/\x.isAgg=false) (pr:List ar->Bool) (l:List (List ar)) (hl:l.length<=1048576) (hf:∀ x∈l,ax ak f ([a5 x]++cap) (bL (pr x))):ax ak 222 [.list 1 (l.map a5),.bQ f cap] (iL (xq pr l)):=by
 refine aR Tryz.func222 ?_
 refine df ?_
 refine dI (fun(i:Nat) L=>((((((St.mk L.slot (hp [])).put (some 0) (.list 1 (l.map a5))).put (some 1) (.bQ f cap)).put (some 6) (.list 1 (l.map a5))).put (some 7) (ae l.length)).put (some 8) (ae i))) (fun i=>i<=l.length/\∀ j,j<i->pr (l.getD j default)=false) (fun i=>l.length-i) 0 ⟨bS _,fun j hj=>absurd hj (Nat.not_lt_zero j)⟩ ?_
 rintro i L1 ⟨hi,h0⟩
 refine ay ?_
 refine aL rfl ?_ ?_<;>intro wg h9
 ·have dq:i<l.length:=by omega
  have hc:=hf _ (aFK dq)
  have hpp:=cN.pure (l.getD i [])
  refine iY ?_
  refine eN [] rfl rfl (.bQ (f:=f) (cap:=cap) (args:=[a5 (l.getD i [])]) rfl (.cons cG .nil) ⟨fx,jB⟩ hc.1 ai (fun _ h=>by cases h)) (hc.2 _) ?_
  refine aH ?_
  refine aL rfl ?_ ?_<;>intro vT sa
  ·have hV:xq pr l=(i:Int):=ajm dq h0 (by first | exact vT | exact sa)
   refine bw ?_
   rw [hV]
   exact jL
  ·have hn:∀ j,j<i+1->pr (l.getD j default)=false:=fun j hj=>by
    rcases Nat.lt_succ_iff_lt_or_eq.1 hj with e | rfl
    ·exact h0 j e
    ·first | exact vT | (simpa using sa)
   refine aB ?_
   refine ah rfl cu ?_
   refine aQ ?_
   exact lU (i+1) ⟨J,hn⟩
 ·obtain rfl:i=l.length:=by omega
  refine bC ?_
  rw [aw3 h0]
  exact jL
open ig in
theorem ar5 (f:Nat) (cap:List LV) (fx:aK cap=true) (jB:∀ x∈cap,x.av=1/\x.isAgg=false) (pr:List ar->Bool) (l:List (List ar)) (hl:l.length<=1048576) (hf:∀ x∈l,ax ak f ([a5 x]++cap) (bL (pr x))):ax ak 151 [.list 1 (l.map a5),.bQ f cap] (bL (l.any pr)):=by
 refine aR Tryz.func151 ?_
 refine bB ?_
 refine bM rfl (.cons (.pure (cd cN 1 _)) (.cons (.pure (show LV.pure (.bQ f cap)=true by simpa [LV.pure] using fx)) .nil)) (aFH f cap fx jB pr l hl hf) ?_
 refine a7 ?_
 rw [<-aBR]
 exact jL
namespace aoK
theorem aw {p q:Prop} (k:q) (e:p=q:=by simp only [e1,e2,e3,e4,p1,p2,p3,q1,q2,q3,l1,t0,t1,r1,r2,r3,r4,Nat.zero_add,Nat.reduceMul,Nat.reduceAdd,b1,b2,b3,b4,b5,b6,i1,i2,i3,i4,i5,i6,Nat.reduceBEq,a5,List.length_map,nW,aG cN,mN,cn,fo,eO,dW,List.length_cons,List.length_nil,List.nil_append,List.map_nil,List.take_nil,List.append_nil,List.set_cons_zero,List.set_cons_succ,Nat.reduceEqDiff,reduceIte,if_true,if_false,cB,dB,aG aX,aG bz,aG an,cA,cC,LV.kill,bH];exact rfl):p:=e.mpr k
end aoK
open aoK in
theorem aJj (U V:Nat) (kU kV:List Rat) (rows:List (List ar)) (r:List ar) (hl:V+1<=kV.length) (jb:kV.length<=1000) (hr:r.length=kV.length-V-1):ax ak 216 [a5 r,.ba (.agg [ae U,ae V,.list 3 (kU.map aa),.list 3 (kV.map aa),.list 1 (rows.map a5)])] (bL false):=by
 have jg:LV.pure (.agg [ae U,ae V,.list 3 (kU.map aa),.list 3 (kV.map aa),.list 1 (rows.map a5)])=true:=by simp [LV.pure,aK,aP an,aP cN]
 have jn:=cN.pure r
 have hpv:=cd an 3 kV
 refine aR Tryz.func216 ?_
 refine dk ?_
 refine cp au (aed kV V hl J) ?_
 refine ah rfl (.bin rfl rfl ((avN (by first | omega | (simp only [eD,a5];omega))))) ?_
 refine aB ?_
 exact jL
namespace avx
theorem aw {p q:Prop} (k:q) (e:p=q:=by simp only [e1,e2,e3,e4,p1,p2,p3,q1,q2,q3,l1,t0,t1,r1,r2,r3,r4,Nat.zero_add,Nat.reduceMul,Nat.reduceAdd,b1,b2,b3,b4,b5,b6,i1,i2,i3,i4,i5,i6,Nat.reduceBEq,a5,ag9,List.length_map,nW,aG cN,mN,cn,fo,eO,dW,List.length_cons,List.length_nil,List.nil_append,List.map_nil,List.take_nil,List.append_nil,List.set_cons_zero,List.set_cons_succ,Nat.reduceEqDiff,reduceIte,if_true,if_false,cB,dB,aG aX,aG bz,aG an,cA,cC,LV.kill,bH];exact rfl):p:=e.mpr k
end avx
open avx in
theorem aA2 (U V:Nat) (kU kV:List Rat) (rows:List (List ar)) (vk:yJ kU U) (tq:yJ kV V) (hn:rows.length=kU.length-U-1) (hm:∀ r∈rows,r.length=kV.length-V-1) (hq:∀ r∈rows,∀ q∈r,k5 64 q):ax ak 131 [.agg [ae U,ae V,.list 3 (kU.map aa),.list 3 (kV.map aa),.list 1 (rows.map a5)]] (bL true):=by
 have jg:LV.pure (.agg [ae U,ae V,.list 3 (kU.map aa),.list 3 (kV.map aa),.list 1 (rows.map a5)])=true:=by simp [LV.pure,aK,aP an,aP cN]
 have hU1:=vk.d1
 have hU6:=vk.d6
 have hUl:=vk.len
 have hUm:=vk.max
 have hV1:=tq.d1
 have hV6:=tq.d6
 have hVl:=tq.len
 have hVm:=tq.max
 have sW:aK [.ba (.agg [ae U,ae V,.list 3 (kU.map aa),.list 3 (kV.map aa),.list 1 (rows.map a5)])]=true:=by simp [aK,LV.pure,aP an,aP cN]
 refine aR Tryz.func131 ?_
 refine bf ?_
 refine aY 17 al ?_
 refine bf ?_
 refine cp au (aed kU U J J) ?_
 refine aH ?_
 refine ah (aM (v:=true) rfl rfl ((beq_iff_eq.2 jE)) rfl) gr ?_
 refine ah (aM (v:=true) rfl rfl ((beq_iff_eq.2 jE)) rfl) dE ?_
 refine eN [1] (aM (v:=true) rfl rfl ((beq_iff_eq.2 jE)) rfl) rfl (.mk (caps:=[.ba (.agg [ae U,ae V,.list 3 (kU.map aa),.list 3 (kV.map aa),.list 1 (rows.map a5)])]) (.cons (.aF rfl rfl rfl cs (cr cs rfl) jg rfl) .nil) (fun x hx=>by rw [fP.1 hx];exact⟨rfl,rfl⟩)) rfl ?_
 refine bM (aM (v:=true) rfl rfl ((beq_iff_eq.2 jE)) rfl) (.cons (.pure (cd cN 1 _)) (.cons (.pure (show LV.pure (.bQ 216 [.ba (.agg [ae U,ae V,.list 3 (kU.map aa),.list 3 (kV.map aa),.list 1 (rows.map a5)])])=true by simpa [LV.pure] using sW)) .nil)) (ar5 216 [.ba (.agg [ae U,ae V,.list 3 (kU.map aa),.list 3 (kV.map aa),.list 1 (rows.map a5)])] sW (fun x hx=>by rw [fP.1 hx];exact⟨rfl,rfl⟩) (fun _=>false) rows J (fun x hx=>aJj U V kU kV rows x J J (hm x hx))) ?_
 refine ah (aM (v:=true) rfl rfl ((beq_iff_eq.2 jE)) rfl) (.not rfl) ?_
 refine ah rfl (.gU rfl ((beq_iff_eq.2 jE))) ?_
 refine aB ?_
 refine dO ?_ (.pure rfl)
 first | rfl | (simp only [ag9];rfl)
def hZ (d:Nat) (k:List Rat) (C:List Q4):LV:=.agg [ae d,.list 3 (k.map aa),.list 12 (C.map cy)]
theorem l5 (d:Nat) (k:List Rat):gY (hZ d k) 3 true:=⟨fun _=>rfl,fun _=>rfl,fun C=>by simp [hZ,LV.pure,aK,aP an,aP dD]⟩
theorem zz (d:Nat) (k:List Rat) (b:Nat) (C:List Q4):(hZ d k C).kill b=hZ d k C:=LV.nz b _ ((l5 d k).pure C)
def bW (q:ar):Q4:=⟨q.w*q.p.x,q.w*q.p.y,q.w*q.p.z,q.w⟩
theorem ajd {q:ar} {R:Nat} (h:k5 R q):nB (2*R) (bW q):=by
 obtain⟨⟨h1,h2,h3⟩,h4,_⟩:=h
 have a:=cM q.w q.p.x
 have b:=cM q.w q.p.y
 have c:=cM q.w q.p.z
 exact⟨by show rl (q.w*q.p.x)<=_;omega,by show rl (q.w*q.p.y)<=_;omega,by show rl (q.w*q.p.z)<=_;omega,by show rl q.w<=_;omega⟩
theorem aCi {R U V:Nat} {rows:List (List ar)} (h:pf R U V rows) {i:Nat} (hi:i<U+1):(gg V rows).map (fun r=>r.getD i default)=rows.getD i []:=by
 have tX:=h.r0 (ajS hi)
 have hn:=h.n
 refine yf (by rw [eD,tj,tX]) fun j h1 h2=>?_
 rw [List.getElem_map]
 have hj:j<V+1:=by rw [eD,tj] at h1;exact h1
 have e:(gg V rows)[j]'(by rw [tj];exact hj)=(gg V rows).getD j []:=by rw [bE,bY (by rw [tj];exact hj)];rfl
 rw [e,akf rows hj,bE,gZ,bY J]
 have g:rows.getD i []=rows[i]' J:=by rw [bE,bY J];rfl
 show rows[i].getD j default=_
 rw [bE,bY (by rw [<-g,tX];exact hj)]
 simp only [Option.getD_some,g]
theorem atN {R U V:Nat} {rows:List (List ar)} (h:pf R U V rows):gg U (gg V rows)=rows:=by
 have hn:=h.n
 refine yf (by rw [tj,hn]) fun i h1 h2=>?_
 have hi:i<U+1:=by rw [tj] at h1;exact h1
 have e:(gg U (gg V rows))[i]=(gg U (gg V rows)).getD i []:=by rw [bE,bY h1];rfl
 rw [e,akf _ hi,aCi h hi,bE,bY h2];rfl
open ig in
theorem aB8 (a b:Rat) (ha:rl a<=1000) (hb:rl b<=1000) (cY:a<=b):ax ak 140 [aD (a,b)] (bL true):=by
 have hc:=ae1.2 cY
 refine aR Tryz.func140 ?_
 refine bh ?_
 refine cp aO (akX a J) ?_
 refine ao ?_
 refine ah (aM (v:=true) rfl rfl ((rfl)) rfl) gr ?_
 refine ah (aM (v:=true) rfl rfl ((rfl)) rfl) dE ?_
 refine bM (aM (v:=true) rfl rfl ((rfl)) rfl) (.cons cG .nil) (akX b J) ?_
 refine ah rfl (.gU rfl ((rfl))) ?_
 refine ao ?_
 refine ah (aM (v:=true) rfl rfl ((rfl)) rfl) gr ?_
 refine ah (aM (v:=true) rfl rfl ((rfl)) rfl) dE ?_
 refine ah (aM (v:=true) rfl rfl ((rfl)) rfl) gr ?_
 refine ah (aM (v:=true) rfl rfl ((rfl)) rfl) dE ?_
 refine bM (aM (v:=true) rfl rfl ((rfl)) rfl) (.cons cG (.cons cG .nil)) (mG a b J) ?_
 refine ah (aM (v:=true) rfl rfl ((rfl)) rfl) (.bin rfl rfl rfl) ?_
 refine ah rfl (.gU rfl ((rfl))) ?_
 refine aB ?_
 refine dO (x:=bL (decide (gp a b<=0))) rfl ?_
 rw [decide_eq_true hc]
 exact .pure rfl
open aas in
theorem anR (U V:Nat) (kU kV:List Rat) (rows:List (List ar)) (vk:yJ kU U) (tq:yJ kV V) (hn:rows.length=kU.length-U-1) (hm:∀ r∈rows,r.length=kV.length-V-1) (hq:∀ r∈rows,∀ q∈r,k5 64 q):ax ak 73 [.agg [ae U,ae V,.list 3 (kU.map aa),.list 3 (kV.map aa),.list 1 (rows.map a5)]] (bL true):=by
 have jg:LV.pure (.agg [ae U,ae V,.list 3 (kU.map aa),.list 3 (kV.map aa),.list 1 (rows.map a5)])=true:=by simp [LV.pure,aK,aP an,aP cN]
 refine aR Tryz.func73 ?_
 refine bw ?_
 refine cp au (al7 kU U vk) ?_
 refine aH ?_
 refine ah (aM (v:=true) rfl rfl ((rfl)) rfl) gr ?_
 refine ah (aM (v:=true) rfl rfl ((rfl)) rfl) dE ?_
 refine ah (aM (v:=true) rfl rfl ((rfl)) rfl) gr ?_
 refine ah (aM (v:=true) rfl rfl ((rfl)) rfl) dE ?_
 refine bM (aM (v:=true) rfl rfl ((rfl)) rfl) (.cons cG (.cons cG .nil)) (al7 kV V tq) ?_
 refine ah (aM (v:=true) rfl rfl ((rfl)) rfl) (.bin rfl rfl rfl) ?_
 refine ah rfl (.gU rfl ((rfl))) ?_
 refine ao ?_
 refine ah (aM (v:=true) rfl rfl ((rfl)) rfl) dE ?_
 refine bM (aM (v:=true) rfl rfl ((rfl)) rfl) (.cons cG .nil) (aA2 U V kU kV rows vk tq hn hm hq) ?_
 refine ah rfl (.gU rfl ((rfl))) ?_
 refine aB ?_
 exact jL
open ig in
theorem ayq (q:ar) (R:Nat) (hR:R<=1000000) (h:k5 R q):ax ak 154 [bm q] (bm q):=by
 obtain⟨hp,hw,kp⟩:=h
 have hA:=fA q.w 0 (by have:rl 0=1:=rfl;omega)
 rw [jC] at hA
 have hV:ax ak 223 [aE q.p,aE ⟨0,0,0⟩] (aE q.p):=by
  have:=awp q.p ⟨0,0,0⟩ (R+1) J ⟨bb hp.1 J,bb hp.2.1 J,bb hp.2.2 J⟩ ⟨by have:rl 0=1:=rfl;show rl 0<=_;omega,by have:rl 0=1:=rfl;show rl 0<=_;omega,by have:rl 0=1:=rfl;show rl 0<=_;omega⟩
  unfold ym at this
  simp only [jC] at this
  exact this
 refine aR Tryz.func154 (ht:=(fun g=>LV.cQ g _ (bz.pure _))) ?_
 refine bf ?_
 refine aY 9 al ?_
 refine aH ?_
 refine aag akO ?_
 refine cp au (hV) ?_
 refine aH ?_
 refine ah rfl rE ?_
 refine cp au (hA) ?_
 refine aag (alU (p:=q.p) (r:=q.w) rfl rfl) ?_
 refine aB ?_
 exact fi [] rfl rfl rfl cs (cr cs rfl) mO (.pure pu)
namespace as7
theorem aw {p q:Prop} (k:q) (e:p=q:=by simp only [e1,e2,e3,e4,p1,p2,p3,q1,q2,q3,l1,t0,t1,r1,r2,r3,r4,Nat.zero_add,Nat.reduceMul,Nat.reduceAdd,b1,b2,b3,b4,b5,b6,i1,i2,i3,i4,i5,i6,Nat.reduceBEq,a5,eW,wJ,tb,qX,lE,uI,aG cN,List.length_map,List.take_nil,List.nil_append,dW,nW,aG cN,mN,cn,fo,eO,dW,List.length_cons,List.length_nil,List.nil_append,List.map_nil,List.take_nil,List.append_nil,List.set_cons_zero,List.set_cons_succ,Nat.reduceEqDiff,reduceIte,if_true,if_false,cB,dB,aG aX,aG bz,aG an,cA,cC,LV.kill,bH];exact rfl):p:=e.mpr k
end as7
open as7 in
theorem aez (R U V:Nat) (rows:List (List ar)) (h:pf R U V rows):ax ak 144 [.list 1 (rows.map a5)] (.list 1 ((gg V rows).map a5)):=by
 have jn:=cd cN 1 rows
 have lV:=h.u3
 have ny:=h.v3
 have uI:=h.n
 have lE:=h.r0 (bS U)
 have gO:=tj V rows
 refine aR Tryz.func144 (ht:=(fun g=>LV.cQ g _ (cd cN 1 _))) ?_
 have eW:True:=trivial
 have wJ:True:=trivial
 have tb:True:=trivial
 have qX:True:=trivial
 refine nO ?_
 refine dp (b:=_) rfl (beq_eq_false_iff_ne.2 acW) ?_
 refine dk ?_
 refine jm (az.own (t:=3) 36 1 rfl rfl) ?_
 refine dI (fun(j:Nat) L=>(((((St.mk L.slot (hp [(36,⟨1,((gg V rows).take j).map a5,true⟩)])).put (some 0) (.list 1 (rows.map a5))).put (some 3) (.ref 36 1 0 j)).put (some 13) (ae (V+1))).put (some 14) (ae j))) (fun j=>j<=V+1) (fun j=>V+1-j) 0 (bS _) ?_
 rintro j L1 hj
 refine ay ?_
 refine aL rfl ?_ ?_<;>intro oG mV
 ·have dL:j<V+1:=by omega
  have wJ:(((gg V rows).take j).map a5).take j=((gg V rows).take j).map a5:=cE bq
  have tb:((gg V rows).take j).map a5++[LV.list 12 ((rows.map fun r=>r.getD j default).map bm)]=((gg V rows).take (j+1)).map a5:=by
   show ((gg V rows).take j).map a5++[a5 (rows.map fun r=>r.getD j default)]=_
   rw [eO,aBT rows dL]
  refine yE ?_
  refine jm (az.own (t:=5) 31 12 rfl rfl) ?_
  refine dI (fun(i:Nat) L=>(((((((((St.mk L.slot (hp [(36,⟨1,((gg V rows).take j).map a5,true⟩),(31,⟨12,((rows.map fun r=>r.getD j default).take i).map bm,true⟩)])).put (some 0) (.list 1 (rows.map a5))).put (some 3) (.ref 36 1 0 j)).put (some 13) (ae (V+1))).put (some 14) (ae j)).put (some 4) (ae j)).put (some 5) (.ref 31 12 0 i)).put (some 18) (ae (U+1))).put (some 19) (ae i))) (fun i=>i<=U+1) (fun i=>U+1-i) 0 (bS _) ?_
  rintro i L2 hi
  refine ay ?_
  refine aL rfl ?_ ?_<;>intro aae ze
  ·have dq:i<U+1:=by omega
   have tX:=h.r0 (ajS dq)
   have eW:(((rows.map fun r=>r.getD j default).take i).map bm).take i=((rows.map fun r=>r.getD j default).take i).map bm:=cE bq
   have qX:=acA (fun r:List ar=>r.getD j default) rows [] (i:=i) J
   refine lF ?_
   refine bO rfl (.fV (d:=31) (news:=[bm ((rows.getD i []).getD j default)]) rfl rfl rfl rfl bq (.inl rfl) ai kj kj pz mO cs abO (.inl ⟨30,0,_,rfl,by decide,rfl,rfl,by simp,rfl,by simp [aK,bz.pure]⟩) bq bq ai) ?_
   refine aB ?_
   refine bR (az.kill _ 30) ?_
   refine ah rfl cu ?_
   refine aQ ?_
   exact lK
  ·obtain rfl:i=U+1:=by omega
   rw [(cE jQ:(rows.map fun r=>r.getD j default).take (U+1)=(rows.map fun r=>r.getD j default))]
   refine a7 ?_
   refine bR (az.hand (t:=5) (b:=31) bz rfl rfl bq) ?_
   refine aQ ?_
   refine bO rfl (.fV (d:=36) (news:=[a5 (rows.map fun r=>r.getD j default)]) rfl rfl rfl rfl yO (.inl rfl) ai qb qb prZ uT cs B62 (.inl ⟨35,0,_,rfl,by decide,rfl,rfl,by simp,rfl,by simp [aK,cN.pure]⟩) yO yO ai) ?_
   refine aB ?_
   refine bR (az.kill _ 35) ?_
   refine ah rfl cu ?_
   refine aQ ?_
   exact qp
 ·obtain rfl:j=V+1:=by omega
  rw [cE (by omega:(gg V rows).length<=V+1)]
  refine bw ?_
  exact lW [36] rfl rfl (dH cN rfl rfl (tj V rows).symm)
end Go.Proofs.YthcadngkamjpdaaGreat
namespace Go.Lg
theorem az.aq2 {L:St} (b:Nat) (bs:List Nat) (h0:bs.contains 0=false) {sz:Nat} {x y:LV} {mt:Bool} (hb:(L.ca bs).heap b=some ⟨sz,[x],mt⟩) (hi:da (L.ca bs).heap x y):az L ((L.ca bs).bU b (some ⟨sz,[y],mt⟩)):=by
 rintro n W X Z0 a w ⟨eh,bT,μ,Z,te,hr⟩
 obtain⟨Z',hc,hz⟩:=te.v7 (ux bs h0)
 refine⟨eh,bT,μ,Z',?_,fun s=>bu.mono hz (fun _ _ h=>h) (Frame.refl Z μ w) (hr s)⟩
 have hs:∀ c,((L.ca bs).bU b (some ⟨sz,[y],mt⟩)).heap c=if c=b then some ⟨sz,[y],mt⟩ else(L.ca bs).heap c:=fun c=>rfl
 refine⟨hc.cx,hc.lg,hc.jy,hc.lh,hc.inj,hc.own,hc.x0,hc.nV,hc.x1,fun c id blk g1 g2=>?_,fun c id blk g1 g2=>?_,fun c id g1=>?_⟩
 ·rw [hs] at g2
  split at g2
  ·rename_i e;subst e;cases g2;exact hc.ja c id ⟨sz,[x],mt⟩ g1 hb
  ·exact hc.ja c id blk g1 g2
 ·rw [hs] at g2
  split at g2
  ·rename_i e;subst e;cases g2;exact hc.ca c id ⟨sz,[x],mt⟩ g1 hb
  ·exact hc.ca c id blk g1 g2
 ·obtain⟨blk,k1,k2⟩:=hc.heap c id g1
  rw [hs]
  by_cases e:c=b
  ·subst e
   rw [if_pos rfl]
   rw [hb] at k1
   cases k1
   refine⟨_,rfl,?_⟩
   obtain⟨cs,T,part,rest,e1,e2,e3⟩:=k2
   refine⟨cs,T,part,rest,e1,e2,?_⟩
   simp only [a6] at e3 ⊢
   obtain⟨c1,c2,q1,q2,q3,q4⟩:=e3
   exact⟨c1,c2,q1,q2,da.sound (bD:=μ) hc hi q3,q4⟩
  ·rw [if_neg e];exact⟨blk,k1,k2⟩
end Go.Lg
namespace Go.Proofs.YthcadngkamjpdaaGreat
open Go.Lg
theorem aza {d:Nat} {k:List Rat} {cs:List (List Q4)} {i:Nat} (h:i<cs.length):(cs.map (hZ d k))[((i:Nat):Int).toNat]?=some (hZ d k (cs.getD i [])):=by
 rw [Int.toNat_natCast,gZ,bE,bY h];rfl
theorem aB3 {P:Program} {ρ:Operand->LV} {T E:TypeId} {x:Operand} {d n:Nat} {k:List Rat} {C:List Q4} {z:LV} (hT:P.underlying T=some (.slice E)) (hz:cF P E z) (hzc:z.av=3) (uw:z.isAgg=true) (hE:bK P E 3 true)
  (hx:ρ x=hZ n k C):dA P ρ d (.buildSlice T 1 #[(0,x)]) (.ref d 3 0 1) ⟨3,[C].map (hZ n k),true⟩:=by
 have:=dA.lit (P:=P) (ρ:=ρ) (d:=d) (T:=T) (n:=1) (ps:=#[(0,x)]) hT hz (by rw [uw];exact hE) hzc J J J (by
  intro p hp
  simp only [fP] at hp
  subst hp
  refine⟨by simp,?_,by rw [hx];exact LV.dT ((l5 n k).pure _),by rw [hx];exact LV.dG ((l5 n k).pure _)⟩
  simp [lay,hx,(l5 n k).av,(l5 n k).isAgg,hzc,uw])
 simpa [jK,hx,aV] using this
def kC (V:Nat) (rows:List (List ar)):List (List Q4):=(gg V rows).map fun c=>c.map bW
theorem wH (V:Nat) (rows:List (List ar)):(kC V rows).length=V+1:=by rw [kC,eD,tj]
theorem aJd {V:Nat} (rows:List (List ar)) {j:Nat} (h:j<V+1):(kC V rows).getD j []=(rows.map fun r=>r.getD j default).map bW:=by
 rw [kC,bE,gZ,afG rows h];rfl
theorem aF8 {V:Nat} (rows:List (List ar)) {j:Nat} (h:j<V+1):(kC V rows).take j++[(rows.map fun r=>r.getD j default).map bW]=(kC V rows).take (j+1):=by
 rw [kC,v8,gZ,afG rows h];rfl
theorem ayd {R U V:Nat} {rows:List (List ar)} (h:pf R U V rows) {j:Nat} (hj:j<V+1):∀ q∈(rows.map fun r=>r.getD j default),k5 R q:=fun q hq=>by
 obtain⟨r,hr,rfl⟩:=ga.1 hq
 exact h.ok r hr _ (tG (by rw [h.m r hr];exact hj))
theorem aB6 {l:List ar} {i:Nat} (h:i<l.length):(l.map bW).getD i default=bW (l.getD i default):=by
 rw [bE,gZ,bE,bY h];rfl
def kk (k:List Rat):Nat->List Rat
 | 0=>[]
 | _+1=>k
def uu (u:Nat):Nat->Nat
 | 0=>0
 | _+1=>u
theorem ayB (a b d e:LV) (Z:Nat->Prop) (μ:Nat->Option Nat) (w:World) (cs:List Value) (h:aJ Z μ w (.agg [a,b,.v (.slice none 0 0),d,e]) cs):aJ Z μ w (.agg [a,b,.list 3 [],d,e]) cs:=by
 simp only [aJ,cj] at h ⊢
 obtain⟨c1,c2,e1,e2,e3,c3,c4,e4,e5,e6,c5,c6,e7,e8,e9,e10⟩:=h
 exact⟨c1,c2,e1,e2,e3,c3,c4,e4,e5,e6,c5,c6,e7,e8,⟨none,0,0,e9.1,rfl,bF _,.inl trivial,rfl⟩,e10⟩
namespace auv
theorem aw {p q:Prop} (k:q) (e:p=q:=by simp only [e1,e2,e3,e4,p1,p2,p3,q1,q2,q3,l1,t0,t1,r1,r2,r3,r4,Nat.zero_add,Nat.reduceMul,Nat.reduceAdd,b1,b2,b3,b4,b5,b6,i1,i2,i3,i4,i5,i6,Nat.reduceBEq,a5,ecj,eW,wJ,qX,tb,gO,pB,p9,zh,aG cN,List.length_map,fo,eO,dW,List.length_cons,List.length_nil,List.nil_append,List.map_nil,List.take_nil,List.append_nil,ur,aG dD,zz,aG (l5 U kU),nW,aG cN,mN,cn,fo,eO,dW,List.length_cons,List.length_nil,List.nil_append,List.map_nil,List.take_nil,List.append_nil,List.set_cons_zero,List.set_cons_succ,Nat.reduceEqDiff,reduceIte,if_true,if_false,cB,dB,aG aX,aG bz,aG an,cA,cC,LV.kill,bH];exact rfl):p:=e.mpr k
end auv
open auv in
theorem auC (R U V:Nat) (kU kV:List Rat) (rows:List (List ar)) (h:pf R U V rows) (xZ:kU.length<=100) (uY:kV.length<=100) (abq:∀ x∈kU,rl x<=1000) (aaE:∀ x∈kV,rl x<=1000) (hR:R<=200000):ax ak 143 [.agg [ae U,ae V,.list 3 (kU.map aa),.list 3 (kV.map aa),.list 1 (rows.map a5)]] (.list 3 ((kC V rows).map (hZ U kU))):=by
 have jg:LV.pure (.agg [ae U,ae V,.list 3 (kU.map aa),.list 3 (kV.map aa),.list 1 (rows.map a5)])=true:=by simp [LV.pure,aK,aP an,aP cN]
 have jn:=cd cN 1 rows
 have oT:=cd cN 1 (gg V rows)
 have kI:=cd an 3 kU
 have hpv:=cd an 3 kV
 have lV:=h.u3
 have ny:=h.v3
 have uI:=h.n
 have lE:=h.r0 (bS U)
 have gO:=tj V rows
 have hhl:=wH V rows
 have hT:=aez R U V rows h
 refine aR Tryz.func143 (ht:=(fun g=>LV.cQ g _ (cd (l5 U kU) 3 _))) ?_
 have ecj:True:=trivial
 have eW:True:=trivial
 have wJ:True:=trivial
 have qX:True:=trivial
 have tb:True:=trivial
 have pB:True:=trivial
 refine nm ?_
 refine cp aO (hT) ?_
 refine a7 ?_
 refine jm (az.own (t:=3) 39 3 rfl rfl) ?_
 refine dI (fun(j:Nat) L=>((((((St.mk L.slot (hp [(1,⟨5,[.agg [ae U,ae V,.list 3 (kU.map aa),.list 3 (kV.map aa),.list 1 (rows.map a5)]],true⟩),(39,⟨3,((kC V rows).take j).map (hZ U kU),true⟩)])).put (some 1) (.aF 1 5 0 0)).put (some 3) (.ref 39 3 0 j)).put (some 11) (.list 1 ((gg V rows).map a5))).put (some 12) (ae (V+1))).put (some 13) (ae j))) (fun j=>j<=V+1) (fun j=>V+1-j) 0 (bS _) ?_
 rintro j L1 hj
 refine ay ?_
 refine aL rfl ?_ ?_<;>intro um nA
 ·have dL:j<V+1:=by omega
  have ecj:=akf (V:=V) rows dL
  have pB:(rows.map fun r=>r.getD j default).length=U+1:=by rw [eD,uI]
  have mC:((rows.map fun r=>r.getD j default).map bW).length=U+1:=by rw [eD,eD,uI]
  have wJ:(((kC V rows).take j).map (hZ U kU)).take j=((kC V rows).take j).map (hZ U kU):=cE bq
  have tb:((kC V rows).take j).map (hZ U kU)++[hZ U kU ((rows.map fun r=>r.getD j default).map bW)]=((kC V rows).take (j+1)).map (hZ U kU):=by rw [eO,aF8 rows dL]
  refine ano ?_
  refine jm ((az.cell 6 rfl (fun Z μ w cs h=>vU 33 12 _ _ Z μ w cs h)).trans (az.ov _ 33 12 rfl)) ?_
  refine dI (fun(i:Nat) L=>((((((((((St.mk L.slot (hp [(1,⟨5,[.agg [ae U,ae V,.list 3 (kU.map aa),.list 3 (kV.map aa),.list 1 (rows.map a5)]],true⟩),(39,⟨3,((kC V rows).take j).map (hZ U kU),true⟩),(6,⟨3,[.agg [ae U,.list 3 (kU.map aa),.ref 33 12 0 i]],true⟩),(33,⟨12,(((rows.map fun r=>r.getD j default).map bW).take i).map cy,true⟩)])).put (some 1) (.aF 1 5 0 0)).put (some 3) (.ref 39 3 0 j)).put (some 11) (.list 1 ((gg V rows).map a5))).put (some 12) (ae (V+1))).put (some 13) (ae j)).put (some 6) (.aF 6 3 0 0)).put (some 22) (.list 12 ((rows.map fun r=>r.getD j default).map bm))).put (some 23) (ae (U+1))).put (some 24) (ae i))) (fun i=>i<=U+1) (fun i=>U+1-i) 0 (bS _) ?_
  rintro i L2 hi
  refine ay ?_
  refine aL rfl ?_ ?_<;>intro afB yD
  ·have dq:i<U+1:=by omega
   have nE:=ayd h dL _ (tG (po:=(rows.map fun r=>r.getD j default)) (j:=i) J)
   have eW:((((rows.map fun r=>r.getD j default).map bW).take i).map cy).take i=(((rows.map fun r=>r.getD j default).map bW).take i).map cy:=cE bq
   have qX:=acA bW (rows.map fun r=>r.getD j default) default (i:=i) J
   have hOf:ax ak 179 [bm ((rows.map fun r=>r.getD j default).getD i default)] (cy (bW ((rows.map fun r=>r.getD j default).getD i default))):=ajv ((rows.map fun r=>r.getD j default).getD i default) R J nE
   refine bw ?_
   refine aY 5 al ?_
   refine aQ ?_
   refine cp aO (hOf) ?_
   refine ao ?_
   refine bO rfl (.fV (d:=33) (news:=[cy (bW ((rows.map fun r=>r.getD j default).getD i default))]) rfl rfl rfl rfl bq (.inl rfl) ai jv jv abl kF cs afV (.inl ⟨32,0,_,rfl,by decide,rfl,rfl,by simp,rfl,by simp [aK,dD.pure]⟩) bq bq ai) ?_
   refine a7 ?_
   refine bR ((az.kill _ 8).trans (az.kill _ 32)) ?_
   refine ah rfl cu ?_
   refine aQ ?_
   exact lK
  ·obtain rfl:i=U+1:=by omega
   rw [(cE J:((rows.map fun r=>r.getD j default).map bW).take (U+1)=((rows.map fun r=>r.getD j default).map bW))]
   refine a7 ?_
   refine bR ((az.aq2 6 [33] rfl rfl (.agg (.cons (.pure rfl) (.cons (.pure kI) (.cons (dH (l:=((rows.map fun r=>r.getD j default).map bW)) dD rfl rfl mC.symm) .nil))))).trans (az.kill _ 33)) ?_
   refine aw ?_
   refine aH ?_
   refine aw ?_
   refine dF rfl rfl (aB3 acH am7 rfl rfl qz rfl) ?_
   refine bO rfl (.fV (d:=39) (news:=[hZ U kU ((rows.map fun r=>r.getD j default).map bW)]) rfl rfl rfl rfl an6 (.inl rfl) ai acH acH am7 qz rfl aGc (.inl ⟨38,0,_,rfl,by decide,rfl,rfl,by simp,rfl,by simp [aK,(l5 U kU).pure]⟩) an6 an6 ai) ?_
   refine aB ?_
   refine bR ((az.kill _ 6).trans (az.kill _ 38)) ?_
   refine ah rfl cu ?_
   refine aQ ?_
   exact qp
 ·obtain rfl:j=V+1:=by omega
  rw [cE (by rw [wH];omega:(kC V rows).length<=V+1)]
  refine bw ?_
  exact lW [39] rfl rfl (dH (l5 U kU) rfl rfl (by rw [wH]))
namespace aqH
theorem aw {p q:Prop} (k:q) (e:p=q:=by simp only [e1,e2,e3,e4,p1,p2,p3,q1,q2,q3,l1,t0,t1,r1,r2,r3,r4,Nat.zero_add,Nat.reduceMul,Nat.reduceAdd,b1,b2,b3,b4,b5,b6,i1,i2,i3,i4,i5,i6,Nat.reduceBEq,a5,wJ,eW,tb,qX,erl,p9,zh,lE,uI,aG cN,List.length_map,fo,eO,dW,List.length_cons,List.length_nil,List.nil_append,List.map_nil,List.take_nil,List.append_nil,nW,aG cN,mN,cn,fo,eO,dW,List.length_cons,List.length_nil,List.nil_append,List.map_nil,List.take_nil,List.append_nil,List.set_cons_zero,List.set_cons_succ,Nat.reduceEqDiff,reduceIte,if_true,if_false,cB,dB,aG aX,aG bz,aG an,cA,cC,LV.kill,bH];exact rfl):p:=e.mpr k
end aqH
open aqH in
theorem aF7 (R U V:Nat) (kU kV:List Rat) (rows:List (List ar)) (h:pf R U V rows) (xZ:kU.length<=100) (uY:kV.length<=100) (abq:∀ x∈kU,rl x<=1000) (aaE:∀ x∈kV,rl x<=1000) (hR:R<=200000) (f:Nat) (hf:∀ q,k5 R q->ax ak f [bm q] (bm q)):ax ak 153 [.agg [ae U,ae V,.list 3 (kU.map aa),.list 3 (kV.map aa),.list 1 (rows.map a5)],.bQ f []] (.agg [ae U,ae V,.list 3 (kU.map aa),.list 3 (kV.map aa),.list 1 (rows.map a5)]):=by
 have jg:LV.pure (.agg [ae U,ae V,.list 3 (kU.map aa),.list 3 (kV.map aa),.list 1 (rows.map a5)])=true:=by simp [LV.pure,aK,aP an,aP cN]
 have jn:=cd cN 1 rows
 have oT:=cd cN 1 (gg V rows)
 have kI:=cd an 3 kU
 have hpv:=cd an 3 kV
 have lV:=h.u3
 have ny:=h.v3
 have uI:=h.n
 have lE:=h.r0 (bS U)
 have gO:=tj V rows
 have hhl:=wH V rows
 have hT:=aez R U V rows h
 have hCU:=aap kU J (fun x hx=>bb (abq x hx) ai)
 have hCV:=aap kV J (fun x hx=>bb (aaE x hx) ai)
 refine aR Tryz.func153 (ht:=(fun g=>LV.cQ g _ aaN)) ?_
 have wJ:True:=trivial
 have eW:True:=trivial
 have tb:True:=trivial
 have qX:True:=trivial
 have erl:True:=trivial
 refine bf ?_
 refine aY 12 al ?_
 refine ay ?_
 refine cp aO (hCU) ?_
 refine aH ?_
 refine cp aO (hCV) ?_
 refine eQ ?_
 refine jm (((az.kill _ 2).trans (az.cell 5 rfl (fun Z μ w cs h=>aIM 46 1 _ _ _ _ Z μ w cs h))).trans (az.ov _ 46 1 rfl)) ?_
 refine dI (fun(i:Nat) L=>(((((((St.mk L.slot (hp [(4,⟨5,[.agg [.v (.int .i64 0),.v (.int .i64 0),.v (.slice none 0 0),.v (.slice none 0 0),.v (.slice none 0 0)]],true⟩),(5,⟨5,[.agg [ae U,ae V,.list 3 (kU.map aa),.list 3 (kV.map aa),.ref 46 1 0 i]],true⟩),(46,⟨1,(rows.take i).map a5,true⟩)])).put (some 1) (.bQ f [])).put (some 4) (.aF 4 5 0 0)).put (some 5) (.aF 5 5 0 0)).put (some 23) (.list 1 (rows.map a5))).put (some 24) (ae (U+1))).put (some 25) (ae i))) (fun i=>i<=U+1) (fun i=>U+1-i) 0 (bS _) ?_
 rintro i L1 hi
 refine ay ?_
 refine aL rfl ?_ ?_<;>intro aLG h26
 ·have dq:i<U+1:=by omega
  have erl:=h.r0 (ajS dq)
  have wJ:((rows.take i).map a5).take i=(rows.take i).map a5:=cE bq
  have tb:(rows.take i).map a5++[LV.list 12 ((rows.getD i []).map bm)]=(rows.take (i+1)).map a5:=by
   show (rows.take i).map a5++[a5 (rows.getD i [])]=_
   have:=acA (fun r:List ar=>r) rows [] (i:=i) J
   rw [ars] at this
   rw [eO,this]
  refine uS ?_
  refine jm (az.own (t:=8) 40 12 rfl rfl) ?_
  refine dI (fun(j:Nat) L=>(((((((((((St.mk L.slot (hp [(4,⟨5,[.agg [.v (.int .i64 0),.v (.int .i64 0),.v (.slice none 0 0),.v (.slice none 0 0),.v (.slice none 0 0)]],true⟩),(5,⟨5,[.agg [ae U,ae V,.list 3 (kU.map aa),.list 3 (kV.map aa),.ref 46 1 0 i]],true⟩),(46,⟨1,(rows.take i).map a5,true⟩),(40,⟨12,((rows.getD i []).take j).map bm,true⟩)])).put (some 1) (.bQ f [])).put (some 4) (.aF 4 5 0 0)).put (some 5) (.aF 5 5 0 0)).put (some 23) (.list 1 (rows.map a5))).put (some 24) (ae (U+1))).put (some 25) (ae i)).put (some 8) (.ref 40 12 0 j)).put (some 29) (.list 12 ((rows.getD i []).map bm))).put (some 30) (ae (V+1))).put (some 31) (ae j))) (fun j=>j<=V+1) (fun j=>V+1-j) 0 (bS _) ?_
  rintro j L2 hj
  refine ay ?_
  refine aL rfl ?_ ?_<;>intro ael h32
  ·have dL:j<V+1:=by omega
   have nE:=h.ok _ (ac9 J) _ (tG (po:=(rows.getD i [])) (j:=j) J)
   have hc:=hf _ nE
   have eW:(((rows.getD i []).take j).map bm).take j=((rows.getD i []).take j).map bm:=cE bq
   have qX:(rows.getD i []).take j++[((rows.getD i []).getD j default)]=(rows.getD i []).take (j+1):=by
    have:=acA (fun q:ar=>q) (rows.getD i []) default (i:=j) J
    rwa [ars] at this
   refine nm ?_
   refine eN [] rfl rfl (.bQ (f:=f) (cap:=[]) (args:=[bm ((rows.getD i []).getD j default)]) rfl (.cons cG .nil) ⟨rfl,fun _ h=>by cases h⟩ hc.1 ai (fun _ h=>by cases h)) (hc.2 _) ?_
   refine ao ?_
   refine bO rfl (.fV (d:=40) (news:=[bm ((rows.getD i []).getD j default)]) rfl rfl rfl rfl adG (.inl rfl) ai kj kj pz mO cs abO (.inl ⟨39,0,_,rfl,by decide,rfl,rfl,by simp,rfl,by simp [aK,bz.pure]⟩) adG adG ai) ?_
   refine aB ?_
   refine bR ((az.kill _ 10).trans (az.kill _ 39)) ?_
   refine ah rfl cu ?_
   refine aQ ?_
   exact qp
  ·obtain rfl:j=V+1:=by omega
   rw [(cE J:(rows.getD i []).take (V+1)=(rows.getD i []))]
   refine a7 ?_
   refine bR (az.hand (t:=8) (b:=40) bz rfl rfl J) ?_
   refine aB ?_
   refine bO rfl (.fV (d:=46) (news:=[a5 (rows.getD i [])]) rfl rfl rfl rfl yO (.inl rfl) ai qb qb prZ uT cs B62 (.inl ⟨45,0,_,rfl,by decide,rfl,rfl,by simp,rfl,by simp [aK,cN.pure]⟩) yO yO ai) ?_
   refine a7 ?_
   refine bR (az.kill _ 45) ?_
   refine ah rfl cu ?_
   refine aQ ?_
   exact lK
 ·obtain rfl:i=U+1:=by omega
  rw [cE (by omega:rows.length<=U+1)]
  refine bw ?_
  exact fi [46] rfl rfl rfl cs (cr cs rfl) nd (.agg (.cons (.pure rfl) (.cons (.pure rfl) (.cons (.pure kI) (.cons (.pure hpv) (.cons (dH (l:=rows) cN rfl rfl uI.symm) .nil))))))
namespace avF
theorem aw {p q:Prop} (k:q) (e:p=q:=by simp only [e1,e2,e3,e4,p1,p2,p3,q1,q2,q3,l1,t0,t1,r1,r2,r3,r4,Nat.zero_add,Nat.reduceMul,Nat.reduceAdd,b1,b2,b3,b4,b5,b6,i1,i2,i3,i4,i5,i6,Nat.reduceBEq,a5,mN,List.length_map,nW,aG cN,mN,cn,fo,eO,dW,List.length_cons,List.length_nil,List.nil_append,List.map_nil,List.take_nil,List.append_nil,List.set_cons_zero,List.set_cons_succ,Nat.reduceEqDiff,reduceIte,if_true,if_false,cB,dB,aG aX,aG bz,aG an,cA,cC,LV.kill,bH];exact rfl):p:=e.mpr k
end avF
open avF in
theorem aFB (U V:Nat) (kU kV:List Rat) (rows:List (List ar)) (r:List ar) (h0:0<rows.length) (hr:r.length=(rows.getD 0 []).length):ax ak 152 [a5 r,.ba (.agg [ae U,ae V,.list 3 (kU.map aa),.list 3 (kV.map aa),.list 1 (rows.map a5)])] (bL false):=by
 have jg:LV.pure (.agg [ae U,ae V,.list 3 (kU.map aa),.list 3 (kV.map aa),.list 1 (rows.map a5)])=true:=by simp [LV.pure,aK,aP an,aP cN]
 have aLY:=cN.pure r
 have aLO:=aP cN rows
 have aLR:=cd cN 1 rows
 refine aR Tryz.func152 ?_
 refine df ?_
 refine ah rfl (.bin rfl rfl ((avN (by first | omega | (simp only [eD,a5,mN,t0];omega))))) ?_
 refine aB ?_
 exact jL
namespace arq
theorem aw {p q:Prop} (k:q) (e:p=q:=by simp only [e1,e2,e3,e4,p1,p2,p3,q1,q2,q3,l1,t0,t1,r1,r2,r3,r4,Nat.zero_add,Nat.reduceMul,Nat.reduceAdd,b1,b2,b3,b4,b5,b6,i1,i2,i3,i4,i5,i6,Nat.reduceBEq,a5,ag9,uI,List.length_map,nW,aG cN,mN,cn,fo,eO,dW,List.length_cons,List.length_nil,List.nil_append,List.map_nil,List.take_nil,List.append_nil,List.set_cons_zero,List.set_cons_succ,Nat.reduceEqDiff,reduceIte,if_true,if_false,cB,dB,aG aX,aG bz,aG an,cA,cC,LV.kill,bH];exact rfl):p:=e.mpr k
end arq
open arq in
theorem am8 (R U V:Nat) (kU kV:List Rat) (rows:List (List ar)) (h:pf R U V rows) (xZ:kU.length<=100) (uY:kV.length<=100) (abq:∀ x∈kU,rl x<=1000) (aaE:∀ x∈kV,rl x<=1000) (hR:R<=200000):ax ak 84 [.agg [ae U,ae V,.list 3 (kU.map aa),.list 3 (kV.map aa),.list 1 (rows.map a5)]] (.agg [ae V,ae U,.list 3 (kV.map aa),.list 3 (kU.map aa),.list 1 ((gg V rows).map a5)]):=by
 have jg:LV.pure (.agg [ae U,ae V,.list 3 (kU.map aa),.list 3 (kV.map aa),.list 1 (rows.map a5)])=true:=by simp [LV.pure,aK,aP an,aP cN]
 have jn:=cd cN 1 rows
 have oT:=cd cN 1 (gg V rows)
 have kI:=cd an 3 kU
 have hpv:=cd an 3 kV
 have lV:=h.u3
 have ny:=h.v3
 have uI:=h.n
 have lE:=h.r0 (bS U)
 have gO:=tj V rows
 have hhl:=wH V rows
 have hT:=aez R U V rows h
 have hCU:=aap kU J (fun x hx=>bb (abq x hx) ai)
 have hCV:=aap kV J (fun x hx=>bb (aaE x hx) ai)
 have ayK:LV.pure (.agg [ae V,ae U,.list 3 (kV.map aa),.list 3 (kU.map aa),.list 1 ((gg V rows).map a5)])=true:=by simp [LV.pure,aK,aP an,aP cN]
 have sW:aK [.ba (.agg [ae U,ae V,.list 3 (kU.map aa),.list 3 (kV.map aa),.list 1 (rows.map a5)])]=true:=by simp [aK,LV.pure,aP an,aP cN]
 have hEa:=aF7 R U V kU kV rows h xZ uY abq aaE hR 154 (fun q hq=>ayq q R J hq)
 refine aR Tryz.func84 (ht:=(fun g=>LV.cQ g _ aaN)) ?_
 refine df ?_
 refine ah (aM (v:=true) rfl rfl ((decide_eq_true acW)) rfl) gr ?_
 refine ah (aM (v:=true) rfl rfl ((decide_eq_true acW)) rfl) dE ?_
 refine eN [1] (aM (v:=true) rfl rfl ((decide_eq_true acW)) rfl) rfl (.mk (caps:=[.ba (.agg [ae U,ae V,.list 3 (kU.map aa),.list 3 (kV.map aa),.list 1 (rows.map a5)])]) (.cons (.aF rfl rfl rfl cs (cr cs rfl) jg rfl) .nil) (fun x hx=>by rw [fP.1 hx];exact⟨rfl,rfl⟩)) rfl ?_
 refine bM (aM (v:=true) rfl rfl ((decide_eq_true acW)) rfl) (.cons (.pure (cd cN 1 _)) (.cons (.pure (show LV.pure (.bQ 152 [.ba (.agg [ae U,ae V,.list 3 (kU.map aa),.list 3 (kV.map aa),.list 1 (rows.map a5)])])=true by simpa [LV.pure] using sW)) .nil)) (ar5 152 [.ba (.agg [ae U,ae V,.list 3 (kU.map aa),.list 3 (kV.map aa),.list 1 (rows.map a5)])] sW (fun x hx=>by rw [fP.1 hx];exact⟨rfl,rfl⟩) (fun _=>false) rows J (fun x hx=>aFB U V kU kV rows x J (by rw [h.m x hx,lE]))) ?_
 refine ah rfl (.gU rfl ((decide_eq_true acW))) ?_
 refine aH ?_
 refine dp (b:=_) rfl (by first | rfl | exact ag9 _) ?_
 refine a7 ?_
 refine cp au (hEa) ?_
 refine a7 ?_
 refine aY 12 al ?_
 refine bh ?_
 refine cp aO (hT) ?_
 refine ah rfl agm ?_
 refine aB ?_
 exact fi [] rfl rfl rfl cs (cr cs rfl) nd (.pure ayK)
theorem aIm (d:Nat) (a b t:Rat):iR (aA d a b) t (aA d a b).length=(if a=t then d+1 else 0)+(if b=t then d+1 else 0):=by
 have h:=ajM (aV (d+1) a) (aV (d+1) b) t (d+1)
 rw [List.length_replicate] at h
 have e:(aA d a b).length=d+1+(d+1):=by rw [gW];omega
 rw [e]
 show iR (aV (d+1) a++_) t _=_
 rw [h,afr _ _ _ _ (bF _),afr _ _ _ _ (bF _)]
theorem acv {d:Nat} {a b:Rat} (h1:1<=d) (h6:d<=6) (cY:a<b) (hT:rl a<=64) (hT1:rl b<=64):yJ (aA d a b) d:=by
 have hl:=gW d a b
 have bj:a≠b:=by grind
 have e0:(aA d a b).getD 0 0=a:=by rw [im _ _ _ _ J,if_pos J]
 have e1:(aA d a b).getD ((aA d a b).length-1) 0=b:=by rw [hl,im _ _ _ _ J,if_neg J]
 have hm:∀ x∈aA d a b,x=a\/x=b:=fun x hx=>by
  rcases oO.1 hx with h | h
  ·exact .inl (uc.1 h).2
  ·exact .inr (uc.1 h).2
 refine⟨h1,h6,J,J,fun i hi=>?_,by rw [e0,e1];exact bj,fun t ht he=>?_,fun t ht g0 g1=>?_,fun x hx=>?_⟩
 ·rw [im _ _ _ _ J,im _ _ _ _ J]
  split<;>split
  ·exact nI
  ·grind
  ·omega
  ·exact nI
 ·rw [aIm]
  rcases hm t ht with rfl | rfl
  ·rw [if_pos rfl,if_neg (fun e=>bj e.symm)]
  ·rw [if_neg bj,if_pos rfl,fg]
 ·rw [e0] at g0;rw [e1] at g1
  rcases hm t ht with h | h
  ·exact absurd h g0
  ·exact absurd h g1
 ·rcases hm x hx with rfl | rfl<;>assumption
theorem arD {d:Nat} {a b:Rat}:∀ i,i+1<=d+1->dy (aA d a b) (i+1)=[a]
 | 0,_=>by rw [dy,if_pos (.inl rfl),yN];rfl
 | i+1,h=>by
  rw [adl J (by rw [im _ _ _ _ J,im _ _ _ _ J,if_pos J,if_pos J]),arD i J]
theorem aw9 {d:Nat} {a b:Rat} (cY:a<b):∀ i,i+1<=d+1->dy (aA d a b) (d+1+(i+1))=[a,b]
 | 0,_=>by
  rw [<-oQ,aon J (by rw [im _ _ _ _ J,im _ _ _ _ J,if_neg J,if_pos J];grind),mg,arD d J,im _ _ _ _ J,if_neg J];rfl
 | i+1,h=>by
  rw [<-oQ,adl J (by rw [im _ _ _ _ J,im _ _ _ _ J,if_neg J,if_neg J]),aw9 cY i J]
theorem ax2 {d:Nat} {a b:Rat} (cY:a<b):dy (aA d a b) (aA d a b).length=[a,b]:=by
 have:=aw9 (d:=d) cY d (bF _)
 rwa [show d+1+(d+1)=(aA d a b).length by rw [gW];omega] at this
theorem spu (a b:Rat):aD (a,b)=.agg [aa a,aa b]:=by unfold aD;rfl
end Go.Proofs.YthcadngkamjpdaaGreat
end
section
set_option linter.unusedVariables false
set_option linter.unusedSimpArgs false
namespace Go.Lg
section
variable {P:Program} {W w w':World} {X:XS} {Z0 Z Zr:Nat->Prop} {μ dV:Nat->Option Nat} {H:b9} {a:Act} {L L':St} {n:Nat} {ops:Array Oper}
def afj (P:Program) (ops:Array Oper) (o:Oper) (L L':St):Prop :=
 ∀ (n:Nat) (W:World) (X:XS) (Z0:Nat->Prop) (a:Act) (w:World) (K:Act->World->Prop) (Q:Exit->Act->World->Prop),fT n W X Z0 L a w->(∀ t,o.dst=some t->t<n) ->
  (∀ a' w',fT n W X Z0 L' a' w'->K a' w')->if Region.wanted o (yielded ops a.tmps) then o.wp P a w K Q else K (a.put o.dst undef) w
variable {Q:jT->St->Prop}
end
end Go.Lg
namespace Go.Lg
section
variable {P:Program} {W w w':World} {X X0:XS} {Z0 Z Zr:Nat->Prop} {μ dV:Nat->Option Nat} {H H' Hr:b9} {a:Act} {L L':St} {n d:Nat} {ops:Array Oper} {σ:Nat->Nat}
def wb (μ dV:Nat->Option Nat) (d:Nat):Nat->Option Nat:=fun c=>if 1000000+d*16<c/\c<1000000+d*16+16 then(dV (c-(1000000+d*16))).or (μ c) else μ c
theorem Core.aIX (hc:Core W X Z0 μ Z H w) (hr:Core w X0 Z dV Zr Hr w') (hσ:∀ k id,dV k=some id->k≠0->k<16/\σ k=dZ d k/\μ (dZ d k)=none)
  (hb:∀ id,X0.x id->μ (σ 0)=some id/\¬ Z id) (hy:∀ id,X0.y id->(∀ c,μ c≠some id)/\¬ Z id/\(W.heap.size<=id\/X.y id)) (h0:∀ id,dV 0=some id->X0.x id) (hH:∀ k id blk,dV k=some id->Hr k=some blk->H' (σ k)=some ⟨blk.sz,dX σ blk.vals,blk.mt⟩)
  (hold:∀ c id,μ c=some id->¬ X0 id->H' c=H c) :
  Core W X Z0 (wb μ dV d) Zr H' w'/\(∀ c id,μ c=some id->wb μ dV d c=some id)/\Frame Z μ w w'/\(∀ k id,dV k=some id->wb μ dV d (σ k)=some id):=by
 have aiB:∀ c id,μ c=some id->wb μ dV d c=some id:=fun c id h=>by
  unfold wb
  split
  ·rename_i yY
   cases hq:dV (c-(1000000+d*16)) with
   | none=>simpa using h
   | some id' =>
    have:=(hσ _ _ hq J).2.2
    have e:dZ d (c-(1000000+d*16))=c:=by unfold dZ;omega
    rw [e,h] at this;cases this
  ·exact h
 have aFU:∀ k id,dV k=some id->k≠0->wb μ dV d (dZ d k)=some id:=fun k id h hk=>by
  have:=(hσ _ _ h hk).1
  unfold wb dZ
  rw [if_pos J]
  have e:1000000+d*16+k-(1000000+d*16)=k:=by omega
  rw [e,h];rfl
 have mF:∀ k id,dV k=some id->wb μ dV d (σ k)=some id:=fun k id h=>by
  by_cases hk:k=0
  ·subst hk;exact aiB _ _ (hb id (h0 id h)).1
  ·rw [(hσ _ _ h hk).2.1];exact aFU k id h hk
 have hinv:∀ c id,wb μ dV d c=some id->(∃ k,k≠0/\c=dZ d k/\dV k=some id)\/μ c=some id:=fun c id h=>by
  unfold wb at h
  split at h
  ·rename_i yY
   cases hq:dV (c-(1000000+d*16)) with
   | none=>rw [hq] at h;exact .inr nP
   | some id' =>
    rw [hq] at h
    simp only [Option.some_or,fv] at h
    subst h
    exact .inl ⟨c-(1000000+d*16),J,by unfold dZ;omega,hq⟩
  ·exact .inr h
 have cq:∀ k id,dV k=some id->k≠0->w.heap.size<=id\/X0.y id:=fun k id h hk=>by
  rcases hr.own k id h with h1 | h1 | h1
  ·exact .inl h1
  ·exact absurd (hr.x0 k id h h1) hk
  ·exact .inr h1
 have al4:∀ k id c,dV k=some id->k≠0->μ c=some id->False:=fun k id c h hk h1=>by
  rcases cq k id h hk with h2 | h2
  ·have:=hc.lt h1;omega
  ·exact(hy id h2).1 c h1
 have qT:∀ k,k<w.heap.size->¬ X0 k->w'.heap[k]?=w.heap[k]?:=fun k hk hx=>hr.cx.block k hk hx
 have dS:Frame Z μ w w':=by
  refine⟨fun id h=>qT id (hc.lg id h) (fun e=>e.elim (fun e=>(hb id e).2 h) (fun e=>(hy id e).2.1 h)),fun c id h cc T fz uX=>?_⟩
  by_cases e:X0 id
  ·exact hr.cx.vg id e cc T fz uX
  ·exact⟨cc,(qT id (hc.lt h) e).trans uX,rfl⟩
 have hX:∀ k,k<W.heap.size->¬ X k->¬ X0 k:=fun k hk hx e=>by
  rcases e with e | e
  ·rcases hc.own (σ 0) k (hb k e).1 with h | h
   ·omega
   ·exact hx h
  ·rcases(hy k e).2.2 with h | h
   ·omega
   ·exact hx (.inr h)
 refine⟨⟨?_,hr.lg,fun id h=>hr.jy id (hc.jy id h),?_,?_,?_,?_,hc.nV,fun id h=>aiB 0 id (hc.x1 id h),?_,?_,?_⟩,aiB,dS,mF⟩
 ·refine⟨hr.cx.os.trans hc.cx.os,hr.cx.tape.trans hc.cx.tape,hr.cx.output.trans hc.cx.output,bb hc.cx.size hr.cx.size,fun k hk hx=>?_,fun k hx c T fz h=>?_⟩
  ·exact(qT k (by have:=hc.cx.size;omega) (hX k hk hx)).trans (hc.cx.block k hk hx)
  ·obtain⟨c',g1,g2⟩:=hc.cx.vg k hx c T fz h
   by_cases e:X0 k
   ·obtain⟨c2,g3,g4⟩:=hr.cx.vg k e c' T fz g1
    exact⟨c2,g3,g4.trans g2⟩
   ·exact⟨c',(qT k (nC.1 g1).1 e).trans g1,g2⟩
 ·intro id h
  rcases hr.lh id h with h | h | h
  ·exact hc.lh id h
  ·exact .inr (.inl (bb hc.cx.size h))
  ·exact .inr (hy id h).2.2
 ·intro c c' id h h'
  rcases hinv c id h with⟨k,k0,rfl,h1⟩ | h1<;>rcases hinv c' id h' with⟨k',k0',rfl,h2⟩ | h2
  ·rw [hr.inj k k' id h1 h2]
  ·exact(al4 k id _ h1 k0 h2).elim
  ·exact(al4 k' id _ h2 k0' h1).elim
  ·exact hc.inj c c' id h1 h2
 ·intro c id h
  rcases hinv c id h with⟨k,k0,rfl,h1⟩ | h1
  ·rcases cq k id h1 k0 with h2 | h2
   ·exact .inl (bb hc.cx.size h2)
   ·exact(hy id h2).2.2.imp (fun h=>h) .inr
  ·exact hc.own c id h1
 ·intro c id h hx
  rcases hinv c id h with⟨k,k0,rfl,h1⟩ | h1
  ·exact(al4 k id 0 h1 k0 (hc.x1 id hx)).elim
  ·exact hc.x0 c id h1 hx
 all_goals
  have wC:∀ c id,wb μ dV d c=some id->(∃ k blk,c=σ k/\dV k=some id/\Hr k=some blk/\ug Zr dV w' blk id)\/(¬ X0 id/\μ c=some id):=fun c id h=>by
   rcases hinv c id h with⟨k,k0,rfl,h1⟩ | h1
   ·obtain⟨blk,g1,g2⟩:=hr.heap k id h1
    exact .inl ⟨k,blk,(hσ k id h1 k0).2.1.symm,h1,g1,g2⟩
   ·by_cases e:X0 id
    ·have e:X0.x id:=e.resolve_right (fun e=>(hy id e).1 c h1)
     have te:=hc.inj c (σ 0) id h1 (hb id e).1
     have h2:=hr.x1 id e
     obtain⟨blk,g1,g2⟩:=hr.heap 0 id h2
     exact .inl ⟨0,blk,te,h2,g1,g2⟩
    ·exact .inr ⟨e,h1⟩
 ·intro c id blk h g fu hz
  rcases wC c id h with⟨k,b0,rfl,h1,g1,g2⟩ | ⟨e,h1⟩
  ·rw [hH k id b0 h1 g1] at g;cases g
   exact hr.ja k id b0 h1 g1 fu hz
  ·rw [hold c id h1 e] at g
   rcases hr.lh id hz with hz | hz | hz
   ·exact hc.ja c id blk h1 g fu hz
   ·have:=hc.lt h1;omega
   ·exact(e (.inr hz)).elim
 ·intro c id blk h g fu
  rcases wC c id h with⟨k,b0,rfl,h1,g1,g2⟩ | ⟨e,h1⟩
  ·rw [hH k id b0 h1 g1] at g;cases g
   exact hr.ca k id b0 h1 g1 fu
  ·rw [hold c id h1 e] at g
   exact hr.jy id (hc.ca c id blk h1 g fu)
 ·intro c id h
  rcases wC c id h with⟨k,b0,rfl,h1,g1,cc,T,part,rest,q1,q2,q3⟩ | ⟨e,h1⟩
  ·exact⟨_,hH k id b0 h1 g1,cc,T,part,rest,q1,q2,a6.b7 σ mF _ _ _ q3⟩
  ·obtain⟨bk,g1,g2⟩:=hc.heap c id h1
   exact⟨bk,by rw [hold c id h1 e];exact g1,g2.mono hr.jy aiB dS (qT id (hc.lt h1) e)⟩
def tK (blk:bA) (bs:List bA):b9:=fun n=>if n=0 then some blk else bs[n-1]?
def tn (σ:Nat->Nat):Nat->List bA->St->St
 | _,[],L=>L
 | k,b :: bs,L=>tn σ (k+1) bs (L.bU (σ k) (some ⟨b.sz,dX σ b.vals,b.mt⟩))
theorem axw:∀ (bs:List bA) (k:Nat) (L:St),(tn σ k bs L).slot=L.slot
 | [],_,_=>rfl
 | b :: bs,k,L=>by rw [tn,axw bs];rfl
theorem ag3:∀ (bs:List bA) (k:Nat) (L:St) (c:Nat),(∀ j,k<=j->j<k+bs.length->c≠σ j)->(tn σ k bs L).heap c=L.heap c
 | [],_,_,_,_=>rfl
 | b :: bs,k,L,c,h=>by
   rw [tn,ag3 bs (k+1) _ c (fun j h1 h2=>h j J (by simp only [l8];omega))]
   show (if c=σ k then _ else L.heap c)=_
   rw [if_neg (h k (bF _) (by simp only [l8];omega))]
theorem arp:∀ (bs:List bA) (k:Nat) (L:St) (i:Nat) (b:bA),(∀ j j',k<=j->j<j'->j'<k+bs.length->σ j≠σ j')->bs[i]?=some b->(tn σ k bs L).heap (σ (k+i))=some ⟨b.sz,dX σ b.vals,b.mt⟩
 | [],_,_,i,_,_,h=>by simp at h
 | x :: xs,k,L,0,b,hi,h=>by
   simp only [sZ,fv] at h;subst h
   show (tn σ k (x :: xs) L).heap (σ k)=_
   rw [tn,ag3 xs (k+1) _ _ (fun j h1 h2=>hi k j (bF _) J (by simp only [l8];omega))]
   simp [St.bU]
 | x :: xs,k,L,i+1,b,hi,h=>by
   rw [tn]
   have:=arp xs (k+1) (L.bU (σ k) (some ⟨x.sz,dX σ x.vals,x.mt⟩)) i b (fun j j' h1 h2 h3=>hi j j' J h2 (by simp only [l8];omega)) nP
   rwa [show k+1+i=k+(i+1) by omega] at this
def mc (b d:Nat):Nat->Nat:=fun k=>if k=0 then b else dZ d k
end
end Go.Lg
namespace Go.Lg
section
variable {P:Program} {W w w':World} {X X0:XS} {Z0 Z Zr:Nat->Prop} {μ dV:Nat->Option Nat} {H H' Hr:b9} {a:Act} {L L':St} {n d:Nat} {ops:Array Oper} {σ:Nat->Nat}
def rD (own:List Nat):Nat->Nat:=fun b=>if b=0 then 0 else own.idxOf b+1
def zK (μ:Nat->Option Nat) (own:List Nat):Nat->Option Nat:=fun k=>if k=0 then μ 0 else(own[k-1]?).bind μ
theorem aDc {own:List Nat} {k id:Nat} (hnd:own.Nodup) (h:zK μ own k=some id):(k=0/\μ 0=some id)\/∃ b,k≠0/\own[k-1]?=some b/\μ b=some id:=by
 unfold zK at h
 split at h
 ·rename_i e;exact .inl ⟨e,h⟩
 ·rename_i e
  rw [Option.bind_eq_some_iff] at h
  obtain⟨b,g1,g2⟩:=h
  exact .inr ⟨b,e,g1,g2⟩
theorem aHM {own:List Nat} {H:b9} (hc:∀ c id,μ c=some id->H c≠none) (xg:∀ c,c≠0->H c≠none->c∈own):∀ c id,μ c=some id->zK μ own (rD own c)=some id:=fun c id h=>by
 by_cases h0:c=0
 ·subst h0;simpa [rD,zK] using h
 ·have hm:=xg c h0 (hc c id h)
  have hl:=List.idxOf_lt_length_of_mem hm
  have he:own[own.idxOf c]?=some c:=by rw [bY hl,List.getElem_idxOf hl]
  simp [rD,zK,h0,he,h]
theorem ao8 {bD:Nat->Option Nat} (f:Nat->Nat) (hm:∀ c id,μ c=some id->bD (f c)=some id) (hc:Core W X Z0 μ Z L.heap w) (hr:∀ t,bu Z μ w (L.slot t) (a.tmps.getD t undef)) :
  ∀ (rs:List ResultVar) (xs:List LV),yB P L rs xs->(∀ x∈xs,x≠.any/\∀ l,x≠.a9 l)->∃ us,(rs.mapM (zg a.tmps)).run P w=.ok us w/\fW Z bD w (dX f xs) us
 | _,_,.nil,_=>⟨[],rfl,rfl⟩
 | _,_,.cons (vs:=vs) (xs:=xs) h t,hx=>by
   obtain⟨u,q1,q2⟩:=alV hc hr h (hx _ aW)
   obtain⟨us,q3,q4⟩:=ao8 f hm hc hr _ _ t (fun y hy=>hx y (by simp [hy]))
   refine⟨u :: us,?_,u,us,rfl,q2.b7 f hm,q4⟩
   rw [List.mapM_cons,Sem.run_bind,q1]
   simp only [Result.andThen_ok,Sem.run_bind,q3,Sem.run_pure]
theorem aCZ {ys:List LV} {us:List Value} (h:fW Z μ w ys us):bu Z μ w (ag1 ys) (if h:us.toArray.size=1 then us.toArray[0] else .tuple us.toArray):=by
 have yW:=aby _ _ h
 match ys,us,h,yW with
 | [y],[u],q2,_ =>
  obtain⟨v,jP,e,g1,g2⟩:=q2
  simp only [gj] at e
  obtain⟨rfl,_⟩:=e
  have hnt:∀ l,y≠.a9 l:=fun l e=>by subst e;have:=g1.2 rfl;simp [aJ] at this
  exact bu.sn hnt g1
 | [],[],q2,_=>exact⟨_,rfl,by simpa using q2⟩
 | y :: y' :: ys,u :: u' :: us,q2,_=>exact⟨(u :: u' :: us).toArray,by simp,by simpa using q2⟩
theorem Core.aJa {own:List Nat} {Hr:b9} {bs:List bA} (hc:Core W X Z0 μ Z H w) (hnd:own.Nodup) (iy:0∉own) (xg:∀ c,c≠0->H c≠none->c∈own)
  (tw:∀ (k b:Nat),own[k]?=some b->∃ blk:bA,H b=some blk/\bs[k]?=some ⟨blk.sz,dX (rD own) blk.vals,blk.mt⟩)
  (gk:∀ k,k≠0->Hr k=bs[k-1]?) (lE:∀ id blk,μ 0=some id->H 0=some blk->Hr 0=some ⟨blk.sz,dX (rD own) blk.vals,blk.mt⟩) :
  Core W X Z0 (zK μ own) Z Hr w/\∀ c id,μ c=some id->zK μ own (rD own c)=some id:=by
 have hhm:∀ c id,μ c=some id->H c≠none:=fun c id h e=>by obtain⟨bk,g,_⟩:=hc.heap c id h;rw [e] at g;cases g
 have hm:=aHM (μ:=μ) (own:=own) hhm xg
 have wC:∀ k id,zK μ own k=some id->∃ c blk,μ c=some id/\H c=some blk/\ug Z μ w blk id/\Hr k=some ⟨blk.sz,dX (rD own) blk.vals,blk.mt⟩/\((k=0/\c=0)\/(k≠0/\c≠0/\own[k-1]?=some c)):=fun k id h=>by
  rcases aDc hnd h with⟨rfl,h0⟩ | ⟨b,k0,g1,g2⟩
  ·obtain⟨blk,q1,q2⟩:=hc.heap 0 id h0
   exact⟨0,blk,h0,q1,q2,lE id blk h0 q1,.inl ⟨rfl,rfl⟩⟩
  ·obtain⟨blk,q1,q2⟩:=hc.heap b id g2
   obtain⟨blk',j1,j2⟩:=tw _ _ g1
   rw [q1] at j1;cases j1
   exact⟨b,blk,g2,q1,q2,by rw [gk k k0];exact j2,.inr ⟨k0,fun e=>iy (e ▸ sQ g1),g1⟩⟩
 refine⟨⟨hc.cx,hc.lg,hc.jy,hc.lh,?_,?_,?_,hc.nV,fun id h=>by simpa [zK] using hc.x1 id h,?_,?_,?_⟩,hm⟩
 ·intro k k' id h h'
  obtain⟨c,_,g1,_,_,_,g2⟩:=wC k id h
  obtain⟨c',_,g1',_,_,_,g2'⟩:=wC k' id h'
  have e:=hc.inj c c' id g1 g1'
  subst e
  rcases g2 with⟨rfl,c0⟩ | ⟨k0,c0,q⟩<;>rcases g2' with⟨rfl,c0'⟩ | ⟨k0',c0',q'⟩
  ·rfl
  ·exact absurd c0 c0'
  ·exact absurd c0' c0
  ·obtain⟨l1,e1⟩:=oe.1 q
   obtain⟨l2,e2⟩:=oe.1 q'
   have hp:=List.pairwise_iff_getElem.1 hnd
   rcases Nat.lt_trichotomy (k-1) (k'-1) with h | h | h
   ·exact absurd (e1.trans e2.symm) (hp _ _ l1 l2 h)
   ·omega
   ·exact absurd (e2.trans e1.symm) (hp _ _ l2 l1 h)
 ·intro k id h
  obtain⟨c,_,g1,_⟩:=wC k id h
  exact hc.own c id g1
 ·intro k id h hx
  obtain⟨c,_,g1,_,_,_,g2⟩:=wC k id h
  have:=hc.x0 c id g1 hx
  rcases g2 with⟨rfl,_⟩ | ⟨_,c0,_⟩
  ·rfl
  ·exact absurd this c0
 ·intro k id blk h g fu
  obtain⟨c,b0,g1,g2,g3,g4,_⟩:=wC k id h
  rw [g4] at g;cases g
  exact hc.ja c id b0 g1 g2 fu
 ·intro k id blk h g fu
  obtain⟨c,b0,g1,g2,g3,g4,_⟩:=wC k id h
  rw [g4] at g;cases g
  exact hc.ca c id b0 g1 g2 fu
 ·intro k id h
  obtain⟨c,b0,g1,g2,⟨cc,T,part,rest,j1,j2,j3⟩,g4,_⟩:=wC k id h
  exact⟨_,g4,cc,T,part,rest,j1,j2,a6.b7 _ hm _ _ _ j3⟩
def mvN (b b':Nat):Nat->Nat:=fun k=>if k=b then b' else k
def St.move (L:St) (b b':Nat):St :=
 ⟨fun t=>(L.slot t).b7 (mvN b b'),fun c=>if c=b' then(L.heap b).map fun x=>⟨x.sz,dX (mvN b b') x.vals,x.mt⟩ else if c=b then none else(L.heap c).map fun x=>⟨x.sz,dX (mvN b b') x.vals,x.mt⟩⟩
end
section
variable {Z Z':Nat->Prop} {μ bD:Nat->Option Nat} {w:World}
mutual
theorem LV.akd (f:Nat->Nat):∀ (x:LV),(x.b7 f).pure=x.pure
 | .any=>rfl
 | .v _=>rfl
 | .list sz l=>by simp only [LV.b7,LV.pure,adE f l]
 | .agg l=>by simp only [LV.b7,LV.pure,adE f l]
 | .ref ..=>rfl
 | .jY ..=>rfl
 | .aF ..=>rfl
 | .ba c=>by simp only [LV.b7,LV.pure,LV.akd f c]
 | .bQ g l=>by simp only [LV.b7,LV.pure,adE f l]
 | .a9 l=>by simp [LV.b7,LV.pure]
theorem adE (f:Nat->Nat):∀ (l:List LV),aK (dX f l)=aK l
 | []=>rfl
 | x :: xs=>by simp only [dX,aK,LV.akd f x,adE f xs]
end
mutual
theorem aJ.unren (f:Nat->Nat) (hm:∀ b id,μ (f b)=some id->bD b=some id):∀ (lv:LV) (cs:List Value),aJ Z μ w (lv.b7 f) cs->aJ Z bD w lv cs
 | .any,_,h=>by simpa [aJ,LV.b7] using h
 | .v x,cs,h=>by simpa [aJ,LV.b7] using h
 | .list sz l,cs,h=>by
   have h9:aK l=true:=by
    simp only [aJ,LV.b7] at h
    obtain⟨a,len,cap,h1,h2,h3,h4,h9⟩:=h
    rwa [adE] at h9
   rw [LV.cQ f (.list sz l) (by simpa [LV.pure] using h9)] at h
   exact aJ.kt (fun _ h=>h) (fun _ _=>rfl) _ _ (by simpa [LV.pure] using h9) h
 | .agg l,cs,h=>by
   simp only [aJ,LV.b7] at h ⊢
   exact cj.unren f hm l cs h
 | .ref b sz off len,cs,h=>by
   simp only [aJ,LV.b7] at h ⊢
   rcases h with h | ⟨id,cap,c,T,fz,h1,h2,h3⟩
   ·exact oB
   exact .inr ⟨id,cap,c,T,fz,h1,hm _ _ h2,h3⟩
 | .jY b sz off len cap,cs,h=>by
   simp only [aJ,LV.b7] at h ⊢
   obtain⟨id,c,T,fz,h1,h2,h3⟩:=h
   exact⟨id,c,T,fz,h1,hm _ _ h2,h3⟩
 | .aF b sz i o,cs,h=>by
   simp only [aJ,LV.b7] at h ⊢
   obtain⟨id,h1,h2⟩:=h
   exact⟨id,h1,hm _ _ h2⟩
 | .ba c,cs,h=>by
   have h9:c.pure=true:=by
    simp only [aJ,LV.b7] at h
    obtain⟨blk,off,cc,T,fz,part,rest,h1,h2,h3,h4,h5,h6,h7⟩:=h
    rwa [LV.akd] at h7
   rw [LV.cQ f (.ba c) (by simpa [LV.pure] using h9)] at h
   exact aJ.kt (fun _ h=>h) (fun _ _=>rfl) _ _ (by simpa [LV.pure] using h9) h
 | .bQ g cap,cs,h=>by
   have h9:aK cap=true:=by
    simp only [aJ,LV.b7] at h
    obtain⟨vs,h1,h2,h3⟩:=h
    rwa [adE] at h3
   rw [LV.cQ f (.bQ g cap) (by simpa [LV.pure] using h9)] at h
   exact aJ.kt (fun _ h=>h) (fun _ _=>rfl) _ _ (by simpa [LV.pure] using h9) h
 | .a9 _,_,h=>by simp [aJ,LV.b7] at h
theorem a6.unren (f:Nat->Nat) (hm:∀ b id,μ (f b)=some id->bD b=some id) (sz:Nat):∀ (l:List LV) (cs:List Value),a6 Z μ w sz (dX f l) cs->a6 Z bD w sz l cs
 | [],cs,h=>by simpa [a6,dX] using h
 | x :: xs,cs,h=>by
   simp only [a6,dX] at h ⊢
   obtain⟨c1,c2,h1,h2,h3,h4⟩:=h
   exact⟨c1,c2,h1,h2,aJ.unren f hm x c1 h3,a6.unren f hm sz xs c2 h4⟩
theorem cj.unren (f:Nat->Nat) (hm:∀ b id,μ (f b)=some id->bD b=some id):∀ (l:List LV) (cs:List Value),cj Z μ w (dX f l) cs->cj Z bD w l cs
 | [],cs,h=>by simpa [cj,dX] using h
 | x :: xs,cs,h=>by
   simp only [cj,dX] at h ⊢
   obtain⟨c1,c2,h1,h2,h3,h4⟩:=h
   exact⟨c1,c2,h1,by rw [<-LV.ai7 f];exact h2,aJ.unren f hm x c1 h3,cj.unren f hm xs c2 h4⟩
end
theorem fN.unren (f:Nat->Nat) (hm:∀ b id,μ (f b)=some id->bD b=some id) {lv:LV} {v:Value} (h:fN Z μ w (lv.b7 f) v):fN Z bD w lv v :=
 ⟨fun e=>let ⟨cs,h1,h2⟩:=h.1 (by rwa [LV.agS]);⟨cs,h1,aJ.unren f hm _ _ h2⟩,fun e=>aJ.unren f hm _ _ (h.2 (by rwa [LV.agS]))⟩
end
def XS.two (i0:Nat) (pI:Nat->Option Nat):XS:=⟨fun k=>k=i0,fun id=>∃ k,k≠0/\pI k=some id⟩
def aam (P:Program) (f:FuncId) (blk c1:bA) (args:List LV) (r:LV) (blk':bA) (bs:List bA):Prop :=
 aik P f/\∀ (W:World) (Z0:Nat->Prop) (vs:List Value) (i0:Nat) (pI:Nat->Option Nat),(∀ id,Z0 id->id<W.heap.size)->pI 0=some i0 ->
  (∀ k id,pI k=some id->¬ Z0 id/\∃ b,tK blk [c1] k=some b/\ug Z0 pI W b id)->(∀ k k' id,pI k=some id->pI k'=some id->k=k')->fW Z0 pI W args vs ->
  Calls P f vs.toArray W fun e w'=>∃ v μ Z,e=.returned v/\Core W (XS.two i0 pI) Z0 μ Z (tK blk' bs) w'/\bu Z μ w' r v
def ak2 (P:Program) (rs:List ResultVar) (L:St) (r:LV) (blk':bA) (bs:List bA):Prop :=
 ∃ (xs:List LV) (own:List Nat) (b0:bA),L.heap 0=some b0/\blk'=⟨b0.sz,dX (rD own) b0.vals,b0.mt⟩/\yB P L rs xs/\(∀ x∈xs,x≠.any/\∀ l,x≠.a9 l)/\own.Nodup/\0∉own/\(∀ c,c≠0->L.heap c≠none->c∈own) /\
  (∀ (k b:Nat),own[k]?=some b->∃ blk:bA,L.heap b=some blk/\bs[k]?=some ⟨blk.sz,dX (rD own) blk.vals,blk.mt⟩)/\r=ag1 (dX (rD own) xs)
def amk (P:Program) (rs:List ResultVar) (L:St) (r:LV) (blk':bA) (bs:List bA):Prop:=∃ L0,az L L0/\ak2 P rs L0 r blk' bs
section
variable {P:Program} {W w w':World} {X X0:XS} {Z0 Z Zr:Nat->Prop} {μ dV:Nat->Option Nat} {H H' Hr:b9} {a:Act} {L L':St} {n d:Nat} {ops:Array Oper} {σ:Nat->Nat}
def StC (args:List LV) (blk c1:bA):St:=⟨fun t=>args.getD t .any,tK blk [c1]⟩
theorem azS (args:List LV) (blk c1:bA):StC args blk c1=St.mk (fun t=>args.getD t .any) (hp [(0,blk),(1,c1)]):=by
 simp only [StC,St.mk.injEq,true_and]
 funext c
 simp only [hp,tK]
 match c with
 | 0=>rfl
 | 1=>rfl
 | c+2=>rw [if_neg J,pL (show c+2≠0 by omega),pL (show c+2≠1 by omega)];simp
theorem aGw {f:FuncId} {fn:Func} {c:Code} {args:List LV} {r:LV} {blk c1 blk':bA} {bs:List bA} (iu:P.follows .mixedOrders=true) (hf:P.funcs[f]?=some fn) (hb:fn.body=some c)
  (hn:(fn.name== "runtime.NumGoroutine")=false) (hd:kS fn.ntmps c=true) (hlen:args.length<=fn.ntmps) (fu:blk.mt=true) (alR:c1.mt=true)
  (h:cU P c (fun e L=>match e with | .exit _=>False | _=>amk P fn.results.toList L r blk' bs) (St.mk (fun t=>args.getD t .any) (hp [(0,blk),(1,c1)]))):aam P f blk c1 args r blk' bs:=by
 rw [<-azS] at h
 refine⟨⟨fn,hf,by rw [hb];rfl,hn⟩,fun W Z0 vs i0 pI hz h0 oN acC hargs=>?_⟩
 have rM:=aby _ _ hargs
 refine calls_of_wp hf hb ?_
 have aoZ:∀ k id,pI k=some id->id<W.heap.size:=fun k id e=>by
  obtain⟨_,bk,_,c,T,part,rest,h1,_⟩:=oN k id e
  exact(nC.1 h1).1
 have aAc:∀ k bk,tK blk [c1] k=some bk->bk.mt=true:=fun k bk e=>by
  unfold tK at e
  split at e
  ·cases e;exact fu
  ·rename_i hk
   have:=sQ e
   simp only [fP] at this
   subst this;exact alR
 have oH:fT fn.ntmps W (XS.two i0 pI) Z0 (StC args blk c1) ⟨vs.toArray++rH (fn.ntmps-vs.toArray.size) undef,[]⟩ W:=by
  refine⟨rfl,by simp;omega,pI,Z0,⟨Kept.refl _ _,hz,fun _ h=>h,fun _ h=>.inl h,acC,fun b id e=>?_,fun b id e hx=>?_,fun id e=>?_,fun id e=>?_,fun b id bk e _ _=>(oN b id e).1,
   fun b id bk e g hm=>?_,fun b id e=>?_⟩,fun t=>?_⟩
  ·by_cases gJ:b=0
   ·subst gJ;rw [h0] at e;cases e;exact .inr (.inl rfl)
   ·exact .inr (.inr ⟨b,gJ,e⟩)
  ·rw [show id=i0 from hx] at e;exact acC _ _ _ e h0
  ·rcases e with e | ⟨k,_,e⟩
   ·rw [show id=i0 from e];exact aoZ _ _ h0
   ·exact aoZ _ _ e
  ·rw [show id=i0 from e];exact h0
  ·rw [aAc b bk g] at hm;cases hm
  ·exact(oN b id e).2
  ·have e:vs.toArray++rH (fn.ntmps-vs.toArray.size) undef=(vs++aV (fn.ntmps-vs.toArray.size) undef).toArray:=by apply wa;simp
   show bu Z0 pI W ((y5 args).slot t) ((vs.toArray++rH (fn.ntmps-vs.toArray.size) undef).getD t undef)
   rw [e]
   exact ajt args vs _ hargs t
 refine wp_mono (zI iu c _ _ _ _ oH h hd) fun e a w q=>?_
 have main:∀ L,amk P fn.results.toList L r blk' bs->fT fn.ntmps W (XS.two i0 pI) Z0 L a w ->
   a.defers=[]/\∃ v,(results fn a.tmps).run P w=.ok v w/\∃ v' μ Z,Ending.returned v=.returned v'/\Core W (XS.two i0 pI) Z0 μ Z (tK blk' bs) w/\bu Z μ w r v':=by
  rintro L ⟨L0,hwk,xs,own,b0,gJ,aEs,h1,hx,h2,h3,h4,h5,h6⟩ hsL
  obtain⟨eh,bT,μ,Z,hc,hr⟩:=hwk _ _ _ _ _ _ hsL
  obtain⟨k1,k2⟩:=hc.aJa (Hr:=tK blk' bs) h2 h3 h4 h5 (fun k hk=>by simp [tK,hk]) (fun id blk e g=>by rw [gJ] at g;cases g;simp [tK,aEs])
  obtain⟨us,q1,q2⟩:=ao8 (rD own) k2 hc hr _ _ h1 hx
  have o4:(fn.results.mapM (zg a.tmps)).run P w=.ok us.toArray w:=by
   rw [Array.mapM_eq_mapM_toList,Sem.run_map,q1];rfl
  refine⟨eh,(if h:us.toArray.size=1 then us.toArray[0] else .tuple us.toArray),?_,_,_,Z,rfl,k1,?_⟩
  ·rw [akE,Sem.run_bind,o4]
   rfl
  ·subst h6;exact aCZ q2
 cases e with
 | normal=>obtain⟨L,q1,q2⟩:=q;exact main L q1 q2
 | ret=>obtain⟨L,q1,q2⟩:=q;exact main L q1 q2
 | exit id=>obtain⟨L,q1,q2⟩:=q;exact q1.elim
 | _=>exact q.elim
def nmC (b c d:Nat):Nat->Nat:=fun k=>if k=0 then b else if k=1 then c else dZ d 0
inductive af0 (H:b9) (σ:Nat->Nat):LV->LV->Prop
 | eF {x y} (h:da H x y):af0 H σ x y
 | b7 {y} (h:y≠.any/\∀ l,y≠.a9 l):af0 H σ (y.b7 σ) y
inductive afE (H:b9) (σ:Nat->Nat):List LV->List LV->Prop
 | nil:afE H σ [] []
 | cons {x y xs ys} (h:af0 H σ x y) (t:afE H σ xs ys):afE H σ (x :: xs) (y :: ys)
theorem af0.sound (hc:Core W X Z0 μ Z H w) {x y:LV} {v:Value} (h:af0 H σ x y) (hr:bu Z μ w x v):fN Z (fun k=>μ (σ k)) w y v:=by
 cases h with
 | eF h=>exact da.abf hc h hr
 | b7 hn =>
  refine fN.unren σ (fun _ _ h=>h) ?_
  cases y with
  | any=>exact absurd rfl hn.1
  | a9 l=>exact absurd rfl (hn.2 l)
  | _=>exact hr
theorem asn (hc:Core W X Z0 μ Z H w) {ρ:Operand->LV}:∀ (xs:List Operand) (args:List LV),afE H σ (xs.map ρ) args->(∀ x∈xs,bu Z μ w (ρ x) (a.eval x)) ->
  fW Z (fun k=>μ (σ k)) w args (xs.map a.eval)
 | [],_,h,_=>by cases h;rfl
 | x :: xs,_,h,hr=>by
   generalize hq:(x :: xs).map ρ=q at h
   cases h with
   | nil=>cases hq
   | cons h t =>
    simp only [lI,gj] at hq
    obtain⟨rfl,rfl⟩:=hq
    exact⟨_,_,rfl,h.sound hc (hr x aW),asn hc xs _ t (fun y hy=>hr y (by simp [hy]))⟩
theorem aro {f:FuncId} {xs:Array Operand} {zx:Array TypeId} {args:List LV} {r:LV} {b c sz csz:Nat} {vals cvals:List LV} {blk':bA} {bs:List bA} {dst:Option Tmp} {ty:TypeId} {pos:String} {af:Array Edge} {g:Option (Nat × Bool)} (d:Nat)
  (hg:eE ops L ⟨dst,.call ⟨.value (.func f),xs,zx⟩,ty,pos,af,g⟩ true) (xm:b≠c) (te:c≠0)
  (hb:L.heap b=some ⟨sz,dX (nmC b c d) vals,true⟩) (oF:L.heap c=some ⟨csz,dX (nmC b c d) cvals,true⟩)
  (ha:afE L.heap (nmC b c d) (xs.toList.map L.ev) args) (hn:Names b (xs.toList.map L.ev))
  (hk:aam P f ⟨sz,vals,true⟩ ⟨csz,cvals,true⟩ args r blk' bs) (hlen:bs.length<16) (hf:∀ k,k<16->L.heap (dZ d k)=none) :
  afj P ops ⟨dst,.call ⟨.value (.func f),xs,zx⟩,ty,pos,af,g⟩ L ((tn (mc b d) 1 bs ((L.kill c).bU b (some ⟨blk'.sz,dX (mc b d) blk'.vals,blk'.mt⟩))).put dst (r.b7 (mc b d))):=by
 intro n W X Z0 a w K Q ⟨eh,arS,μ,Z,hc,hr⟩ hd hK
 rw [abY hr hg]
 simp only [if_true]
 have iB:∀ t,dst=some t->t<a.tmps.size:=fun t h=>by rw [arS];exact hd t h
 obtain⟨i0,pk⟩:=Names.mu (μ:=μ) (Z:=Z) (w:=w) (a:=a) xs.toList hn (fun x _=>lG (L:=L) hr x)
 have hargs:=asn (a:=a) hc xs.toList args ha (fun x _=>lG (L:=L) hr x)
 have fI:(execOp a.eval (Oper.mk dst (.call ⟨.value (.func f),xs,zx⟩) ty pos af g)).run P w=.ok (.enter f (xs.map a.eval)) w:=by
  have:=aim (P:=P) (w:=w) (args:=xs.map a.eval) hk.1
  simp only [execOp,resolve,Act.eval,Deferred.ofValue,Sem.run_bind,Sem.run_pure,Result.andThen_ok,invoke]
  simpa using this
 unfold Oper.wp
 rw [fI,Oper.upon_enter]
 have hun:μ (dZ d 0)=none:=vF hc (hf 0 J)
 have ai1:∀ k id,μ (nmC b c d k)=some id->(k=0/\μ b=some id)\/(k=1/\μ c=some id):=fun k id e=>by
  unfold nmC at e
  split at e
  ·exact .inl ⟨by assumption,e⟩
  ·split at e
   ·exact .inr ⟨by assumption,e⟩
   ·rw [hun] at e;cases e
 have rV:=hc.ja b i0 _ pk hb rfl
 have:=hk.2 w Z (xs.toList.map a.eval) i0 (fun k=>μ (nmC b c d k)) hc.lg (by simpa [nmC] using pk) (fun k id e=>by
  rcases ai1 k id e with⟨rfl,e1⟩ | ⟨rfl,e1⟩
  ·obtain⟨aiv,g1,cc,T,part,rest,q1,q2,q3⟩:=hc.heap b id e1
   rw [hb] at g1;cases g1
   exact⟨hc.ja b id _ e1 hb rfl,_,rfl,cc,T,part,rest,q1,q2,a6.unren _ (fun _ _ h=>h) _ _ _ q3⟩
  ·obtain⟨aiv,g1,cc,T,part,rest,q1,q2,q3⟩:=hc.heap c id e1
   rw [oF] at g1;cases g1
   exact⟨hc.ja c id _ e1 oF rfl,_,rfl,cc,T,part,rest,q1,q2,a6.unren _ (fun _ _ h=>h) _ _ _ q3⟩)
  (fun k k' id e e'=>by
   rcases ai1 k id e with⟨rfl,e1⟩ | ⟨rfl,e1⟩<;>rcases ai1 k' id e' with⟨rfl,e2⟩ | ⟨rfl,e2⟩
   ·rfl
   ·exact absurd (hc.inj _ _ _ e1 e2) xm
   ·exact absurd (hc.inj _ _ _ e2 e1) xm
   ·rfl) hargs
 rw [show (xs.toList.map a.eval).toArray=xs.map a.eval from by apply wa;simp] at this
 refine this.mono ?_
 rintro e w' ⟨v,dV,Zr,rfl,hrr,hv⟩
 have acC:∀ j j',1<=j->j<j'->j'<1+bs.length->mc b d j≠mc b d j':=fun j j' h1 h2 _ e=>by
  unfold mc at e
  rw [if_neg J,if_neg J] at e
  unfold dZ at e;omega
 have awx:∀ k id,dV k=some id->k≠0->k<16/\∃ blk,bs[k-1]?=some blk:=fun k id h h0=>by
  obtain⟨bk,q1,_⟩:=hrr.heap k id h
  simp only [tK,if_neg h0] at q1
  have:=(oe.1 q1).1
  exact⟨J,bk,q1⟩
 have hk1:=hc.kill c te
 have hinv:∀ e id,ko μ c e=some id->e≠c/\μ e=some id:=fun e id h=>by
  unfold ko at h;split at h
  ·cases h
  ·exact⟨by assumption,h⟩
 have xo:ko μ c b=some i0:=by unfold ko;rw [if_neg xm];exact pk
 obtain⟨h1,h2,h3,h4⟩:=hk1.aIX (d:=d) (σ:=mc b d) (H':=(tn (mc b d) 1 bs ((L.kill c).bU b (some ⟨blk'.sz,dX (mc b d) blk'.vals,blk'.mt⟩))).heap) hrr
  (fun k id h h0=>⟨(awx k id h h0).1,by unfold mc;rw [if_neg h0],by
   unfold ko;split
   ·rfl
   ·exact vF hc (hf k (awx k id h h0).1)⟩)
  (fun id e=>by rw [show id=i0 from e];exact⟨xo,rV⟩)
  (fun id ⟨k,k0,e⟩=>by
   rcases ai1 k id e with⟨rfl,e1⟩ | ⟨rfl,e1⟩
   ·exact absurd rfl k0
   ·refine⟨fun e he=>(hinv e id he).1 (hc.inj _ _ _ (hinv e id he).2 e1),hc.ja c id _ e1 oF rfl,?_⟩
    rcases hc.own c id e1 with h | h | h
    ·exact oB
    ·exact absurd (hc.x0 c id e1 h) te
    ·exact .inr h)
  (fun id h=>by have:=hrr.x1 i0 rfl;rw [h] at this;cases this;rfl)
  (fun k id bk h g=>by
   by_cases h0:k=0
   ·subst h0
    simp only [tK,if_true,fv] at g;subst g
    rw [ag3 _ _ _ _ (fun j h1 h2 e=>by
     unfold mc at e
     rw [if_pos rfl,if_neg J] at e
     have:=hf j J
     rw [<-e,hb] at this;cases this)]
    simp [St.bU,mc]
   ·simp only [tK,if_neg h0] at g
    have:=arp (σ:=mc b d) bs 1 ((L.kill c).bU b (some ⟨blk'.sz,dX (mc b d) blk'.vals,blk'.mt⟩)) (k-1) bk acC g
    rwa [show 1+(k-1)=k by omega] at this)
  (fun e id h ne=>by
   have aDO:e≠b:=by rintro rfl;rw [xo] at h;cases h;exact ne (.inl rfl)
   rw [ag3 _ _ _ _ (fun j h1 h2 ej=>by
    have hj:=hf j J
    unfold mc at ej
    rw [if_neg J] at ej
    subst ej
    have:=(hinv _ _ h).2
    rw [vF hc hj] at this;cases this)]
   simp [St.bU,aDO])
 refine hK _ _ ⟨by rw [put_defers];exact eh,by rw [rW];exact arS,_,Zr,by rw [mz];exact h1,?_⟩
 refine rY (L:=tn (mc b d) 1 bs ((L.kill c).bU b (some ⟨blk'.sz,dX (mc b d) blk'.vals,blk'.mt⟩))) iB (fun t=>?_) (hv.b7 _ h4)
 rw [axw]
 exact(aef c hr t).mono hrr.jy h2 h3
end
end Go.Lg
namespace Go.Lg
theorem az.aEF {L:St} {b d sz csz:Nat} {m:Bool} {vals apK:List LV} (bj:b≠d) (hd:L.heap d=none) (hb:L.heap b=some ⟨sz,vals,m⟩)
  (hv:∀ (Z:Nat->Prop) (μ:Nat->Option Nat) (w:World) (part:List Value),a6 Z μ w sz vals part->a6 Z μ w sz apK part) :
  az L ((L.bU d (some ⟨csz,[],true⟩)).bU b (some ⟨sz,apK,m⟩)):=by
 rintro n W X Z0 a w ⟨eh,bT,μ,Z,hc,hr⟩
 have nv:∀ id,μ d≠some id:=fun id e=>by rw [vF hc hd] at e;cases e
 refine⟨eh,bT,μ,Z,⟨hc.cx,hc.lg,hc.jy,hc.lh,hc.inj,hc.own,hc.x0,hc.nV,hc.x1,fun c id blk g1 g2 g3=>?_,fun c id blk g1 g2 g3=>?_,fun c id g1=>?_⟩,hr⟩
 ·simp only [St.bU] at g2
  split at g2
  ·rename_i e;subst e;cases g2;exact hc.ja c id _ g1 hb g3
  ·split at g2
   ·rename_i e;subst e;exact absurd g1 (nv id)
   ·exact hc.ja c id blk g1 g2 g3
 ·simp only [St.bU] at g2
  split at g2
  ·rename_i e;subst e;cases g2;exact hc.ca c id _ g1 hb g3
  ·split at g2
   ·rename_i e;subst e;exact absurd g1 (nv id)
   ·exact hc.ca c id blk g1 g2 g3
 ·obtain⟨bk,j1,cc,T,part,rest,j2,j3,j4⟩:=hc.heap c id g1
  simp only [St.bU]
  split
  ·rename_i e;subst e
   rw [hb] at j1;cases j1
   exact⟨_,rfl,cc,T,part,rest,j2,j3,hv _ _ _ _ j4⟩
  ·split
   ·rename_i e;subst e;exact absurd g1 (nv id)
   ·exact⟨bk,j1,cc,T,part,rest,j2,j3,j4⟩
theorem aJt {p q:LV} {d c sz:Nat} (Z:Nat->Prop) (μ:Nat->Option Nat) (w:World) (part:List Value) (h:a6 Z μ w sz [.agg [p,.v (.slice none 0 0),q]] part):a6 Z μ w sz [.agg [p,.ref d c 0 0,q]] part:=by
 simp only [a6,aJ,cj] at h ⊢
 obtain⟨c1,c2,h1,h2,⟨d1,d2,e1,e2,e3,f1,f2,g1,g2,g3,g4⟩,h3⟩:=h
 exact⟨c1,c2,h1,h2,⟨d1,d2,e1,e2,e3,f1,f2,g1,by simpa [LV.av] using g2,.inl ⟨g3.1,trivial⟩,g4⟩,h3⟩
theorem az.aoL {L:St} {t b sz off len cp:Nat} (h:L.slot t=.jY b sz off len cp):az L (L.put (some t) (.ref b sz off len)):=by
 rintro n W X Z0 a w ⟨eh,bT,μ,Z,hc,hr⟩
 refine⟨eh,bT,μ,Z,by rw [mz];exact hc,fun s=>?_⟩
 rw [iI]
 split
 ·rename_i eI
  subst eI
  have e:=hr s
  rw [h] at e
  have e3:=e.2 rfl
  simp only [aJ] at e3
  obtain⟨id,c,T,fz,q1,q2,q3,q4,q5⟩:=e3
  exact⟨by simp [LV.isAgg],fun _=>by simp only [aJ];exact .inr ⟨id,cp,c,T,fz,q1,q2,q3,q4,q5⟩⟩
 ·exact hr s
theorem ayR {P:Program} {f:FuncId} {blk c1 blk':bA} {sz n:Nat} {args:List LV} {r:LV} {bs:List bA} (hn:0<n) (h:∀ cp,n<=cp->aam P f blk c1 (.jY 1 sz 0 n cp :: args) r blk' bs):aam P f blk c1 (.ref 1 sz 0 n :: args) r blk' bs:=by
 refine⟨(h n (bF _)).1,fun W Z0 vs i0 pI hz h0 oN acC hargs=>?_⟩
 obtain⟨v,jP,rfl,hv,arK⟩:=hargs
 have h3:=hv.2 rfl
 simp only [aJ] at h3
 rcases h3 with⟨_,e⟩ | ⟨id,cap,c,T,fz,q1,q2,q3,q4,q5⟩
 ·omega
 exact(h cap q3).2 W Z0 (v :: jP) i0 pI hz h0 oN acC ⟨v,jP,rfl,⟨by simp [LV.isAgg],fun _=>by simp only [aJ];exact⟨id,c,T,fz,q1,q2,q3,q4,q5⟩⟩,arK⟩
theorem apB {P:Program} {L:St} {t b sz len:Nat} {b0:bA} {l:List (Nat × bA)} {v:List LV} (hs:L.slot t=.ref b sz 0 len) (hl:L.heap=hp l) (h0:hp l 0=some b0) (lA:aK b0.vals=true) (gJ:b≠0)
  (xg:∀ c∈l.map (·.1),c≠0->c=b) (h1:hp l b=some ⟨sz,v,true⟩) (hv:aK v=true):ak2 P [.tmp t] L (.ref 1 sz 0 len) b0 [⟨sz,v,true⟩]:=by
 have hdm:∀ (l:List (Nat × bA)) (c:Nat),hp l c≠none->c∈l.map (·.1):=fun l=>by
  induction l with
  | nil=>exact fun c h=>absurd rfl h
  | cons p t ih =>
   obtain⟨d,y⟩:=p
   intro c h
   by_cases e:c=d
   ·simp [e]
   ·have:Nat.beq c d=false:=by rw [<-Bool.not_eq_true,Nat.beq_eq];exact e
    simp only [hp,this,cond_false] at h
    simp only [lI,ff]
    exact .inr (ih c h)
 have ki:rD [b] b=1:=by simp [rD,gJ]
 refine⟨[.ref b sz 0 len],[b],b0,by rw [hl];exact h0,by rw [qy _ _ lA],.cons hs .nil,fun x hx=>by rw [fP.1 hx];exact⟨by simp,by simp⟩,by simp,by simpa using fun e:0=b=>gJ e.symm,fun c hc hh=>?_,fun k c hk=>?_,?_⟩
 ·rw [hl] at hh
  exact fP.2 (xg c (hdm l c hh) hc)
 ·cases k with
  | zero =>
   simp only [sZ,fv] at hk
   subst hk
   exact⟨⟨sz,v,true⟩,by rw [hl];exact h1,by simp only [sZ,qy _ _ hv]⟩
  | succ k=>simp at hk
 ·simp only [dX,LV.b7,ki];rfl
end Go.Lg
end
section
set_option linter.unusedVariables false
set_option linter.unusedSimpArgs false
set_option maxHeartbeats 4000000
namespace Go.Lg
section
variable {P:Program} {W w:World} {X:XS} {Z0 Z:Nat->Prop} {μ:Nat->Option Nat} {a:Act} {n:Nat} {ops:Array Oper}
def aqi (P:Program) (l:List Oper) (m:Nat) (K:St->Prop) (L:St):Prop:=∃ o L2,l[m]?=some o/\afj P l.toArray o L L2/\K L2
theorem ay8 {l:List Oper} {id:Nat} {L:St} {Q:jT->St->Prop} (iu:P.follows .mixedOrders=true) (m:Nat) (hm:yg l.toArray m []=true) (hl:l.length=m+1) (h:opsL P true l.toArray (l.take m) L (aqi P l m (Q .normal))):cU P (.region id l.toArray true) Q L:=by
 refine aix fun n W X Z0 a w hs hd id=>?_
 have iB:∀ o∈l.toArray.toList,∀ t,o.dst=some t->t<n:=fun o ho t ht=>by
  simp only [kS,py] at hd
  have:=hd o ho
  rw [ht] at this
  simpa using this
 obtain⟨f,f0,fs,o9,L9,k1,k2,k3⟩:=abw _ _ h
 have bZ:(l.take m).length=m:=by rw [fQ];omega
 rw [bZ] at k2
 unfold yg at hm
 simp only [mR,decide_eq_true_eq,py,wF] at hm
 obtain⟨⟨⟨wm,h1⟩,h2⟩,h3⟩:=hm
 have jz:∀ i o,l.toArray[i]?=some o->l.toArray.getD i default=o:=fun i o h=>by rw [gH,h];rfl
 have pn:∀ i o,l.toArray[i]?=some o->i<l.toArray.size:=fun i o h=>(nC.1 h).1
 have bT:l.toArray.size=m+1:=by simpa using hl
 have sc:=agi l.toArray l.toArray.toList [] (fun i=>by simp) (fun i t h=>by simp at h)
 let g:Nat->St:=fun i=>if i<=m then f i else L9
 have gl:∀ i,i<=m->g i=f i:=fun i hi=>if_pos hi
 have gm:g (m+1)=L9:=if_neg J
 refine amv (m:=m) (fr:=[]) (f:=g) (K:=Q .normal) (L:=L) iu hs (by rw [gl 0 (bS _)];exact f0) (fun i o ho hor=>?_) (fun i o ho iz=>?_) (by rw [bT,gm];exact k3) wm (fun i o h j hj=>?_) (fun i o h wk j hj=>?_) (fun i o h iz=>?_) (fun i j oi oj d hi hj iz mq bj vh=>?_) (fun j o hj hjf=>by simp at hjf) iB (fun L' a' w' hk jO=>⟨L',hk,jO⟩)
 ·have hi:i<m:=hor.resolve_right (fun e=>e rfl)
  rw [gl i J,gl (i+1) J]
  exact fs i o (by rw [awW,if_pos hi];simpa using ho)
 ·have:i=m:=by have:=pn i o ho;omega
  subst this
  have qS:l[i]?=some o:=by simpa using ho
  rw [k1] at qS;cases qS
  rw [gl i (bF _),gm]
  exact fun a w K Q hs hd hK=>k2 n W X Z0 a w K Q hs hd hK
 ·have:=(h1 i (pn i o h)).1 j (by rw [jz i o h];exact hj)
  simpa using this
 ·have:=(h1 i (pn i o h)).2
  rw [if_pos wk] at this
  have:=(py.1 this) j (by simpa using hj)
  simp only [qF,mR,beq_iff_eq,qW] at this
  rcases this with g9 | g9
  ·exact .inl (sc i j (by simpa using g9))
  ·exact absurd g9.2 aW
 ·have:=(h1 i (pn i o h)).2
  rw [if_neg J] at this
  rw [jz i o h] at this
  simpa using this
 ·have:=h2 i iz j mq
  simp only [qF,beq_iff_eq] at this
  rcases this with h | h
  ·exact absurd h bj
  ·unfold acQ at h
   rw [jz j oj hj,jz i oi hi,vh] at h
   simp only [mR,bne_iff_ne,ne_eq,qF,zr] at h
   refine⟨h.1,fun tW=>?_⟩
   rcases h.2 with h' | h'
   ·rw [qW.2 tW] at h';cases h'
   ·split
    ·rename_i bZ;rw [if_pos bZ] at h';exact sc i j h'
    ·rename_i bZ;rw [if_neg bZ] at h';exact sc j i h'
theorem aBA {l:List Oper} {m:Nat} {K:St->Prop} {ops:Array Oper} {o:Oper} {L L2:St} (h1:l[m]?=some o) (h2:afj P l.toArray o L L2) (h3:K L2):opsL P true ops [] L (aqi P l m K):=by
 unfold opsL
 exact⟨o,L2,h1,h2,h3⟩
def av6 (P:Program) (l:List Oper) (m:Nat) (K:St->Prop) (L:St):Prop:=∃ o L2,l[m]?=some o/\afj P l.toArray o L L2/\opsL P true l.toArray (l.drop (m+1)) L2 K
theorem aD3 {l:List Oper} {id:Nat} {L:St} {Q:jT->St->Prop} (iu:P.follows .mixedOrders=true) (m:Nat) (hm:yg l.toArray m []=true) (hl:m<l.length) (h:opsL P true l.toArray (l.take m) L (av6 P l m (Q .normal))):cU P (.region id l.toArray true) Q L:=by
 refine aix fun n W X Z0 a w hs hd id=>?_
 have iB:∀ o∈l.toArray.toList,∀ t,o.dst=some t->t<n:=fun o ho t ht=>by
  simp only [kS,py] at hd
  have:=hd o ho
  rw [ht] at this
  simpa using this
 obtain⟨f,f0,fs,o9,L9,k1,k2,k3⟩:=abw _ _ h
 obtain⟨f2,e0,es,ek⟩:=abw _ _ k3
 have bZ:(l.take m).length=m:=by rw [fQ];omega
 rw [bZ] at k2
 unfold yg at hm
 simp only [mR,decide_eq_true_eq,py,wF] at hm
 obtain⟨⟨⟨wm,h1⟩,h2⟩,h3⟩:=hm
 have jz:∀ i o,l.toArray[i]?=some o->l.toArray.getD i default=o:=fun i o h=>by rw [gH,h];rfl
 have pn:∀ i o,l.toArray[i]?=some o->i<l.toArray.size:=fun i o h=>(nC.1 h).1
 have bT:l.toArray.size=l.length:=by simp
 have sc:=agi l.toArray l.toArray.toList [] (fun i=>by simp) (fun i t h=>by simp at h)
 let g:Nat->St:=fun i=>if i<=m then f i else f2 (i-(m+1))
 have gl:∀ i,i<=m->g i=f i:=fun i hi=>if_pos hi
 have gm:∀ i,m<i->g i=f2 (i-(m+1)):=fun i hi=>if_neg J
 refine amv (m:=m) (fr:=[]) (f:=g) (K:=Q .normal) (L:=L) iu hs (by rw [gl 0 (bS _)];exact f0) (fun i o ho hor=>?_) (fun i o ho iz=>?_) (by rw [bT,gm _ hl,<-ni];exact ek) wm (fun i o h j hj=>?_) (fun i o h wk j hj=>?_) (fun i o h iz=>?_) (fun i j oi oj d hi hj iz mq bj vh=>?_) (fun j o hj hjf=>by simp at hjf) iB (fun L' a' w' hk jO=>⟨L',hk,jO⟩)
 ·have hi:i<m:=hor.resolve_right (fun e=>e rfl)
  rw [gl i J,gl (i+1) J]
  exact fs i o (by rw [awW,if_pos hi];simpa using ho)
 ·by_cases hem:i=m
  ·subst hem
   have qS:l[i]?=some o:=by simpa using ho
   rw [k1] at qS;cases qS
   rw [gl i (bF _),gm _ (Nat.lt_succ_self _),sM,e0]
   exact fun a w K Q hs hd hK=>k2 n W X Z0 a w K Q hs hd hK
  ·have eI:=es (i-(m+1)) o (by rw [List.getElem?_drop,show m+1+(i-(m+1))=i by omega];simpa using ho)
   rw [gm i J,gm (i+1) J,show i+1-(m+1)=i-(m+1)+1 by omega]
   exact fun a w K Q hs hd hK=>acn hs eI hd hK
 ·have:=(h1 i (pn i o h)).1 j (by rw [jz i o h];exact hj)
  simpa using this
 ·have:=(h1 i (pn i o h)).2
  rw [if_pos wk] at this
  have:=(py.1 this) j (by simpa using hj)
  simp only [qF,mR,beq_iff_eq,qW] at this
  rcases this with g9 | g9
  ·exact .inl (sc i j (by simpa using g9))
  ·exact absurd g9.2 aW
 ·have:=(h1 i (pn i o h)).2
  rw [if_neg J] at this
  rw [jz i o h] at this
  simpa using this
 ·have:=h2 i iz j mq
  simp only [qF,beq_iff_eq] at this
  rcases this with h | h
  ·exact absurd h bj
  ·unfold acQ at h
   rw [jz j oj hj,jz i oi hi,vh] at h
   simp only [mR,bne_iff_ne,ne_eq,qF,zr] at h
   refine⟨h.1,fun tW=>?_⟩
   rcases h.2 with h' | h'
   ·rw [qW.2 tW] at h';cases h'
   ·split
    ·rename_i bZ;rw [if_pos bZ] at h';exact sc i j h'
    ·rename_i bZ;rw [if_neg bZ] at h';exact sc j i h'
theorem aAV {l:List Oper} {m:Nat} {K:St->Prop} {ops:Array Oper} {o:Oper} {L L2:St} (h1:l[m]?=some o) (h2:afj P l.toArray o L L2) (h3:opsL P true l.toArray (l.drop (m+1)) L2 K):opsL P true ops [] L (av6 P l m K):=by
 unfold opsL
 exact⟨o,L2,h1,h2,h3⟩
end
end Go.Lg
end
section
set_option linter.unusedVariables false
set_option linter.unusedSimpArgs false
namespace Go.Proofs.YthcadngkamjpdaaGreat
open Go.Lg
section
variable {f:FuncId} {fn:Func} {c:Code} {args:List LV} {r:LV}
theorem fnC {blk c1 blk':bA} {bs:List bA} (hf:ak.funcs[f]?=some fn)
  (h:cU ak c (fun e L=>match e with | .exit _=>False | _=>amk ak fn.results.toList L r blk' bs) (St.mk (fun t=>args.getD t .any) (hp [(0,blk),(1,c1)])))
  (hb:fn.body=some c:=by exact rfl) (hn:(fn.name== "runtime.NumGoroutine")=false:=by decide +kernel) (hd:kS fn.ntmps c=true:=by decide +kernel) (hlen:args.length<=fn.ntmps:=by exact Nat.le_of_ble_eq_true rfl) (fu:blk.mt=true:=by exact rfl) (alR:c1.mt=true:=by exact rfl):aam ak f blk c1 args r blk' bs:=aGw fol hf hb hn hd hlen fu alR h
end
end Go.Proofs.YthcadngkamjpdaaGreat
end
