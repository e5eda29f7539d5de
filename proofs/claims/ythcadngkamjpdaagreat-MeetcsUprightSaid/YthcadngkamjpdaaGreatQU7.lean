/- Texts U1, U2, U3, U4, U5, U6, A3, A4, U16, Q2, Q10, A1, A6, A7, A8 of this proof, joined. -/
import Derived.Test.YthcadngkamjpdaaGreatQU6
set_option linter.unusedVariables false
set_option linter.unusedSimpArgs false
open And renaming intro->fF
open Go.Proofs.Tryz renaming func40->aiY,func86->aub,prog->ak,underlying150->jv,underlying160->ox,underlying26->dY,underlying27->qb,underlying44->qd,underlying62->kj
open Int renaming natAbs_mul->ao6,natAbs_natCast->axW,toNat_of_nonneg->al9
open List renaming all_eq_true->py,append_nil->qo,count_replicate->auu,drop_append_of_le_length->arh,drop_drop->qL,drop_left'->adm,drop_of_length_le->kB,drop_succ_cons->wW,drop_zero->ks,foldl->vx,getD_cons_succ->aaD,getD_cons_zero->zy,getD_eq_getElem?_getD->bE,getElem?_eq_getElem->bY,getElem?_map->gZ,getElem?_range->aum,getElem_mem->qx,getElem_of_mem->aaU,length_append->jS,length_cons->l8,length_drop->ni,length_map->eD,length_nil->acJ,length_replicate->acT,length_set->aeM,length_take->fQ,map->uL,map_append->aac,map_cons->lI,map_drop->aei,map_nil->wL,map_set->auF,map_take->w5,mem_cons->ff,mem_map->ga,mem_of_mem_drop->xX,mem_of_mem_take->x5,mem_range->wF,mem_singleton->fP,not_mem_nil->iq,range->fe,replicate->aV,replicate_succ'->agF,set->vZ,set_cons_succ->afs,set_cons_zero->aq5,take_add_one->v8,take_append_of_le_length->aty,take_left'->aiS,take_length->mQ,take_of_length_le->cE,take_succ_cons->rq,take_zero->uZ
open Nat renaming le_mul_of_pos_right->pY,le_refl->bF,le_trans->bb,lt_or_ge->kD,lt_succ_iff_lt_or_eq->ae8,min_eq_left->nt,mul_assoc->fJ,mul_comm->eH,mul_le_mul_left->lr,mul_pos->qn,one_le_two_pow->amC,pow_pos->lC,pow_succ->jw,reduceAdd->wz,reduceSub->awg,sub_self->sM,zero_add->fg,zero_le->bS,zero_lt_one->au8
open Option.some renaming inj->awB
open Rat renaming add_zero->jC,div_def->qh,div_mul_cancel->lD,intCast_le_intCast->asQ,intCast_mul->abx,intCast_nonneg->asJ,intCast_pos->aq4,le_of_lt->mZ,le_refl->nI,mul_assoc->ady,mul_comm->zD,mul_div_cancel->aan,mul_le_mul_of_nonneg_right->ao7,mul_nonneg->aa5,mul_one->vv,mul_zero->aav,one_mul->tu,zero_mul->akR
section
set_option linter.unusedVariables false
set_option linter.unusedSimpArgs false
set_option maxHeartbeats 8000000
set_option maxRecDepth 100000
attribute [local irreducible] Go.Lg.opsL Go.Lg.cU Go.Lg.oq Go.Lg.qK
namespace Go.Proofs.YthcadngkamjpdaaGreat
open Go.Lg
namespace atg
theorem aw {p q:Prop} (k:q) (e:p=q:=by simp only [e1,e2,e3,e4,p1,p2,p3,q1,q2,q3,l1,t0,t1,r1,r2,r3,r4,Nat.zero_add,Nat.reduceMul,Nat.reduceAdd,b1,b2,b3,b4,b5,b6,i1,i2,i3,i4,i5,i6,Nat.reduceBEq,Nat.sub_zero,Nat.add_zero,hln,hls,hcA,hcB,hcC,hcD,Nat.reduceEqDiff,reduceIte,if_true,if_false,aG an,cA,LV.kill,bH];exact rfl):p:=e.mpr k
end atg
open atg in
theorem aIU (k:List Rat) (i:Nat) (t:Rat) (cp:Nat) (hi:i<k.length) (fx:k.length<=cp) (hl:k.length<=1000):aam ak 218 ⟨3,[aa t],true⟩ ⟨3,(k.map aa),true⟩ [.jY 1 3 0 k.length cp,ae i,.ref 0 3 0 1] (.ref 1 3 0 (k.length+1)) ⟨3,[aa t],true⟩ [⟨3,((k.take i++t :: k.drop i).map aa),true⟩]:=by
 have vA:(k.map aa).length=k.length:=eD _
 have hln:i+(k.length+1-i)=k.length+1:=by omega
 have hls:k.length+1-(i+1)=k.length-i:=by omega
 have wv:(aV (k.length+1-i) (aa 0))=aa 0 :: aV (k.length-i) (aa 0):=by rw [show k.length+1-i=(k.length-i)+1 by omega,List.replicate_succ]
 have hti:((k.map aa).take i).length=i:=by rw [fQ,vA];omega
 have hcA:((k.map aa).take i++(aV (k.length+1-i) (aa 0))).take i++[aa t]++((k.map aa).take i++(aV (k.length+1-i) (aa 0))).drop (i+[aa t].length)=((k.map aa).take i++aa t :: aV (k.length-i) (aa 0)):=by
  rw [wv,aiS hti,<-qL,adm hti]
  simp
 have mj:((k.map aa).drop i).length=k.length-i:=by rw [ni,vA]
 have hcB:((k.map aa).take i++aa t :: aV (k.length-i) (aa 0)).take (i+1)++((k.map aa).drop i)++((k.map aa).take i++aa t :: aV (k.length-i) (aa 0)).drop (i+1+((k.map aa).drop i).length)=((k.take i++t :: k.drop i).map aa):=by
  have e1x:((k.map aa).take i++aa t :: aV (k.length-i) (aa 0))=((k.map aa).take i++[aa t])++aV (k.length-i) (aa 0):=by simp
  have h1:((k.map aa).take i++[aa t]).length=i+1:=by simp [hti]
  rw [e1x,aiS h1,<-qL,adm h1,mj,kB (l:=aV (k.length-i) (aa 0)) aW]
  simp
 have hdE:(k.map aa).drop (i+1+((k.map aa).drop i).length)=[]:=kB (by rw [mj,vA];omega)
 have hcC:(k.map aa).take (i+1)++((k.map aa).drop i)++(k.map aa).drop (i+1+((k.map aa).drop i).length)=(k.map aa).take (i+1)++((k.map aa).drop i):=by rw [hdE,qo]
 have hcD:((k.map aa).take (i+1)++((k.map aa).drop i)).take i++[aa t]++((k.map aa).take (i+1)++((k.map aa).drop i)).drop (i+[aa t].length)=((k.take i++t :: k.drop i).map aa):=by
  have h1:((k.map aa).take (i+1)).length=i+1:=by rw [fQ,vA];omega
  rw [aty J,List.take_take,nt J]
  rw [show i+[aa t].length=i+1 from rfl,adm h1]
  simp
 have oP:aK ((k.take i++t :: k.drop i).map aa)=true:=aP an _
 refine fnC Tryz.func218 ?_
 refine bB ?_
 refine ah rfl (.adN (a:=i) (h:=k.length) rfl dY dC (fun y hy=>by cases hy;exact⟨_,rfl⟩) (fun h=>by cases h) (fun y hy=>by cases hy) (fun _=>rfl) J J J) ?_
 refine nm ?_
 refine dp (b:=_) rfl (rfl) ?_
 refine iY ?_
 refine dp (b:=_) rfl (beq_eq_false_iff_ne.2 J) ?_
 refine bf ?_
 refine ah rfl (.bin rfl rfl (xC (a:=k.length) (b:=1) J)) ?_
 refine ao ?_
 refine ah rfl (.ad8 rfl rfl UN.h) ?_
 refine aQ ?_
 refine aL rfl ?_ ?_<;>intro amS h31
 ·refine aB ?_
  refine ah rfl (.adN (a:=0) (h:=i) rfl dY dC (fun y hy=>by cases hy) (fun _=>rfl) (fun y hy=>by cases hy;exact⟨_,rfl⟩) (fun h=>by cases h) J J J) ?_
  refine aH ?_
  refine ah rfl (.bin rfl rfl (xC (a:=k.length) (b:=1) J)) ?_
  refine ao ?_
  refine ah rfl (.bin rfl rfl (afw (a:=k.length+1) (b:=i) (c:=k.length+1-i) J J)) ?_
  refine auG rfl rfl (.ajj (d:=40) (n:=k.length+1-i) (len:=i) (cp:=cp) (b:=1) (sz:=3) (z:=aa 0) (blk:=⟨3,(k.map aa),true⟩) dY Tryz.underlying3 (rQ ▸ kT) (by rw [an.isAgg];exact dC) (an.av 0) kX rfl rfl rfl (by rw [vA];omega) rfl rfl J ai J J) ?_
  refine bf ?_
  try refine aw ?_
  refine ah rfl aom ?_
  refine ao ?_
  try refine aw ?_
  refine bO rfl (.acS (b:=40) (sz:=3) (off:=i) (n1:=k.length+1-i) (c:=0) (off2:=0) (n2:=1) (news:=[aa t]) rfl rfl rfl rfl (by rw [jS,hti];omega) dY dY dC rfl rfl rfl (by show 1=min _ _;rw [nt J]) (au8) (bF 1) rfl) ?_
  refine aQ ?_
  refine aCg 8 al (az.aoL (t:=0) rfl) ?_
  try refine aw ?_
  refine aQ ?_
  refine ah rfl (.bin rfl rfl (xC (a:=i) (b:=1) J)) ?_
  refine ah rfl alX ?_
  refine aH ?_
  refine ah rfl (.wj (a:=i) (h:=k.length) rfl dY dC (fun y hy=>by cases hy;exact⟨_,rfl⟩) (fun h=>by cases h) (fun y hy=>by cases hy) (fun _=>rfl) om om om) ?_
  try refine aw ?_
  refine bO rfl (.acS (b:=40) (sz:=3) (off:=i+1) (n1:=k.length-i) (c:=1) (off2:=i) (n2:=k.length-i) (news:=((k.map aa).drop i)) rfl rfl rfl rfl (by rw [jS,hti,l8,acT];omega) dY dY dC rfl rfl rfl (by show _=min _ _;rw [mj,Nat.min_self]) (by rw [mj];omega) (by rw [mj,vA];omega) (mQ).symm) ?_
  refine bh ?_
  refine⟨_,az.kill _ 1,?_⟩
  try refine aw ?_
  exact apB rfl rfl rfl (by simp [aK,an.pure]) ai aW rfl oP
 ·refine bf ?_
  refine ah rfl (.bin rfl rfl (xC (a:=k.length) (b:=1) J)) ?_
  refine ah rfl (.adN (a:=0) (h:=k.length+1) rfl dY dC (fun y hy=>by cases hy) (fun _=>rfl) (fun y hy=>by cases hy;exact⟨_,rfl⟩) (fun h=>by cases h) J J J) ?_
  refine a7 ?_
  refine bR (az.aoL (t:=0) rfl) ?_
  try refine aw ?_
  refine aB ?_
  refine ah rfl (.bin rfl rfl (xC (a:=i) (b:=1) J)) ?_
  refine ah rfl alX ?_
  try refine aw ?_
  refine auG rfl rfl (.ovl (ag:=true) Tryz.func264 rfl rfl rfl rfl dY dC rfl rfl ai ai J ai) ?_
  refine aQ ?_
  refine bI (b:=_) rfl (rfl) ?_
  refine ao ?_
  refine aY 8 al ?_
  refine aQ ?_
  refine ah rfl (.bin rfl rfl (xC (a:=i) (b:=1) J)) ?_
  refine ah rfl alX ?_
  refine aH ?_
  refine ah rfl aom ?_
  try refine aw ?_
  refine bO rfl (.acS (b:=1) (sz:=3) (off:=i+1) (n1:=k.length-i) (c:=1) (off2:=i) (n2:=k.length+1-i) (news:=((k.map aa).drop i)) rfl rfl rfl rfl (by rw [vA];omega) dY dY dC rfl rfl rfl (by show _=min _ _;rw [mj,Nat.min_eq_right J]) (by rw [mj];omega) (by rw [mj,vA];omega) (mQ).symm) ?_
  refine ay ?_
  refine ah rfl aom ?_
  refine ao ?_
  try refine aw ?_
  refine bO rfl (.acS (b:=1) (sz:=3) (off:=i) (n1:=k.length+1-i) (c:=0) (off2:=0) (n2:=1) (news:=[aa t]) rfl rfl rfl rfl (by rw [jS,fQ,vA,mj];omega) dY dY dC rfl rfl rfl (by show 1=min _ _;rw [nt J]) (au8) (bF 1) rfl) ?_
  refine bh ?_
  refine⟨_,az.refl _,?_⟩
  try refine aw ?_
  exact apB rfl rfl rfl (by simp [aK,an.pure]) ai aW rfl oP
theorem aGn (k:List Rat) (i:Nat) (t:Rat) (hi:i<k.length) (hl:k.length<=1000) :
  aam ak 218 ⟨3,[aa t],true⟩ ⟨3,(k.map aa),true⟩ [.ref 1 3 0 k.length,ae i,.ref 0 3 0 1] (.ref 1 3 0 (k.length+1)) ⟨3,[aa t],true⟩ [⟨3,((k.take i++t :: k.drop i).map aa),true⟩] :=
 ayR J fun cp h=>aIU k i t cp hi h hl
theorem fy0 (bs:List Nat):vD bs []=[]:=rfl
theorem fyc (bs:List Nat) (c:Nat) (y:bA) (l:List (Nat × bA)):vD bs ((c,y) :: l)=(c,⟨y.sz,y.vals,y.mt && !bs.contains c⟩) :: vD bs l:=rfl
theorem aIO {l:List (Nat × bA)} {c:Nat} (h:∀ x∈l.map (·.1),x≠c):hp l c=none:=by
 induction l with
 | nil=>rfl
 | cons q t ih =>
  obtain⟨d,y⟩:=q
  have e:Nat.beq c d=false:=by
   rw [<-Bool.not_eq_true,Nat.beq_eq]
   exact fun e=>h d aW e.symm
  simp only [hp,e,cond_false]
  exact ih fun x hx=>h x (by simp only [lI,ff];exact .inr hx)
def tc (f:Nat->Rat) (v:List Rat) (j:Nat):List Rat:=(fe v.length).map fun i=>if j<i then v.getD (i-1) 0+f i*(v.getD i 0-v.getD (i-1) 0) else v.getD i 0
theorem w7 (f:Nat->Rat) (v:List Rat) (j:Nat):(tc f v j).length=v.length:=by simp [tc]
theorem abU (f:Nat->Rat) (v:List Rat) (j i:Nat) (h:i<v.length):(tc f v j).getD i 0=if j<i then v.getD (i-1) 0+f i*(v.getD i 0-v.getD (i-1) 0) else v.getD i 0:=by
 unfold tc
 rw [bE,gZ,aum h]
 rfl
theorem aDj (f:Nat->Rat) (v:List Rat) (j:Nat) (h:v.length<=j+1):tc f v j=v :=
 amP (w7 f v j) fun i hi=>by
  rw [w7] at hi
  rw [abU f v j i hi,if_neg J]
theorem aCo (f:Nat->Rat) (v:List Rat) (j:Nat) (h0:0<j) (h:j<v.length):(tc f v j).set j (v.getD (j-1) 0+f j*(v.getD j 0-v.getD (j-1) 0))=tc f v (j-1) :=
 amP (by rw [aeM,w7,w7]) fun i hi=>by
  rw [aeM,w7] at hi
  rw [abU f v (j-1) i hi,bE,List.getElem?_set]
  by_cases e:j=i
  ·subst e
   rw [if_pos rfl,if_pos (by rw [w7];exact h),if_pos J];rfl
  ·rw [if_neg e,<-bE,abU f v j i hi]
   by_cases g:j<i
   ·rw [if_pos g,if_pos J]
   ·rw [if_neg g,if_neg J]
def jq (F:Nat->Nat->Rat) (v:List Rat):Nat->List Rat
 | 0=>v
 | r+1=>tc (F r) (jq F v r) r
theorem agY (F:Nat->Nat->Rat) (v:List Rat):∀ r,(jq F v r).length=v.length
 | 0=>rfl
 | r+1=>by rw [jq,w7,agY F v r]
theorem azc {f:Nat->Rat} {v:List Rat} {Q R j:Nat} (hf:∀ i,j<i->i<v.length->rl (f i)<=Q) (hR:1<=R) (hv:∀ x∈v,rl x<=R):∀ x∈tc f v j,rl x<=3*R+Q+2:=fun x hx=>by
 obtain⟨i,hi,rfl⟩:=anc hx
 rw [w7] at hi
 rw [abU f v j i hi]
 have a:=gQ hR hv i
 have b:=gQ hR hv (i-1)
 split
 ·rename_i g
  have h0:=hf i g hi
  have h1:=fD (v.getD i 0) (v.getD (i-1) 0)
  have h2:=cM (f i) (v.getD i 0-v.getD (i-1) 0)
  have h3:=nZ (v.getD (i-1) 0) (f i*(v.getD i 0-v.getD (i-1) 0))
  omega
 ·omega
theorem ayh {F:Nat->Nat->Rat} {v:List Rat} {Q R n:Nat} (hQ:∀ r i,r<n->r<i->i<v.length->rl (F r i)<=Q) (hR:1<=R) (hv:∀ x∈v,rl x<=R):∀ r,r<=n->∀ x∈jq F v r,rl x<=zF Q R r
 | 0,_=>hv
 | r+1,h=>azc (fun i h1 h2=>hQ r i J h1 (by rwa [agY] at h2)) (atb hR r) (ayh hQ hR hv r J)
def gF (k:List Rat) (d pc:Nat) (args:List Rat) (r j:Nat):Rat:=(args.getD r 0-k.getD (pc-d+j) 0)/(k.getD (pc+j-r) 0-k.getD (pc-d+j) 0)
def uz (k:List Rat) (d pc:Nat) (v args:List Rat):Rat:=(jq (gF k d pc args) ((v.drop (pc-d)).take (d+1)) d).getD d 0
def sg (k:List Rat) (d pc:Nat) (C:List Q4) (args:List Rat):Q4:=⟨uz k d pc (C.map (·.x)) args,uz k d pc (C.map (·.y)) args,uz k d pc (C.map (·.z)) args,uz k d pc (C.map (·.w)) args⟩
structure xJ (k:List Rat) (d pc:Nat):Prop where
 d6:d<=6
 kl:k.length<=100
 kr:∀ x∈k,rl x<=100
 srt:∀ i j,i<=j->j<k.length->k.getD i 0<=k.getD j 0
 p1:d<=pc
 p2:pc+d+1<k.length
 lt:k.getD pc 0<k.getD (pc+1) 0
theorem xJ.fr {k:List Rat} {d pc:Nat} (h:xJ k d pc) {r j:Nat} (h1:r<j) (h2:j<=d):k.getD (pc-d+j) 0<k.getD (pc+j-r) 0:=by
 have a1:=h.p1
 have a2:=h.p2
 have b1:=h.srt (pc-d+j) pc J J
 have b2:=h.srt (pc+1) (pc+j-r) J J
 have b3:=h.lt
 grind
theorem xJ.kn {k:List Rat} {d pc:Nat} (h:xJ k d pc) {i:Nat} (hi:i<k.length):rl (k.getD i 0)<=100:=h.kr _ (eU hi)
theorem xJ.fl {k:List Rat} {d pc:Nat} (h:xJ k d pc) {args:List Rat} (hA:∀ t∈args,rl t<=100) {r j:Nat} (h1:r<j) (h2:j<=d) (h3:r<args.length):rl (gF k d pc args r j)<=402:=by
 have a1:=h.p1
 have a2:=h.p2
 have b1:=h.kn (i:=pc-d+j) J
 have b2:=h.kn (i:=pc+j-r) J
 have b3:=hA _ (eU h3)
 have c1:=fD (args.getD r 0) (k.getD (pc-d+j) 0)
 have c2:=fD (k.getD (pc+j-r) 0) (k.getD (pc-d+j) 0)
 have c3:=pH (args.getD r 0-k.getD (pc-d+j) 0) (k.getD (pc+j-r) 0-k.getD (pc-d+j) 0)
 unfold gF
 omega
namespace axt
theorem aw {p q:Prop} (k:q) (e:p=q:=by simp only [e1,e2,e3,e4,p1,p2,p3,q1,q2,q3,l1,t0,t1,r1,r2,r3,r4,Nat.zero_add,Nat.reduceMul,Nat.reduceAdd,b1,b2,b3,b4,b5,b6,i1,i2,i3,i4,i5,i6,Nat.reduceBEq,fy0,fyc,hnR,hnB,hnC,ki,cn,Rat.add_zero,List.length_map,List.set_cons_zero,List.set_cons_succ,Nat.reduceEqDiff,reduceIte,if_true,if_false,cB,dB,aG aX,aG bz,aG an,cA,cC,LV.kill,bH];exact rfl):p:=e.mpr k
end axt
open axt in
theorem ap7 (k:List Rat) (t:Rat) (i0:Nat) (h3:i0<k.length) (hl:k.length<=1000) (hr:∀ x∈k,rl x<=100000) (ht:rl t<=100000) (h1:∀ j,j<i0->k.getD j 0<=t) (h2:t<k.getD i0 0):ax ak 146 [.list 3 (k.map aa),aa t] (.list 3 ((k.take i0++t :: k.drop i0).map aa)):=by
 have nH:=cd an 3 k
 have hKc:=ap5 k J (fun x hx=>bb (hr x hx) ai)
 have hA:=fA t 0 (by rw [show rl 0=1 from rfl];omega)
 rw [jC] at hA
 have ju:aK [aa t]=true:=by simp [aK,an.pure]
 have tC:aK (k.map aa)=true:=aP an _
 have hIn:=aGn k i0 t h3 hl
 have ki:mc 27 28 1=1000449:=rfl
 have hnR:(LV.ref 1 3 0 (k.length+1)).b7 (mc 27 28)=.ref 1000449 3 0 (k.length+1):=rfl
 have hnB:dX (mc 27 28) [aa t]=[aa t]:=qy _ _ ju
 have hnC:dX (mc 27 28) ((k.take i0++t :: k.drop i0).map aa)=(k.take i0++t :: k.drop i0).map aa:=qy _ _ (aP an _)
 have hlR:(k.take i0++t :: k.drop i0).length=k.length+1:=by rw [jS,l8,fQ,ni];omega
 have zk:∀ i,i<k.length->rl (k.getD i 0)<=100000:=fun i hi=>hr _ (eU hi)
 refine aR Tryz.func146 ?_
 refine dk ?_
 refine dI (fun(i:Nat) L=>((((St.mk L.slot (hp [(3,⟨3,[aa t],true⟩)])).put (some 0) (.list 3 (k.map aa))).put (some 3) (.aF 3 3 0 0)).put (some 5) (ae i))) (fun i=>i<=i0) (fun i=>i0-i) 0 (bS _) ?_
 rintro i L1 hi
 refine aH ?_
 refine aY 13 al ?_
 refine a7 ?_
 refine ah (aM (v:=true) rfl rfl ((decide_eq_true jE)) rfl) (.move _) ?_
 refine ah (aM (v:=true) rfl rfl ((decide_eq_true jE)) rfl) (.move _) ?_
 refine ah (aM (v:=true) rfl rfl ((decide_eq_true jE)) rfl) wY ?_
 refine ah (aM (v:=true) rfl rfl ((decide_eq_true jE)) rfl) dE ?_
 refine ah (aM (v:=true) rfl rfl ((decide_eq_true jE)) rfl) dE ?_
 try simp only [t1,cn]
 refine bM (aM (v:=true) rfl rfl ((decide_eq_true jE)) rfl) (.cons cG (.cons cG .nil)) (mG (k.getD i 0) t (by have:=zk i J;omega)) ?_
 refine ah (aM (v:=true) rfl rfl ((decide_eq_true jE)) rfl) (.bin rfl rfl rfl) ?_
 refine ah rfl (.gU rfl ((decide_eq_true jE))) ?_
 refine aH ?_
 refine aL rfl ?_ ?_<;>intro aau xT
 ·have dq:i<i0:=by
   rcases kD i i0 with g | g
   ·exact g
   ·obtain rfl:i=i0:=by omega
    have:=sv.2 h2
    omega
  refine a7 ?_
  refine ah rfl cu ?_
  refine aB ?_
  exact lK
 ·obtain rfl:i0=i:=by
   rcases kD i i0 with g | g
   ·have:=ae1.2 (h1 i g)
    omega
   ·omega
  refine ay ?_
  refine aD3 rfl 7 al ai ?_
  simp only [rq,uZ]
  refine ao ?_
  refine abB [] rfl rfl (.cons (.pure nH) .nil) hKc (aP an _) rfl ?_
  refine aH ?_
  refine ah rfl rE ?_
  refine cp au (hA) ?_
  refine ao ?_
  try refine aw ?_
  refine aAV rfl (aro (f:=218) (b:=27) (c:=1000353) (sz:=3) (csz:=3) (vals:=[aa t]) (cvals:=k.map aa) 28 rfl ai ai (by rw [qy _ _ ju];rfl) (by rw [qy _ _ tC];rfl) (.cons (.b7 (y:=.ref 1 3 0 k.length) ⟨by simp,by simp⟩) (.cons (.eF (.pure rfl)) (.cons (.b7 (y:=.ref 0 3 0 1) ⟨by simp,by simp⟩) .nil))) (.tl (.tl (.ref ai))) hIn aW (fun kk hkk=>aIO (by intro x hx;simp only [lI,wL,ff,iq,or_false] at hx;unfold dZ;omega))) ?_
  simp only [tn,ki,hnR,hnB,hnC]
  try refine aw ?_
  simp only [wW,ks]
  refine aB ?_
  exact lW [1000449] rfl rfl (dH (l:=(k.take i0++t :: k.drop i0)) an rfl rfl hlR.symm)
namespace axe
theorem aw {p q:Prop} (k:q) (e:p=q:=by simp only [e1,e2,e3,e4,p1,p2,p3,q1,q2,q3,l1,t0,t1,r1,r2,r3,r4,Nat.zero_add,Nat.reduceMul,Nat.reduceAdd,b1,b2,b3,b4,b5,b6,i1,i2,i3,i4,i5,i6,Nat.reduceBEq,afy,List.length_map,cn,List.set_cons_zero,List.set_cons_succ,Nat.reduceEqDiff,reduceIte,if_true,if_false,cB,dB,aG aX,aG bz,aG an,cA,cC,LV.kill,bH];exact rfl):p:=e.mpr k
end axe
open axe in
theorem azz (d:Nat) (k:List Rat) (t:Rat) (r:Nat) (hl:k.length<=1000) (hr:∀ x∈k,rl x<=100000) (ht:rl t<=100000) (h0:k.getD 0 0<=t) (h1:t<=k.getD (k.length-1) 0) (gk:r+1<k.length) (mW:k.getD r 0<k.getD (r+1) 0) (hA:∀ i,i<r->k.getD i 0<k.getD (i+1) 0->k.getD (i+1) 0<=t) (hB:t<k.getD (r+1) 0\/∀ i,r<i->i+1<k.length->¬k.getD i 0<k.getD (i+1) 0):ax ak 220 [.list 3 (k.map aa),ae d,aa t] (.a9 [ae r,iL 0]):=by
 have afy:((k.length:Int)-1).toNat=k.length-1:=by omega
 have zk:∀ i,i<k.length->rl (k.getD i 0)<=100000:=fun i hi=>hr _ (eU hi)
 have c1:¬gp t (k.getD 0 0)<0:=fun e=>by have:=zL.2 h0;omega
 have c2:¬gp t (k.getD (k.length-1) 0) > 0:=fun e=>by have:=sv.1 e;grind
 have lE:=zk 0 J
 have hrN:=zk (k.length-1) J
 refine aR Tryz.func220 (ht:=(iF rfl rfl)) ?_
 refine bB ?_
 refine aY 22 al ?_
 refine aB ?_
 refine ah (aM (v:=false) rfl rfl ((beq_eq_false_iff_ne.2 J)) rfl) dE ?_
 refine ah (aM (v:=false) rfl rfl ((beq_eq_false_iff_ne.2 J)) rfl) (.move _) ?_
 refine ah (aM (v:=false) rfl rfl ((beq_eq_false_iff_ne.2 J)) rfl) wY ?_
 refine ah (aM (v:=false) rfl rfl ((beq_eq_false_iff_ne.2 J)) rfl) dE ?_
 try simp only [t1,cn]
 refine bM (aM (v:=false) rfl rfl ((beq_eq_false_iff_ne.2 J)) rfl) (.cons cG (.cons cG .nil)) (mG t (k.getD 0 0) J) ?_
 refine ah (aM (v:=false) rfl rfl ((beq_eq_false_iff_ne.2 J)) rfl) (.bin rfl rfl rfl) ?_
 refine ah rfl (.m9 rfl ((beq_eq_false_iff_ne.2 J))) ?_
 refine ao ?_
 refine ah (aM (v:=false) rfl rfl ((decide_eq_false c1)) rfl) dE ?_
 refine ah (aM (v:=false) rfl rfl ((decide_eq_false c1)) rfl) (.move _) ?_
 refine ah (aM (v:=false) rfl rfl ((decide_eq_false c1)) rfl) (.move _) ?_
 refine ah (aM (v:=false) rfl rfl ((decide_eq_false c1)) rfl) pM ?_
 refine ah (aM (v:=false) rfl rfl ((decide_eq_false c1)) rfl) (.bin rfl rfl (afC J J)) ?_
 refine ah (aM (v:=false) rfl rfl ((decide_eq_false c1)) rfl) wY ?_
 refine ah (aM (v:=false) rfl rfl ((decide_eq_false c1)) rfl) dE ?_
 try simp only [t1,cn,afy]
 refine bM (aM (v:=false) rfl rfl ((decide_eq_false c1)) rfl) (.cons cG (.cons cG .nil)) (mG t (k.getD (k.length-1) 0) J) ?_
 refine ah (aM (v:=false) rfl rfl ((decide_eq_false c1)) rfl) (.bin rfl rfl rfl) ?_
 refine ah rfl (.m9 rfl ((decide_eq_false c1))) ?_
 refine aH ?_
 refine dp (b:=_) rfl (decide_eq_false c2) ?_
 refine df ?_
 refine iv (fun(i la:Nat) L=>(((((St.mk L.slot (hp [(5,⟨3,[aa t],true⟩)])).put (some 0) (.list 3 (k.map aa))).put (some 5) (.aF 5 3 0 0)).put (some 8) (ae la)).put (some 9) (ae i))) (fun i la=>i<k.length/\(r<i->la=r/\k.getD (r+1) 0<=t)) (fun i la=>k.length-i) 0 0 ⟨J,fun h=>absurd h (Nat.not_lt_zero _)⟩ ?_
 rintro i la L1 ⟨hi,fS⟩
 refine aB ?_
 refine ah rfl cu ?_
 refine a7 ?_
 refine aL rfl ?_ ?_<;>intro avO h36
 ·have dq:i+1<k.length:=by omega
  have mB:=zk i J
  have yu:=zk (i+1) dq
  refine ay ?_
  refine aY 11 al ?_
  refine ay ?_
  refine ah rfl cu ?_
  refine aH ?_
  try simp only [t1,cn]
  refine cp au (mG (k.getD i 0) (k.getD (i+1) 0) J) ?_
  refine aQ ?_
  refine aL rfl ?_ ?_<;>intro ab9 h49
  ·have rK:¬k.getD i 0<k.getD (i+1) 0:=fun e=>by have:=aen.2 e;omega
   have mi:r<i+1->la=r/\k.getD (r+1) 0<=t:=fun h=>by
    rcases ae8.1 h with g | g
    ·exact fS g
    ·exact absurd (g ▸ mW) rK
   refine ay ?_
   refine ah rfl cu ?_
   refine aQ ?_
   exact fO (i+1) la ⟨J,mi⟩
  ·have bZ:k.getD i 0<k.getD (i+1) 0:=abW.1 J
   refine bB ?_
   refine aY 8 al ?_
   refine aQ ?_
   refine ah rfl cu ?_
   refine aH ?_
   try simp only [t1,cn]
   refine cp au (mG t (k.getD (i+1) 0) J) ?_
   refine aQ ?_
   refine aL rfl ?_ ?_<;>intro awJ h58
   ·obtain rfl:i=r:=by
     have hb:=abW.1 h58
     rcases Nat.lt_trichotomy i r with g | g | g
     ·have:=hA i g bZ
      grind
     ·exact g
     ·rcases hB with e | e
      ·have:=(fS g).2
       grind
      ·exact absurd bZ (e i g dq)
    refine df ?_
    exact aak
   ·have kP:k.getD (i+1) 0<=t:=zL.1 J
    have lN:r<i+1->i=r/\k.getD (r+1) 0<=t:=fun h=>by
     rcases ae8.1 h with g | g
     ·exfalso
      rcases hB with e | e
      ·have:=(fS g).2
       grind
      ·exact absurd bZ (e i g dq)
     ·exact⟨g.symm,g ▸ kP⟩
    refine a7 ?_
    refine ah rfl cu ?_
    refine aQ ?_
    exact fO (i+1) i ⟨J,lN⟩
 ·obtain rfl:la=r:=(fS J).1
  refine dk ?_
  exact aak
namespace ap4
theorem aw {p q:Prop} (k:q) (e:p=q:=by simp only [e1,e2,e3,e4,p1,p2,p3,q1,q2,q3,l1,t0,t1,r1,r2,r3,r4,Nat.zero_add,Nat.reduceMul,Nat.reduceAdd,b1,b2,b3,b4,b5,b6,i1,i2,i3,i4,i5,i6,Nat.reduceBEq,cn,List.length_map,List.set_cons_zero,List.set_cons_succ,Nat.reduceEqDiff,reduceIte,if_true,if_false,cB,dB,aG aX,aG bz,aG an,cA,cC,LV.kill,bH];exact rfl):p:=e.mpr k
end ap4
open ap4 in
theorem aI8 (k:List Rat) (j r:Nat) (hl:k.length<=1000) (hr:∀ x∈k,rl x<=100000) (hj:j<=r) (gk:r+1<k.length) (mW:k.getD r 0<k.getD (r+1) 0) (hA:∀ i,j<=i->i<r->¬k.getD i 0<k.getD (i+1) 0):ax ak 219 [.list 3 (k.map aa),ae j] (ae r):=by
 have zk:∀ i,i<k.length->rl (k.getD i 0)<=100000:=fun i hi=>hr _ (eU hi)
 refine aR Tryz.func219 ?_
 refine bf ?_
 refine dI (fun(i:Nat) L=>(((St.mk L.slot (hp [])).put (some 0) (.list 3 (k.map aa))).put (some 1) (ae i))) (fun i=>j<=i/\i<=r) (fun i=>r-i) j ⟨bF _,hj⟩ ?_
 rintro i L1 ⟨rn,hi⟩
 refine aH ?_
 refine aY 18 al ?_
 refine ao ?_
 refine ah rfl cu ?_
 refine aB ?_
 refine ah (aM (v:=true) rfl rfl ((decide_eq_true jE)) rfl) (.move _) ?_
 refine ah (aM (v:=true) rfl rfl ((decide_eq_true jE)) rfl) (.move _) ?_
 refine ah (aM (v:=true) rfl rfl ((decide_eq_true jE)) rfl) wY ?_
 refine ah (aM (v:=true) rfl rfl ((decide_eq_true jE)) rfl) dE ?_
 refine ah (aM (v:=true) rfl rfl ((decide_eq_true jE)) rfl) (.move _) ?_
 refine ah (aM (v:=true) rfl rfl ((decide_eq_true jE)) rfl) (.move _) ?_
 refine ah (aM (v:=true) rfl rfl ((decide_eq_true jE)) rfl) (.bin rfl rfl (acd J)) ?_
 refine ah (aM (v:=true) rfl rfl ((decide_eq_true jE)) rfl) wY ?_
 refine ah (aM (v:=true) rfl rfl ((decide_eq_true jE)) rfl) dE ?_
 try simp only [t1,cn]
 refine bM (aM (v:=true) rfl rfl ((decide_eq_true jE)) rfl) (.cons cG (.cons cG .nil)) (mG (k.getD i 0) (k.getD (i+1) 0) (by have:=zk i J;have:=zk (i+1) J;omega)) ?_
 refine ah (aM (v:=true) rfl rfl ((decide_eq_true jE)) rfl) (.bin rfl rfl rfl) ?_
 refine ah rfl (.gU rfl ((decide_eq_true jE))) ?_
 refine aH ?_
 refine aL rfl ?_ ?_<;>intro aem h22
 ·have dq:i<r:=by
   rcases kD i r with g | g
   ·exact g
   ·obtain rfl:i=r:=by omega
    have:=abW.2 mW
    omega
  refine a7 ?_
  refine ah rfl cu ?_
  refine aB ?_
  exact lU (i+1) ⟨J,J⟩
 ·obtain rfl:i=r:=by
   rcases kD i r with g | g
   ·exact absurd (abW.1 J) (hA i rn g)
   ·omega
  refine bw ?_
  exact jL
namespace ao1
theorem aw {p q:Prop} (k:q) (e:p=q:=by simp only [e1,e2,e3,e4,p1,p2,p3,q1,q2,q3,l1,t0,t1,r1,r2,r3,r4,Nat.zero_add,Nat.reduceMul,Nat.reduceAdd,b1,b2,b3,b4,b5,b6,i1,i2,i3,i4,i5,i6,Nat.reduceBEq,avT,rM,rQ,hxd,hxe,axa,wM,ewl,ewj,ewk,aqx,cn,Rat.add_zero,Nat.sub_self,List.drop_zero,List.take_zero,List.nil_append,List.length_map,List.length_replicate,List.append_nil,List.set_cons_zero,List.set_cons_succ,Nat.reduceEqDiff,reduceIte,if_true,if_false,cB,dB,aG aX,aG bz,aG an,cA,cC,LV.kill,bH];exact rfl):p:=e.mpr k
end ao1
open ao1 in
theorem ajs (k:List Rat) (d pc:Nat) (c args:List Rat) (R:Nat) (h:xJ k d pc) (hc:c.length=k.length-d-1) (wM:args.length=d) (fa:1<=R) (hR:R<=10000000) (ke:∀ x∈c,rl x<=R) (hA:∀ t∈args,rl t<=100):uv ak 266 ⟨3,c.map aa,true⟩ [.list 3 (k.map aa),ae d,.ref 0 3 0 c.length,ae pc,.list 3 (args.map aa)] (.a9 [aa (uz k d pc c args),iL 0]) ⟨3,c.map aa,true⟩:=by
 have h9:=h.d6
 have jb:=h.kl
 have ju:=h.p1
 have tC:=h.p2
 have aKE:=h.lt
 have hs9:zF 402 R 6<=10000000000:=by simp only [zF];omega
 have rM:((c.drop (pc-d)).take (d+1)).length=d+1:=by rw [fQ,ni];omega
 have hvR:∀ x∈((c.drop (pc-d)).take (d+1)),rl x<=R:=fun x hx=>ke x (xX (x5 hx))
 have hFl:∀ r i,r<d->r<i->i<((c.drop (pc-d)).take (d+1)).length->rl ((gF k d pc args) r i)<=402:=fun r i g1 g2 g3=>h.fl hA g2 J J
 have hBR:∀ r,r<=d->∀ x∈(jq (gF k d pc args) ((c.drop (pc-d)).take (d+1)) r),rl x<=10000000000:=fun r hr x hx=>bb (ayh hFl fa hvR r hr x hx) (bb (avb fa (show r<=6 by omega)) hs9)
 have hG:∀ i,i<k.length->rl (k.getD i 0)<=100:=fun i hi=>h.kn hi
 have c1:¬gp (k.getD pc 0) (k.getD (pc+1) 0)>=0:=fun e=>by have:=zL.1 e;grind
 have mB:=hG pc J
 have yu:=hG (pc+1) J
 have hpa:=cd an 3 args
 have nH:=cd an 3 k
 have aLh:=gQ ai (hBR d (bF _)) d
 have hAd:=fA ((jq (gF k d pc args) ((c.drop (pc-d)).take (d+1)) d).getD d 0) 0 (by have:rl 0=1:=rfl;omega)
 rw [jC] at hAd
 have hml:(((c.drop (pc-d)).take (d+1)).map aa).length=d+1:=by rw [eD,rM]
 have hxd:(aV (d+1) (aa 0)).drop (d+1)=[]:=kB aW
 have hxe:((aV (d+1) (0:Rat)).map aa).drop (d+1)=[]:=kB aW
 refine fnM Tryz.func266 ?_
 have avT:True:=trivial
 have axa:True:=trivial
 have ewl:True:=trivial
 have ewj:True:=trivial
 have ewk:True:=trivial
 have aqx:True:=trivial
 refine df ?_
 refine cp au (aed k d J J) ?_
 refine aH ?_
 refine ah (aM (v:=false) rfl rfl ((bne_eq_false_iff_eq.2 jE)) rfl) (.move _) ?_
 refine ah (aM (v:=false) rfl rfl ((bne_eq_false_iff_eq.2 jE)) rfl) pM ?_
 refine ah (aM (v:=false) rfl rfl ((bne_eq_false_iff_eq.2 jE)) rfl) (.move _) ?_
 refine ah (aM (v:=false) rfl rfl ((bne_eq_false_iff_eq.2 jE)) rfl) (.bin rfl rfl rfl) ?_
 refine ah rfl (.m9 rfl ((bne_eq_false_iff_eq.2 jE))) ?_
 refine aQ ?_
 refine dp (b:=_) rfl (bne_eq_false_iff_eq.2 (by first | omega | (simp only [eD,wM];omega))) ?_
 refine ao ?_
 refine aY 23 al ?_
 refine aB ?_
 refine ah (aM (v:=false) rfl rfl ((decide_eq_false J)) rfl) (.move _) ?_
 refine ah (aM (v:=false) rfl rfl ((decide_eq_false J)) rfl) (.move _) ?_
 refine ah (aM (v:=false) rfl rfl ((decide_eq_false J)) rfl) pM ?_
 refine ah (aM (v:=false) rfl rfl ((decide_eq_false J)) rfl) (.bin rfl rfl rfl) ?_
 refine ah rfl (.m9 rfl ((decide_eq_false J))) ?_
 refine ao ?_
 refine ah (aM (v:=false) rfl rfl ((decide_eq_false J)) rfl) (.move _) ?_
 refine ah (aM (v:=false) rfl rfl ((decide_eq_false J)) rfl) (.move _) ?_
 refine ah (aM (v:=false) rfl rfl ((decide_eq_false J)) rfl) wY ?_
 refine ah (aM (v:=false) rfl rfl ((decide_eq_false J)) rfl) dE ?_
 refine ah (aM (v:=false) rfl rfl ((decide_eq_false J)) rfl) (.move _) ?_
 refine ah (aM (v:=false) rfl rfl ((decide_eq_false J)) rfl) (.move _) ?_
 refine ah (aM (v:=false) rfl rfl ((decide_eq_false J)) rfl) (.bin rfl rfl (acd J)) ?_
 refine ah (aM (v:=false) rfl rfl ((decide_eq_false J)) rfl) wY ?_
 refine ah (aM (v:=false) rfl rfl ((decide_eq_false J)) rfl) dE ?_
 try simp only [t1,cn]
 refine bM (aM (v:=false) rfl rfl ((decide_eq_false J)) rfl) (.cons cG (.cons cG .nil)) (mG (k.getD pc 0) (k.getD (pc+1) 0) J) ?_
 refine ah (aM (v:=false) rfl rfl ((decide_eq_false J)) rfl) (.bin rfl rfl rfl) ?_
 refine ah rfl (.m9 rfl ((decide_eq_false J))) ?_
 refine aQ ?_
 refine dp (b:=_) rfl (decide_eq_false c1) ?_
 refine ay ?_
 refine ah rfl cu ?_
 refine dF rfl rfl (.lf (n:=d+1) (m:=d+1) ml ml om om om) ?_
 refine bB ?_
 refine ah rfl (.bin rfl rfl (afw (a:=pc) (b:=d) (c:=pc-d) J J)) ?_
 refine ah rfl (.wj (a:=pc-d) (h:=c.length) rfl dY dC (fun y hy=>by cases hy;exact⟨_,rfl⟩) (fun h=>by cases h) (fun y hy=>by cases hy) (fun _=>rfl) om om om) ?_
 try refine aw ?_
 refine bO rfl (.acS (b:=58) (off:=0) (sz:=3) (n1:=d+1) (c:=0) (off2:=pc-d) (n2:=c.length-(pc-d)) (news:=(((c.drop (pc-d)).take (d+1)).map aa)) rfl rfl rfl rfl (bS _) dY dY dC rfl rfl rfl (by rw [hml];show _=min _ _;omega) (by rw [hml];omega) (by rw [hml,eD];omega) (by rw [hml,<-aei,<-w5])) ?_
 refine bC ?_
 refine dI (fun(r:Nat) L=>(((((((((St.mk L.slot (hp [(0,⟨3,c.map aa,true⟩),(10,⟨3,[aa 0],true⟩),(58,⟨3,(jq (gF k d pc args) ((c.drop (pc-d)).take (d+1)) r).map aa,true⟩)])).put (some 0) (.list 3 (k.map aa))).put (some 1) (ae d)).put (some 3) (ae pc)).put (some 10) (.aF 10 3 0 0)).put (some 12) (.ref 58 3 0 (d+1))).put (some 66) (.list 3 (args.map aa))).put (some 67) (ae d)).put (some 68) (ae r))) (fun r=>r<=d) (fun r=>d-r) 0 (bS _) ?_
 rintro r L1 hr
 refine ay ?_
 refine aL rfl ?_ ?_<;>intro aqs h69
 ·have mW:r<d:=by omega
  have hrt:=hA _ (eU (p:=args) (i:=r) J)
  have oN:(jq (gF k d pc args) ((c.drop (pc-d)).take (d+1)) r).length=d+1:=by rw [agY,rM]
  have aqx:tc ((gF k d pc args) r) (jq (gF k d pc args) ((c.drop (pc-d)).take (d+1)) r) d=(jq (gF k d pc args) ((c.drop (pc-d)).take (d+1)) r):=aDj _ _ _ J
  refine sE ?_
  refine dI (fun(j:Nat) L=>((((((((((((St.mk L.slot (hp [(0,⟨3,c.map aa,true⟩),(10,⟨3,[aa 0],true⟩),(58,⟨3,(tc ((gF k d pc args) r) (jq (gF k d pc args) ((c.drop (pc-d)).take (d+1)) r) j).map aa,true⟩),(14,⟨3,[aa (args.getD r 0)],true⟩)])).put (some 0) (.list 3 (k.map aa))).put (some 1) (ae d)).put (some 3) (ae pc)).put (some 10) (.aF 10 3 0 0)).put (some 12) (.ref 58 3 0 (d+1))).put (some 13) (ae r)).put (some 14) (.aF 14 3 0 0)).put (some 15) (ae j)).put (some 66) (.list 3 (args.map aa))).put (some 67) (ae d)).put (some 68) (ae r))) (fun j=>r<=j/\j<=d) (fun j=>j) d ⟨J,bF _⟩ ?_
  rintro j L2 ⟨hj1,dL⟩
  refine bg ?_
  refine aL rfl ?_ ?_<;>intro aIt h76
  ·have hj3:r<j:=by omega
   have ewl:(tc ((gF k d pc args) r) (jq (gF k d pc args) ((c.drop (pc-d)).take (d+1)) r) j).length=d+1:=by rw [w7,oN]
   have ewj:(tc ((gF k d pc args) r) (jq (gF k d pc args) ((c.drop (pc-d)).take (d+1)) r) j).getD j 0=(jq (gF k d pc args) ((c.drop (pc-d)).take (d+1)) r).getD j 0:=by rw [abU _ _ _ _ J,if_neg J]
   have ewk:(tc ((gF k d pc args) r) (jq (gF k d pc args) ((c.drop (pc-d)).take (d+1)) r) j).getD (j-1) 0=(jq (gF k d pc args) ((c.drop (pc-d)).take (d+1)) r).getD (j-1) 0:=by rw [abU _ _ _ _ J,if_neg J]
   have yP:=gQ ai (hBR r J) j
   have hv2:=gQ ai (hBR r J) (j-1)
   have hfq:rl ((gF k d pc args) r j)<=402:=h.fl hA hj3 J J
   have eh:=fD ((jq (gF k d pc args) ((c.drop (pc-d)).take (d+1)) r).getD j 0) ((jq (gF k d pc args) ((c.drop (pc-d)).take (d+1)) r).getD (j-1) 0)
   have hmf:=cM ((gF k d pc args) r j) ((jq (gF k d pc args) ((c.drop (pc-d)).take (d+1)) r).getD j 0-(jq (gF k d pc args) ((c.drop (pc-d)).take (d+1)) r).getD (j-1) 0)
   have axa:=aCo ((gF k d pc args) r) (jq (gF k d pc args) ((c.drop (pc-d)).take (d+1)) r) j J J
   have hk1:=hG (pc-d+j) J
   have lS:=hG (pc+j-r) J
   have dS:ax ak 281 [aa (k.getD (pc-d+j) 0),aa (k.getD (pc+j-r) 0),aa (args.getD r 0)] (aa ((gF k d pc args) r j)):=au0 _ _ _ J (h.fr hj3 J)
   refine bg ?_
   refine ah rfl (.bin rfl rfl (afw (a:=pc) (b:=d) (c:=pc-d) J J)) ?_
   refine ao ?_
   refine ah rfl (.bin rfl rfl (xC (a:=pc-d) (b:=j) J)) ?_
   refine aB ?_
   refine aY 15 al ?_
   refine bf ?_
   refine ah rfl (.bin rfl rfl (xC (a:=pc-d+j) (b:=d) J)) ?_
   refine ao ?_
   refine ah rfl (.bin rfl rfl (afw (a:=pc-d+j+d) (b:=r) (c:=pc+j-r) J J)) ?_
   refine aQ ?_
   try simp only [t1,cn]
   refine cp gM (dS) ?_
   refine aB ?_
   refine aY 21 al ?_
   refine aB ?_
   refine ah rfl nh ?_
   refine bB ?_
   refine ah rfl nh ?_
   refine aH ?_
   refine aw ?_
   refine cp au (oW ((jq (gF k d pc args) ((c.drop (pc-d)).take (d+1)) r).getD j 0) ((jq (gF k d pc args) ((c.drop (pc-d)).take (d+1)) r).getD (j-1) 0) J) ?_
   refine cp au (ef ((gF k d pc args) r j) ((jq (gF k d pc args) ((c.drop (pc-d)).take (d+1)) r).getD j 0-(jq (gF k d pc args) ((c.drop (pc-d)).take (d+1)) r).getD (j-1) 0) J) ?_
   refine cp au (fA ((jq (gF k d pc args) ((c.drop (pc-d)).take (d+1)) r).getD (j-1) 0) ((gF k d pc args) r j*((jq (gF k d pc args) ((c.drop (pc-d)).take (d+1)) r).getD j 0-(jq (gF k d pc args) ((c.drop (pc-d)).take (d+1)) r).getD (j-1) 0)) J) ?_
   refine a7 ?_
   refine bR (az.kill _ 17) ?_
   refine ao ?_
   refine ah rfl nh ?_
   refine aQ ?_
   exact lU (j-1) ⟨J,J⟩
  ·obtain rfl:r=j:=by omega
   refine ay ?_
   refine bR (az.kill _ 14) ?_
   refine ah rfl cu ?_
   refine aQ ?_
   exact lU (r+1) J
 ·obtain rfl:d=r:=by omega
  have avT:(jq (gF k d pc args) ((c.drop (pc-d)).take (d+1)) d).length=d+1:=by rw [agY,rM]
  refine bC ?_
  refine aw ?_
  refine ah rfl rE ?_
  refine cp au (hAd) ?_
  refine a7 ?_
  exact aEX rfl rfl (an.av _) (p7 _) dC (.eF (.pure (an.pure _))) rfl (.eF (.pure rfl)) rfl rfl (aP an _)
namespace axR
theorem aw {p q:Prop} (k:q) (e:p=q:=by simp only [e1,e2,e3,e4,p1,p2,p3,q1,q2,q3,l1,t0,t1,r1,r2,r3,r4,Nat.zero_add,Nat.reduceMul,Nat.reduceAdd,b1,b2,b3,b4,b5,b6,i1,i2,i3,i4,i5,i6,Nat.reduceBEq,rQ,cy,pB,ect,zW,yV,cn,List.drop_zero,List.take_zero,List.nil_append,List.length_map,List.length_replicate,ur,aG dD,List.set_cons_zero,List.set_cons_succ,Nat.reduceEqDiff,reduceIte,if_true,if_false,cB,dB,aG aX,aG bz,aG an,cA,cC,LV.kill,bH];exact rfl):p:=e.mpr k
end axR
open axR in
theorem aH7 (k:List Rat) (d pc:Nat) (C:List Q4) (args:List Rat) (R:Nat) (h:xJ k d pc) (hC:C.length=k.length-d-1) (wM:args.length=d) (fa:1<=R) (hR:R<=10000000) (ke:∀ q∈C,nB R q) (hA:∀ t∈args,rl t<=100):ax ak 221 [.agg [ae d,.list 3 (k.map aa),.list 12 (C.map cy)],ae pc,.list 3 (args.map aa)] (cy (sg k d pc C args)):=by
 have ju:=h.p1
 have tC:=h.p2
 have jb:=h.kl
 have hCp:0<C.length:=by omega
 have hC9:C.length<=100:=by omega
 have hpS:LV.pure (.agg [ae d,.list 3 (k.map aa),.list 12 (C.map cy)])=true:=by simp [LV.pure,aK,aP an,aP dD]
 have nH:=cd an 3 k
 have hpa:=cd an 3 args
 have iS:∀ x∈(C.map (·.x)),rl x<=R:=fun x hx=>by
  obtain⟨q,hq,rfl⟩:=ga.1 hx
  exact(ke q hq).1
 have ark:=ajs k d pc (C.map (·.x)) args R h (by rw [eD,hC]) wM fa hR iS hA
 rw [show (C.map (·.x)).length=C.length from eD _] at ark
 have jI:∀ x∈(C.map (·.y)),rl x<=R:=fun x hx=>by
  obtain⟨q,hq,rfl⟩:=ga.1 hx
  exact(ke q hq).2.1
 have avk:=ajs k d pc (C.map (·.y)) args R h (by rw [eD,hC]) wM fa hR jI hA
 rw [show (C.map (·.y)).length=C.length from eD _] at avk
 have fc:∀ x∈(C.map (·.z)),rl x<=R:=fun x hx=>by
  obtain⟨q,hq,rfl⟩:=ga.1 hx
  exact(ke q hq).2.2.1
 have ako:=ajs k d pc (C.map (·.z)) args R h (by rw [eD,hC]) wM fa hR fc hA
 rw [show (C.map (·.z)).length=C.length from eD _] at ako
 have rI:∀ x∈(C.map (·.w)),rl x<=R:=fun x hx=>by
  obtain⟨q,hq,rfl⟩:=ga.1 hx
  exact(ke q hq).2.2.2
 have asZ:=ajs k d pc (C.map (·.w)) args R h (by rw [eD,hC]) wM fa hR rI hA
 rw [show (C.map (·.w)).length=C.length from eD _] at asZ
 refine aR Tryz.func221 (ht:=(fun g=>LV.cQ g _ (dD.pure _))) ?_
 have pB:True:=trivial
 have ect:True:=trivial
 have zW:True:=trivial
 have yV:True:=trivial
 refine nm ?_
 refine dF rfl rfl (.lf (n:=C.length) (m:=C.length) ml ml om om om) ?_
 refine bh ?_
 refine bc ?_
 refine ay ?_
 refine bI (b:=_) rfl ai ?_
 refine lF ?_
 refine dI (fun(i:Nat) L=>((((((((((((St.mk L.slot (hp [(3,⟨3,[.agg [ae d,.list 3 (k.map aa),.list 12 (C.map cy)]],true⟩),(6,⟨12,[.agg [aa 0,aa 0,aa 0,aa 0]],true⟩),(7,⟨12,[.agg [aa 0,aa 0,aa 0,aa 0]],true⟩),(15,⟨3,((C.map (·.x)).take i++(aV C.length (0:Rat)).drop i).map aa,true⟩)])).put (some 1) (ae pc)).put (some 2) (.list 3 (args.map aa))).put (some 3) (.aF 3 3 0 0)).put (some 6) (.aF 6 12 0 0)).put (some 7) (.aF 7 12 0 0)).put (some 8) (.ref 15 3 0 C.length)).put (some 9) (ae 0)).put (some 16) (ae 0)).put (some 20) (.list 12 (C.map cy))).put (some 21) (ae C.length)).put (some 22) (ae i))) (fun i=>i<=C.length) (fun i=>C.length-i) 0 (bS _) ?_
 rintro i L2 hi
 refine ay ?_
 refine aL rfl ?_ ?_<;>intro tD rf
 ·have dq:i<C.length:=by omega
  have yV:=agH (C:=C) (i:=i) J (·.x)
  have ect:((C.map (·.x)).take i++(aV C.length (0:Rat)).drop i).set i ((C.getD i default).x)=(C.map (·.x)).take (i+1)++(aV C.length (0:Rat)).drop (i+1):=by
   rw [<-yV]
   exact agV aW bq
  have pB:((C.map (·.x)).take i++(aV C.length (0:Rat)).drop i).length=C.length:=by rw [ail aW bq];simp
  refine uS ?_
  refine bR (az.kill _ 11) ?_
  refine ah rfl cu ?_
  refine aQ ?_
  exact lK
 ·obtain rfl:i=C.length:=by omega
  have zW:(C.map (·.x)).take C.length++(aV C.length (0:Rat)).drop C.length=(C.map (·.x)):=ahR aW aW
  try simp only [zW]
  refine df ?_
  refine agL 15 rfl rfl rfl (aP an _) (.cons (.eF (.pure nH)) (.cons (.eF (.pure rfl)) (.cons .ref (.cons (.eF (.pure rfl)) (.cons (.eF (.pure hpa)) .nil))))) (.tl (.tl (.ref hCp))) ark rfl (aP an _) (iF (an.pure _) rfl) ?_
  refine dk ?_
  refine bc ?_
  refine ay ?_
  refine bI (b:=_) rfl ai ?_
  refine lF ?_
  refine dI (fun(i:Nat) L=>((((((((((((St.mk L.slot (hp [(3,⟨3,[.agg [ae d,.list 3 (k.map aa),.list 12 (C.map cy)]],true⟩),(6,⟨12,[.agg [aa 0,aa 0,aa 0,aa 0]],true⟩),(7,⟨12,[.agg [aa (uz k d pc (C.map (·.x)) args),aa 0,aa 0,aa 0]],true⟩),(15,⟨3,((C.map (·.y)).take i++(C.map (·.x)).drop i).map aa,true⟩)])).put (some 1) (ae pc)).put (some 2) (.list 3 (args.map aa))).put (some 3) (.aF 3 3 0 0)).put (some 6) (.aF 6 12 0 0)).put (some 7) (.aF 7 12 0 0)).put (some 8) (.ref 15 3 0 C.length)).put (some 9) (ae 1)).put (some 16) (ae 1)).put (some 20) (.list 12 (C.map cy))).put (some 21) (ae C.length)).put (some 22) (ae i))) (fun i=>i<=C.length) (fun i=>C.length-i) 0 (bS _) ?_
  rintro i L2 hi
  refine ay ?_
  refine aL rfl ?_ ?_<;>intro tD rf
  ·have dq:i<C.length:=by omega
   have yV:=agH (C:=C) (i:=i) J (·.y)
   have ect:((C.map (·.y)).take i++(C.map (·.x)).drop i).set i ((C.getD i default).y)=(C.map (·.y)).take (i+1)++(C.map (·.x)).drop (i+1):=by
    rw [<-yV]
    exact agV aW bq
   have pB:((C.map (·.y)).take i++(C.map (·.x)).drop i).length=C.length:=by rw [ail aW bq];simp
   refine uS ?_
   refine bR (az.kill _ 11) ?_
   refine ah rfl cu ?_
   refine aQ ?_
   exact lK
  ·obtain rfl:i=C.length:=by omega
   have zW:(C.map (·.y)).take C.length++(C.map (·.x)).drop C.length=(C.map (·.y)):=ahR aW aW
   try simp only [zW]
   refine df ?_
   refine agL 15 rfl rfl rfl (aP an _) (.cons (.eF (.pure nH)) (.cons (.eF (.pure rfl)) (.cons .ref (.cons (.eF (.pure rfl)) (.cons (.eF (.pure hpa)) .nil))))) (.tl (.tl (.ref hCp))) avk rfl (aP an _) (iF (an.pure _) rfl) ?_
   refine dk ?_
   refine bc ?_
   refine ay ?_
   refine bI (b:=_) rfl ai ?_
   refine lF ?_
   refine dI (fun(i:Nat) L=>((((((((((((St.mk L.slot (hp [(3,⟨3,[.agg [ae d,.list 3 (k.map aa),.list 12 (C.map cy)]],true⟩),(6,⟨12,[.agg [aa 0,aa 0,aa 0,aa 0]],true⟩),(7,⟨12,[.agg [aa (uz k d pc (C.map (·.x)) args),aa (uz k d pc (C.map (·.y)) args),aa 0,aa 0]],true⟩),(15,⟨3,((C.map (·.z)).take i++(C.map (·.y)).drop i).map aa,true⟩)])).put (some 1) (ae pc)).put (some 2) (.list 3 (args.map aa))).put (some 3) (.aF 3 3 0 0)).put (some 6) (.aF 6 12 0 0)).put (some 7) (.aF 7 12 0 0)).put (some 8) (.ref 15 3 0 C.length)).put (some 9) (ae 2)).put (some 16) (ae 2)).put (some 20) (.list 12 (C.map cy))).put (some 21) (ae C.length)).put (some 22) (ae i))) (fun i=>i<=C.length) (fun i=>C.length-i) 0 (bS _) ?_
   rintro i L2 hi
   refine ay ?_
   refine aL rfl ?_ ?_<;>intro tD rf
   ·have dq:i<C.length:=by omega
    have yV:=agH (C:=C) (i:=i) J (·.z)
    have ect:((C.map (·.z)).take i++(C.map (·.y)).drop i).set i ((C.getD i default).z)=(C.map (·.z)).take (i+1)++(C.map (·.y)).drop (i+1):=by
     rw [<-yV]
     exact agV aW bq
    have pB:((C.map (·.z)).take i++(C.map (·.y)).drop i).length=C.length:=by rw [ail aW bq];simp
    refine uS ?_
    refine bR (az.kill _ 11) ?_
    refine ah rfl cu ?_
    refine aQ ?_
    exact lK
   ·obtain rfl:i=C.length:=by omega
    have zW:(C.map (·.z)).take C.length++(C.map (·.y)).drop C.length=(C.map (·.z)):=ahR aW aW
    try simp only [zW]
    refine df ?_
    refine agL 15 rfl rfl rfl (aP an _) (.cons (.eF (.pure nH)) (.cons (.eF (.pure rfl)) (.cons .ref (.cons (.eF (.pure rfl)) (.cons (.eF (.pure hpa)) .nil))))) (.tl (.tl (.ref hCp))) ako rfl (aP an _) (iF (an.pure _) rfl) ?_
    refine dk ?_
    refine bc ?_
    refine ay ?_
    refine bI (b:=_) rfl ai ?_
    refine lF ?_
    refine dI (fun(i:Nat) L=>((((((((((((St.mk L.slot (hp [(3,⟨3,[.agg [ae d,.list 3 (k.map aa),.list 12 (C.map cy)]],true⟩),(6,⟨12,[.agg [aa 0,aa 0,aa 0,aa 0]],true⟩),(7,⟨12,[.agg [aa (uz k d pc (C.map (·.x)) args),aa (uz k d pc (C.map (·.y)) args),aa (uz k d pc (C.map (·.z)) args),aa 0]],true⟩),(15,⟨3,((C.map (·.w)).take i++(C.map (·.z)).drop i).map aa,true⟩)])).put (some 1) (ae pc)).put (some 2) (.list 3 (args.map aa))).put (some 3) (.aF 3 3 0 0)).put (some 6) (.aF 6 12 0 0)).put (some 7) (.aF 7 12 0 0)).put (some 8) (.ref 15 3 0 C.length)).put (some 9) (ae 3)).put (some 16) (ae 3)).put (some 20) (.list 12 (C.map cy))).put (some 21) (ae C.length)).put (some 22) (ae i))) (fun i=>i<=C.length) (fun i=>C.length-i) 0 (bS _) ?_
    rintro i L2 hi
    refine ay ?_
    refine aL rfl ?_ ?_<;>intro tD rf
    ·have dq:i<C.length:=by omega
     have yV:=agH (C:=C) (i:=i) J (·.w)
     have ect:((C.map (·.w)).take i++(C.map (·.z)).drop i).set i ((C.getD i default).w)=(C.map (·.w)).take (i+1)++(C.map (·.z)).drop (i+1):=by
      rw [<-yV]
      exact agV aW bq
     have pB:((C.map (·.w)).take i++(C.map (·.z)).drop i).length=C.length:=by rw [ail aW bq];simp
     refine uS ?_
     refine bR (az.kill _ 11) ?_
     refine ah rfl cu ?_
     refine aQ ?_
     exact lK
    ·obtain rfl:i=C.length:=by omega
     have zW:(C.map (·.w)).take C.length++(C.map (·.z)).drop C.length=(C.map (·.w)):=ahR aW aW
     try simp only [zW]
     refine df ?_
     refine agL 15 rfl rfl rfl (aP an _) (.cons (.eF (.pure nH)) (.cons (.eF (.pure rfl)) (.cons .ref (.cons (.eF (.pure rfl)) (.cons (.eF (.pure hpa)) .nil))))) (.tl (.tl (.ref hCp))) asZ rfl (aP an _) (iF (an.pure _) rfl) ?_
     refine dk ?_
     refine bc ?_
     refine ay ?_
     refine dp (b:=_) rfl ai ?_
     refine bw ?_
     exact fi [] rfl rfl rfl cs (cr cs rfl) kF (.pure (dD.pure (sg k d pc C args)))
theorem aHg {α:Type} (f:Nat->α) (j:Nat):(fe j).map f++[f j]=(fe (j+1)).map f:=by rw [List.range_succ,aac];rfl
namespace avJ
theorem aw {p q:Prop} (k:q) (e:p=q:=by simp only [e1,e2,e3,e4,p1,p2,p3,q1,q2,q3,l1,t0,t1,r1,r2,r3,r4,Nat.zero_add,Nat.reduceMul,Nat.reduceAdd,b1,b2,b3,b4,b5,b6,i1,i2,i3,i4,i5,i6,Nat.reduceBEq,iH,eW,ejd,cn,List.length_map,List.length_range,fo,eO,dW,List.length_cons,List.length_nil,List.nil_append,List.map_nil,List.take_nil,List.append_nil,ur,aG dD,List.set_cons_zero,List.set_cons_succ,Nat.reduceEqDiff,reduceIte,if_true,if_false,cB,dB,aG aX,aG bz,aG an,cA,cC,LV.kill,bH];exact rfl):p:=e.mpr k
end avJ
open avJ in
theorem aFn (k w:List Rat) (d N:Nat) (C:List Q4) (R:Nat) (I A:Nat->Nat) (hN0:0<N) (hw:w.length=N+d+1) (gh:w.length<=100) (hwr:∀ x∈w,rl x<=100) (hC:C.length=k.length-d-1) (fa:1<=R) (hR:R<=10000000) (ke:∀ q∈C,nB R q) (hIl:∀ j,j<N->I j<w.length) (hG:∀ j,j<N->xJ k d (A j)) (hPc:∀ j,j<N->ax ak 219 [.list 3 (w.map aa),ae j] (ae (I j))) (hIv:∀ j,j<N->ax ak 220 [.list 3 (k.map aa),ae d,aa (w.getD (I j) 0)] (.a9 [ae (A j),iL 0])):ax ak 147 [.agg [ae d,.list 3 (k.map aa),.list 12 (C.map cy)],.list 3 (w.map aa)] (.agg [ae d,.list 3 (w.map aa),.list 12 (((fe N).map fun j=>sg k d (A j) C ((w.drop (j+1)).take d)).map cy)]):=by
 have hpS:LV.pure (.agg [ae d,.list 3 (k.map aa),.list 12 (C.map cy)])=true:=by simp [LV.pure,aK,aP an,aP dD]
 have nH:=cd an 3 w
 have hN9:N<=100:=by omega
 have hd9:d<=100:=by omega
 have hKP:=aed w d J J
 rw [show w.length-d-1=N by omega] at hKP
 refine aR Tryz.func147 (ht:=(fun g=>LV.cQ g _ (by simp [LV.pure,aK,aP an,aP dD,-List.map_map]))) ?_
 have iH:True:=trivial
 have eW:True:=trivial
 have ejd:True:=trivial
 refine aop ?_
 refine cp au (hKP) ?_
 refine aB ?_
 refine jm ((az.cell 5 rfl (fun Z μ w cs h=>vU 51 12 _ _ Z μ w cs h)).trans (az.ov _ 51 12 rfl)) ?_
 refine dI (fun(j:Nat) L=>(((((((St.mk L.slot (hp [(2,⟨3,[.agg [ae d,.list 3 (k.map aa),.list 12 (C.map cy)]],true⟩),(4,⟨3,[.agg [.v (.int .i64 0),.v (.slice none 0 0),.v (.slice none 0 0)]],true⟩),(5,⟨3,[.agg [ae d,.list 3 (w.map aa),.ref 51 12 0 j]],true⟩),(51,⟨12,((fe j).map fun j=>sg k d (A j) C ((w.drop (j+1)).take d)).map cy,true⟩)])).put (some 1) (.list 3 (w.map aa))).put (some 2) (.aF 2 3 0 0)).put (some 4) (.aF 4 3 0 0)).put (some 5) (.aF 5 3 0 0)).put (some 17) (ae N)).put (some 18) (ae j))) (fun j=>j<=N) (fun j=>N-j) 0 (bS _) ?_
 rintro j L1 hj
 refine ay ?_
 refine aL rfl ?_ ?_<;>intro agy h19
 ·have dL:j<N:=by omega
  have iH:((fe j).map fun j=>sg k d (A j) C ((w.drop (j+1)).take d))++[(sg k d (A j) C ((w.drop (j+1)).take d))]=((fe (j+1)).map fun j=>sg k d (A j) C ((w.drop (j+1)).take d)):=aHg (fun j=>(sg k d (A j) C ((w.drop (j+1)).take d))) j
  have eW:(((fe j).map fun j=>sg k d (A j) C ((w.drop (j+1)).take d)).map cy).take j=((fe j).map fun j=>sg k d (A j) C ((w.drop (j+1)).take d)).map cy:=cE aW
  have ejd:(w.take (j+d+1)).drop (j+1)=(w.drop (j+1)).take d:=by
   rw [List.drop_take]
   congr 1
   omega
  have aJg:=hPc j dL
  have aH2:=hIv j dL
  have aK5:=hIl j dL
  have hPo:=aH7 k d (A j) C ((w.drop (j+1)).take d) R (hG j dL) hC (by rw [fQ,ni];omega) fa hR ke (fun t ht=>hwr t (xX (x5 ht)))
  refine df ?_
  refine cp au (aJg) ?_
  refine aB ?_
  refine aY 14 al ?_
  refine bg ?_
  try simp only [t1,cn]
  refine cp gM (aH2) ?_
  refine bf ?_
  refine aY 15 al ?_
  refine ay ?_
  refine ah rfl cu ?_
  refine aQ ?_
  refine ah rfl (.bin rfl rfl (xC (a:=j) (b:=d) J)) ?_
  refine ah rfl cu ?_
  refine ah rfl (.aic (a:=j+1) (h:=j+d+1) an rfl dY dC rfl rfl om om) ?_
  refine aw ?_
  refine cp gM (hPo) ?_
  refine ao ?_
  refine bO rfl (.fV (d:=51) (news:=[cy (sg k d (A j) C ((w.drop (j+1)).take d))]) rfl rfl rfl rfl aW (.inl rfl) ai jv jv abl kF cs afV (.inl ⟨50,0,_,rfl,by decide,rfl,rfl,by simp,rfl,by simp [aK,dD.pure]⟩) bq bq ai) ?_
  refine a7 ?_
  refine bR (az.kill _ 50) ?_
  refine ah rfl cu ?_
  refine aQ ?_
  exact qp
 ·obtain rfl:j=N:=by omega
  refine bw ?_
  exact fi [51] rfl rfl rfl cs (cr cs rfl) qz (.agg (.cons (.pure rfl) (.cons (.pure nH) (.cons (dH (l:=((fe j).map fun j=>sg k d (A j) C ((w.drop (j+1)).take d))) dD rfl rfl aW) .nil))))
namespace auI
theorem aw {p q:Prop} (k:q) (e:p=q:=by simp only [e1,e2,e3,e4,p1,p2,p3,q1,q2,q3,l1,t0,t1,r1,r2,r3,r4,Nat.zero_add,Nat.reduceMul,Nat.reduceAdd,b1,b2,b3,b4,b5,b6,i1,i2,i3,i4,i5,i6,Nat.reduceBEq,hK0,hK1,hK2,qA,hiy,eal,ebl,eap,ebp,ajK,hmj,List.replicate_zero,Nat.add_zero,cn,List.getD_cons_zero,List.getD_cons_succ,List.length_map,List.length_replicate,fo,eO,dW,List.length_cons,List.length_nil,List.nil_append,List.map_nil,List.take_nil,List.append_nil,ur,aG dD,List.set_cons_zero,List.set_cons_succ,Nat.reduceEqDiff,reduceIte,if_true,if_false,cB,dB,aG aX,aG bz,aG an,cA,cC,LV.kill,bH];exact rfl):p:=e.mpr k
end auI
open auI in
theorem aCm (k w:List Rat) (d:Nat) (C C2:List Q4) (a b:Rat) (ea eb:Bool) (na nb:Nat) (KA KB:Nat->List Rat) (f1 l2:Nat) (hd:d<=6) (ha:rl a<=100) (hb:rl b<=100) (h1k:0<k.length) (jb:k.length<=100) (xn:∀ x∈k,rl x<=100) (hK0:KA 0=k) (hK1:KA na=KB 0) (hK2:KB nb=w) (hBl:0<(KB 0).length) (ako:(KB 0).length<=100) (hBr:∀ x∈KB 0,rl x<=100) (gh:w.length<=100) (hea:(decide (a=k.getD 0 0) || decide (a=k.getD (k.length-1) 0))=ea) (heb:(decide (b=(KB 0).getD 0 0) || decide (b=(KB 0).getD ((KB 0).length-1) 0))=eb) (hna:na<=d) (hnb:nb<=d) (uw:ea=true->na=0) (hzb:eb=true->nb=0) (hTA:ea=false->∀ n,n<=na->ax ak 145 [.list 3 ((KA n).map aa),aa a] (ae (d-(na-n)))) (hTB:eb=false->∀ n,n<=nb->ax ak 145 [.list 3 ((KB n).map aa),aa b] (ae (d-(nb-n)))) (hIA:∀ n,n<na->ax ak 146 [.list 3 ((KA n).map aa),aa a] (.list 3 ((KA (n+1)).map aa))) (hIB:∀ n,n<nb->ax ak 146 [.list 3 ((KB n).map aa),aa b] (.list 3 ((KB (n+1)).map aa))) (hO:ax ak 147 [.agg [ae d,.list 3 (k.map aa),.list 12 (C.map cy)],.list 3 (w.map aa)] (.agg [ae d,.list 3 (w.map aa),.list 12 (C2.map cy)])) (w6:ax ak 148 [.list 3 (w.map aa),.bQ 149 [.ba (aa a)]] (ae f1)) (hI2:ax ak 148 [.list 3 (w.map aa),.bQ 150 [.ba (aa b)]] (ae l2)) (xL:d+1<=f1) (ot:f1<=l2) (nN:l2<=C2.length) (td:C2.length<=w.length):ax ak 83 [.agg [ae d,.list 3 (k.map aa),.list 12 (C.map cy)],aa a,aa b] (.agg [ae d,.list 3 ((aV (d+1) a++((w.take l2).drop f1)++aV (d+1) b).map aa),.list 12 (((C2.take l2).drop (f1-1-d)).map cy)]):=by
 have hpS:LV.pure (.agg [ae d,.list 3 (k.map aa),.list 12 (C.map cy)])=true:=by simp [LV.pure,aK,aP an,aP dD]
 have hpw:=cd an 3 w
 have qA:((k.length:Int)-1).toNat=k.length-1:=by omega
 have hiy:(((KB 0).length:Int)-1).toNat=(KB 0).length-1:=by omega
 have rL:=xn _ (eU (p:=k) (i:=0) J)
 have mB:=xn _ (eU (p:=k) (i:=k.length-1) J)
 have yu:=hBr _ (eU (p:=KB 0) (i:=0) J)
 have yw:=hBr _ (eU (p:=KB 0) (i:=(KB 0).length-1) J)
 have hmj:(aV (d+1) a).map aa++((w.take l2).drop f1).map aa=(aV (d+1) a++((w.take l2).drop f1)).map aa:=aac.symm
 have ajK:((w.take l2).drop f1).length=l2-f1:=by rw [ni,fQ];omega
 have aEo:=xK a (k.getD 0 0) J
 have aE6:=xK a (k.getD (k.length-1) 0) J
 have ayY:=xK b ((KB 0).getD 0 0) J
 have aIx:=xK b ((KB 0).getD ((KB 0).length-1) 0) J
 refine aR Tryz.func83 (ht:=(fun g=>LV.cQ g _ (by simp [LV.pure,aK,aP an,aP dD,-aac,-aei,-w5]))) ?_
 have eal:True:=trivial
 have ebl:True:=trivial
 have eap:True:=trivial
 have ebp:True:=trivial
 refine uS ?_
 refine bc ?_
 refine ay ?_
 refine bI (b:=_) rfl ai ?_
 refine bw ?_
 refine ia (fun L=>∃  (L1:St),(True)/\L=((((((((((St.mk L1.slot (hp [(3,⟨3,[.agg [ae d,.list 3 (k.map aa),.list 12 (C.map cy)]],true⟩),(4,⟨3,[aa a],true⟩),(5,⟨3,[aa b],true⟩),(6,⟨3,[.agg [.v (.int .i64 0),.v (.slice none 0 0),.v (.slice none 0 0)]],true⟩),(9,⟨3,[aa a],true⟩)])).put (some 3) (.aF 3 3 0 0)).put (some 4) (.aF 4 3 0 0)).put (some 5) (.aF 5 3 0 0)).put (some 6) (.aF 6 3 0 0)).put (some 7) (.list 3 (k.map aa))).put (some 9) (.aF 9 3 0 0)).put (some 10) (bL ea)).put (some 19) (.agg [aa a,aa b])).put (some 20) (ae 0))) ?_ ?_
 ·refine aY 16 al ?_
  refine aB ?_
  try refine aw ?_
  refine cp au (aEo) ?_
  refine ao ?_
  refine ep 28 rfl ?_ ?_<;>intro zR ss
  ·first | (have mM:bL ea=bL true:=by rw [<-hea,decide_eq_true ss,Bool.true_or]) | (have mM:bL eb=bL true:=by rw [<-heb,decide_eq_true ss,Bool.true_or])
   refine bf ?_
   try refine aw ?_
   refine a7 ?_
   exact⟨_,trivial,((aj (aj (aj (aj (aj (aj (aj (aj (aj (bJ cl) cl) cl) cl) cl) cl) cl) (by first | exact mM | exact mM.symm | (refine aw ?_;first | exact mM | exact mM.symm))) cl) cl)).symm⟩
  ·first | (have mM:bL ea=bL (decide (a=k.getD (k.length-1) 0)):=by rw [<-hea,decide_eq_false ss,Bool.false_or]) | (have mM:bL eb=bL (decide (b=(KB 0).getD ((KB 0).length-1) 0)):=by rw [<-heb,decide_eq_false ss,Bool.false_or])
   refine aB ?_
   refine ah (aM (v:=false) rfl rfl (zR) rfl) (.bin rfl rfl (afC J J)) ?_
   refine aH ?_
   try refine aw ?_
   refine cp au (aE6) ?_
   refine aB ?_
   exact⟨_,trivial,((aj (aj (aj (aj (aj (aj (aj (aj (aj (bJ cl) cl) cl) cl) cl) cl) cl) (by first | exact mM | exact mM.symm | (refine aw ?_;first | exact mM | exact mM.symm))) cl) cl)).symm⟩
 ·rintro _ ⟨LR5,-,rfl⟩
  refine ao ?_
  refine ia (fun L=>∃  (L1:St),(True)/\L=((((((((St.mk L1.slot (hp [(3,⟨3,[.agg [ae d,.list 3 (k.map aa),.list 12 (C.map cy)]],true⟩),(4,⟨3,[aa a],true⟩),(5,⟨3,[aa b],true⟩),(6,⟨3,[.agg [.v (.int .i64 0),.v (.slice none 0 0),.v (.slice none 0 0)]],true⟩),(9,⟨3,[aa a],true⟩)])).put (some 3) (.aF 3 3 0 0)).put (some 4) (.aF 4 3 0 0)).put (some 5) (.aF 5 3 0 0)).put (some 6) (.aF 6 3 0 0)).put (some 7) (.list 3 ((KB 0).map aa))).put (some 19) (.agg [aa a,aa b])).put (some 20) (ae 0))) ?_ ?_
  ·refine ao ?_
   refine dI (fun(n:Nat) L=>((((((((((St.mk L.slot (hp [(3,⟨3,[.agg [ae d,.list 3 (k.map aa),.list 12 (C.map cy)]],true⟩),(4,⟨3,[aa a],true⟩),(5,⟨3,[aa b],true⟩),(6,⟨3,[.agg [.v (.int .i64 0),.v (.slice none 0 0),.v (.slice none 0 0)]],true⟩),(9,⟨3,[aa a],true⟩)])).put (some 3) (.aF 3 3 0 0)).put (some 4) (.aF 4 3 0 0)).put (some 5) (.aF 5 3 0 0)).put (some 6) (.aF 6 3 0 0)).put (some 7) (.list 3 ((KA n).map aa))).put (some 9) (.aF 9 3 0 0)).put (some 10) (bL ea)).put (some 19) (.agg [aa a,aa b])).put (some 20) (ae 0))) (fun n=>n<=na) (fun n=>na-n) 0 (bS _) ?_
   rintro n L2 hn
   refine aH ?_
   refine aY 10 al ?_
   refine aQ ?_
   refine ep 40 rfl ?_ ?_<;>intro zi pS
   ·refine aH ?_
    refine cp au (hTA (by simpa using pS) n hn) ?_
    refine ay ?_
    refine aL rfl ?_ ?_<;>intro aie h47
    ·have lN:n<na:=by
      have h1:=pS
      rcases kD n na with g | g
      ·exact g
      ·exfalso;omega
     have oD:=hIA n lN
     refine ay ?_
     refine cp au (oD) ?_
     refine aB ?_
     exact lU (n+1) J
    ·obtain rfl:n=na:=by first | omega | (have:=uw (by simpa using pS);omega)
     refine a7 ?_
     exact ahs
   ·obtain rfl:n=na:=by have:=uw pS;omega
    refine eQ ?_
    exact ahs
  ·rintro _ ⟨LB2,-,rfl⟩
   refine aH ?_
   refine bR (az.kill _ 9) ?_
   refine aB ?_
   refine bc ?_
   refine ay ?_
   refine bI (b:=_) rfl ai ?_
   refine bw ?_
   refine ia (fun L=>∃  (L1:St),(True)/\L=((((((((((St.mk L1.slot (hp [(3,⟨3,[.agg [ae d,.list 3 (k.map aa),.list 12 (C.map cy)]],true⟩),(4,⟨3,[aa a],true⟩),(5,⟨3,[aa b],true⟩),(6,⟨3,[.agg [.v (.int .i64 0),.v (.slice none 0 0),.v (.slice none 0 0)]],true⟩),(9,⟨3,[aa b],true⟩)])).put (some 3) (.aF 3 3 0 0)).put (some 4) (.aF 4 3 0 0)).put (some 5) (.aF 5 3 0 0)).put (some 6) (.aF 6 3 0 0)).put (some 7) (.list 3 ((KB 0).map aa))).put (some 9) (.aF 9 3 0 0)).put (some 10) (bL eb)).put (some 19) (.agg [aa a,aa b])).put (some 20) (ae 1))) ?_ ?_
   ·refine aY 16 al ?_
    refine aB ?_
    try refine aw ?_
    refine cp au (ayY) ?_
    refine ao ?_
    refine ep 28 rfl ?_ ?_<;>intro zR ss
    ·first | (have mM:bL ea=bL true:=by rw [<-hea,decide_eq_true ss,Bool.true_or]) | (have mM:bL eb=bL true:=by rw [<-heb,decide_eq_true ss,Bool.true_or])
     refine bf ?_
     try refine aw ?_
     refine a7 ?_
     exact⟨_,trivial,((aj (aj (aj (aj (aj (aj (aj (aj (aj (bJ cl) cl) cl) cl) cl) cl) cl) (by first | exact mM | exact mM.symm | (refine aw ?_;first | exact mM | exact mM.symm))) cl) cl)).symm⟩
    ·first | (have mM:bL ea=bL (decide (a=k.getD (k.length-1) 0)):=by rw [<-hea,decide_eq_false ss,Bool.false_or]) | (have mM:bL eb=bL (decide (b=(KB 0).getD ((KB 0).length-1) 0)):=by rw [<-heb,decide_eq_false ss,Bool.false_or])
     refine aB ?_
     refine ah (aM (v:=false) rfl rfl (zR) rfl) (.bin rfl rfl (afC J J)) ?_
     refine aH ?_
     try refine aw ?_
     refine cp au (aIx) ?_
     refine aB ?_
     exact⟨_,trivial,((aj (aj (aj (aj (aj (aj (aj (aj (aj (bJ cl) cl) cl) cl) cl) cl) cl) (by first | exact mM | exact mM.symm | (refine aw ?_;first | exact mM | exact mM.symm))) cl) cl)).symm⟩
   ·rintro _ ⟨LR5,-,rfl⟩
    refine ao ?_
    refine ia (fun L=>∃  (L1:St),(True)/\L=((((((((St.mk L1.slot (hp [(3,⟨3,[.agg [ae d,.list 3 (k.map aa),.list 12 (C.map cy)]],true⟩),(4,⟨3,[aa a],true⟩),(5,⟨3,[aa b],true⟩),(6,⟨3,[.agg [.v (.int .i64 0),.v (.slice none 0 0),.v (.slice none 0 0)]],true⟩),(9,⟨3,[aa b],true⟩)])).put (some 3) (.aF 3 3 0 0)).put (some 4) (.aF 4 3 0 0)).put (some 5) (.aF 5 3 0 0)).put (some 6) (.aF 6 3 0 0)).put (some 7) (.list 3 (w.map aa))).put (some 19) (.agg [aa a,aa b])).put (some 20) (ae 1))) ?_ ?_
    ·refine ao ?_
     refine dI (fun(n:Nat) L=>((((((((((St.mk L.slot (hp [(3,⟨3,[.agg [ae d,.list 3 (k.map aa),.list 12 (C.map cy)]],true⟩),(4,⟨3,[aa a],true⟩),(5,⟨3,[aa b],true⟩),(6,⟨3,[.agg [.v (.int .i64 0),.v (.slice none 0 0),.v (.slice none 0 0)]],true⟩),(9,⟨3,[aa b],true⟩)])).put (some 3) (.aF 3 3 0 0)).put (some 4) (.aF 4 3 0 0)).put (some 5) (.aF 5 3 0 0)).put (some 6) (.aF 6 3 0 0)).put (some 7) (.list 3 ((KB n).map aa))).put (some 9) (.aF 9 3 0 0)).put (some 10) (bL eb)).put (some 19) (.agg [aa a,aa b])).put (some 20) (ae 1))) (fun n=>n<=nb) (fun n=>nb-n) 0 (bS _) ?_
     rintro n L2 hn
     refine aH ?_
     refine aY 10 al ?_
     refine aQ ?_
     refine ep 40 rfl ?_ ?_<;>intro zi pS
     ·refine aH ?_
      refine cp au (hTB (by simpa using pS) n hn) ?_
      refine ay ?_
      refine aL rfl ?_ ?_<;>intro aie h47
      ·have lN:n<nb:=by
        have h1:=pS
        rcases kD n nb with g | g
        ·exact g
        ·exfalso;omega
       have oD:=hIB n lN
       refine ay ?_
       refine cp au (oD) ?_
       refine aB ?_
       exact lU (n+1) J
      ·obtain rfl:n=nb:=by first | omega | (have:=hzb (by simpa using pS);omega)
       refine a7 ?_
       exact ahs
     ·obtain rfl:n=nb:=by have:=hzb pS;omega
      refine eQ ?_
      exact ahs
    ·rintro _ ⟨LB2,-,rfl⟩
     refine aH ?_
     refine bR (az.kill _ 9) ?_
     refine aB ?_
     refine bc ?_
     refine ay ?_
     refine dp (b:=_) rfl ai ?_
     refine bB ?_
     refine cp au (hO) ?_
     refine lF ?_
     refine eN [4] rfl rfl (.mk (caps:=[.ba (aa a)]) (.cons (.aF rfl rfl rfl (an.av _) (p7 _) (an.pure _) rfl) .nil) (fun x hx=>by rw [fP.1 hx];exact⟨rfl,rfl⟩)) rfl ?_
     refine bM rfl (.cons (.pure hpw) (.cons (.pure (show LV.pure (.bQ 149 [.ba (aa a)])=true by simp [LV.pure,aK,an.pure])) .nil)) (w6) ?_
     refine ah rfl nh ?_
     refine ay ?_
     refine eN [5] rfl rfl (.mk (caps:=[.ba (aa b)]) (.cons (.aF rfl rfl rfl (an.av _) (p7 _) (an.pure _) rfl) .nil) (fun x hx=>by rw [fP.1 hx];exact⟨rfl,rfl⟩)) rfl ?_
     refine bM rfl (.cons (.pure hpw) (.cons (.pure (show LV.pure (.bQ 150 [.ba (aa b)])=true by simp [LV.pure,aK,an.pure])) .nil)) (hI2) ?_
     refine bg ?_
     refine ah rfl cu ?_
     refine aB ?_
     refine jm ((az.cell 12 rfl (fun Z μ w cs h=>ax5 74 3 _ _ Z μ w cs h)).trans (az.ov _ 74 3 rfl)) ?_
     refine dI (fun(m:Nat) L=>((((((((((((St.mk L.slot (hp [(3,⟨3,[.agg [ae d,.list 3 (k.map aa),.list 12 (C.map cy)]],true⟩),(4,⟨3,[aa a],false⟩),(5,⟨3,[aa b],false⟩),(6,⟨3,[.agg [.v (.int .i64 0),.v (.slice none 0 0),.v (.slice none 0 0)]],true⟩),(11,⟨3,[.agg [ae d,.list 3 (w.map aa),.list 12 (C2.map cy)]],true⟩),(12,⟨3,[.agg [ae d,.ref 74 3 0 m,.v (.slice none 0 0)]],true⟩),(74,⟨3,(aV m a).map aa,true⟩)])).put (some 3) (.aF 3 3 0 0)).put (some 4) (.aF 4 3 0 0)).put (some 5) (.aF 5 3 0 0)).put (some 6) (.aF 6 3 0 0)).put (some 7) (.list 3 (w.map aa))).put (some 11) (.aF 11 3 0 0)).put (some 12) (.aF 12 3 0 0)).put (some 13) (ae (f1-1))).put (some 14) (ae l2)).put (some 67) (ae (d+1))).put (some 68) (ae m))) (fun m=>m<=d+1) (fun m=>d+1-m) 0 (bS _) ?_
     rintro m L3 hm
     refine ay ?_
     refine aL rfl ?_ ?_<;>intro aqs h69
     ·have fc:m<d+1:=by omega
      have eal:(aV m a++[a])=aV (m+1) a:=by rw [agF]
      have eap:((aV m a).map aa).take m=(aV m a).map aa:=cE aW
      refine bB ?_
      refine bO rfl (.fV (d:=74) (news:=[aa a]) rfl rfl rfl rfl xE (.inl rfl) ai dY dY kT dC rfl kX (.inl ⟨73,0,_,rfl,by decide,rfl,rfl,by simp,rfl,by simp [aK,an.pure]⟩) xE xE ai) ?_
      refine a7 ?_
      refine bR (az.kill _ 73) ?_
      refine ah rfl cu ?_
      refine aQ ?_
      exact lU (m+1) J
     ·obtain rfl:m=d+1:=by omega
      have eal:True:=trivial
      have eap:((aV (d+1) a).map aa).take (d+1)=(aV (d+1) a).map aa:=cE aW
      refine ay ?_
      refine aY 7 al ?_
      refine aB ?_
      refine ah rfl (.bin rfl rfl (show dM .add .i64 ((f1-1:Nat):Int) 1=some (.int .i64 ((f1:Nat):Int)) from (by rw [acd J,Nat.sub_add_cancel J]))) ?_
      refine ao ?_
      refine ah rfl (.aic (a:=f1) (h:=l2) an rfl dY dC rfl rfl om om) ?_
      refine aw ?_
      refine bO rfl (.fV (d:=74) (news:=((w.take l2).drop f1).map aa) rfl rfl rfl rfl aW (.inl rfl) ai dY dY kT dC rfl kX (.inr (.inl rfl)) xE xE ai) ?_
      refine bB ?_
      refine ah rfl cu ?_
      refine aB ?_
      refine dI (fun(m:Nat) L=>((((((((((((St.mk L.slot (hp [(3,⟨3,[.agg [ae d,.list 3 (k.map aa),.list 12 (C.map cy)]],true⟩),(4,⟨3,[aa a],false⟩),(5,⟨3,[aa b],false⟩),(6,⟨3,[.agg [.v (.int .i64 0),.v (.slice none 0 0),.v (.slice none 0 0)]],true⟩),(11,⟨3,[.agg [ae d,.list 3 (w.map aa),.list 12 (C2.map cy)]],true⟩),(12,⟨3,[.agg [ae d,.ref 74 3 0 (d+1+(l2-f1)+m),.v (.slice none 0 0)]],true⟩),(74,⟨3,(aV (d+1) a++((w.take l2).drop f1)++aV m b).map aa,true⟩)])).put (some 3) (.aF 3 3 0 0)).put (some 4) (.aF 4 3 0 0)).put (some 5) (.aF 5 3 0 0)).put (some 6) (.aF 6 3 0 0)).put (some 7) (.list 3 (w.map aa))).put (some 11) (.aF 11 3 0 0)).put (some 12) (.aF 12 3 0 0)).put (some 13) (ae (f1-1))).put (some 14) (ae l2)).put (some 88) (ae (d+1))).put (some 89) (ae m))) (fun m=>m<=d+1) (fun m=>d+1-m) 0 (bS _) ?_
      rintro m L4 hm
      refine ay ?_
      refine aL rfl ?_ ?_<;>intro aFX h90
      ·have fc:m<d+1:=by omega
       have ebl:(aV (d+1) a++((w.take l2).drop f1)++aV m b)++[b]=aV (d+1) a++((w.take l2).drop f1)++aV (m+1) b:=by rw [List.append_assoc _ (aV m b),<-agF]
       have ebp:((aV (d+1) a++((w.take l2).drop f1)++aV m b).map aa).take (d+1+(l2-f1)+m)=(aV (d+1) a++((w.take l2).drop f1)++aV m b).map aa:=cE (by rw [eD,jS,jS,ajK];simp)
       refine bB ?_
       refine bO rfl (.fV (d:=74) (news:=[aa b]) rfl rfl rfl rfl xE (.inl rfl) ai dY dY kT dC rfl kX (.inl ⟨94,0,_,rfl,by decide,rfl,rfl,by simp,rfl,by simp [aK,an.pure]⟩) xE xE ai) ?_
       refine a7 ?_
       refine bR (az.kill _ 94) ?_
       refine ah rfl cu ?_
       refine aQ ?_
       exact lU (m+1) J
      ·obtain rfl:m=d+1:=by omega
       refine bw ?_
       refine ah rfl (.bin rfl rfl (afw (a:=f1-1) (b:=d) (c:=f1-1-d) J J)) ?_
       refine ao ?_
       refine ah rfl (.aic (a:=f1-1-d) (h:=l2) dD rfl jv kF rfl rfl om om) ?_
       refine bC ?_
       exact fi [74] rfl rfl rfl cs (cr cs rfl) qz (.agg (.cons (.pure rfl) (.cons (dH (l:=(aV (d+1) a++((w.take l2).drop f1)++aV (d+1) b)) an rfl rfl (by rw [jS,jS,ajK];simp)) (.cons (.pure (cd dD 12 _)) .nil))))
theorem arV (k:List Rat) (t:Rat):∀ i,i<=k.length->iR k t i=(k.take i).count t
 | 0,_=>by simp [iR]
 | i+1,h=>by
  rw [iR,arV k t i J,<-acX (show i<k.length by omega),List.count_append,List.count_singleton]
  congr 1
  by_cases e:k.getD i 0=t
  ·rw [if_pos e,if_pos (by simpa using e)]
  ·rw [if_neg e,if_neg (by simpa using e)]
theorem aoU (k:List Rat) (t:Rat):iR k t k.length=k.count t:=by
 rw [arV k t _ (bF _),mQ]
def kq (d:Nat) (x a b y:Rat) (m n:Nat):List Rat:=(aV (d+1) x++aV m a)++(aV n b++aV (d+1) y)
section
variable (d:Nat) (x a b y:Rat) (m n:Nat)
theorem z8:(kq d x a b y m n).length=2*(d+1)+m+n:=by simp [kq];omega
theorem aJl:kq d x a b y 0 0=aA d x y:=by simp [kq,aA]
theorem kL (i:Nat) (h:i<2*(d+1)+m+n):(kq d x a b y m n).getD i 0=if i<d+1 then x else if i<d+1+m then a else if i<d+1+m+n then b else y:=by
 have l1:(aV (d+1) x++aV m a).length=d+1+m:=by simp
 unfold kq
 by_cases h1:i<d+1
 ·rw [if_pos h1,gD1 (by rw [l1];omega),gD1 (by simpa using h1),zX h1]
 ·rw [if_neg h1]
  by_cases h2:i<d+1+m
  ·rw [if_pos h2,gD1 (by rw [l1];omega),gD2 bq,acT,zX J]
  ·rw [if_neg h2,gD2 (by rw [l1];omega),l1]
   by_cases h3:i<d+1+m+n
   ·rw [if_pos h3,gD1 bq,zX J]
   ·rw [if_neg h3,gD2 bq,acT,zX J]
theorem ayo:(kq d x a b y m 0).take (d+1+m)++a :: (kq d x a b y m 0).drop (d+1+m)=kq d x a b y (m+1) 0:=by
 have l1:(aV (d+1) x++aV m a).length=d+1+m:=by simp
 unfold kq
 rw [aiS l1,adm l1,agF (n:=m)]
 simp
theorem aAD:(kq d x a b y m n).take (d+1+m+n)++b :: (kq d x a b y m n).drop (d+1+m+n)=kq d x a b y m (n+1):=by
 have e:kq d x a b y m n=((aV (d+1) x++aV m a)++aV n b)++aV (d+1) y:=by simp [kq]
 have l1:((aV (d+1) x++aV m a)++aV n b).length=d+1+m+n:=by simp;omega
 rw [e,aiS l1,adm l1]
 unfold kq
 rw [agF (n:=n)]
 simp
theorem aCU {R:Nat} (h1:rl x<=R) (h2:rl a<=R) (h3:rl b<=R) (h4:rl y<=R):∀ t∈kq d x a b y m n,rl t<=R:=fun t ht=>by
 simp only [kq,List.mem_append,List.mem_replicate] at ht
 rcases ht with(⟨_,rfl⟩ | ⟨_,rfl⟩) | ⟨_,rfl⟩ | ⟨_,rfl⟩<;>assumption
end
theorem azr {d:Nat} {x a b y:Rat} (m:Nat) (h1:x≠a) (h2:a≠y):iR (kq d x a b y m 0) a (kq d x a b y m 0).length=m:=by
 rw [aoU]
 simp [kq,auu,h1,h2.symm]
theorem ayU {d:Nat} {x a b y:Rat} (m n:Nat) (h1:x≠b) (h2:a≠b) (h3:b≠y):iR (kq d x a b y m n) b (kq d x a b y m n).length=n:=by
 rw [aoU]
 simp [kq,auu,h1,h2,h3.symm]
theorem aCI {d:Nat} {x a b y:Rat} {m n i:Nat} (hm:m=0/\a=x\/m=d) (hn:n=0/\b=y\/n=d) (hi:i<=d):((kq d x a b y m n).drop (m+i+1)).take d=aV (d-i) a++aV i b:=by
 have eL:(aV (d+1) x++aV m a).drop (m+1)=aV d a:=by
  rcases hm with⟨rfl,rfl⟩ | rfl
  ·simp
  ·rw [adm aW]
 have eR:(aV n b++aV (d+1) y).take i=aV i b:=by
  rcases hn with⟨rfl,rfl⟩ | rfl
  ·simp;omega
  ·rw [aty (by simpa using hi)];simp;omega
 have e1:(kq d x a b y m n).drop (m+1)=aV d a++(aV n b++aV (d+1) y):=by
  unfold kq
  rw [arh bq,eL]
 rw [show m+i+1=(m+1)+i by omega,<-qL,e1,arh (by simpa using hi),List.drop_replicate,List.take_append,cE aW,acT,show d-(d-i)=i by omega,eR]
theorem ai5 {d:Nat} {x y:Rat} {v args:List Rat} (hv:v.length=d+1):uz (aA d x y) d d v args=zu d x y v args:=by
 have e0:(v.drop (d-d)).take (d+1)=v:=by rw [sM,ks,cE J]
 have key:∀ r,r<=d->jq (gF (aA d x y) d d args) v r=bfi (fun t=>(t-x)/(y-x)) args v r:=by
  intro r
  induction r with
  | zero=>exact fun _=>rfl
  | succ r ih =>
   intro hr
   rw [jq,bfi,ih J]
   refine amP (by rw [w7,apg]) fun i hi=>?_
   rw [w7,afk,hv] at hi
   rw [abU _ _ _ _ (by rw [afk,hv];exact hi),av5 _ _ _ _ (by rw [afk,hv];exact hi)]
   by_cases g:r<i
   ·rw [if_pos g,if_pos g]
    have e:gF (aA d x y) d d args r i=(args.getD r 0-x)/(y-x):=by
     unfold gF
     rw [im _ _ _ _ J,im _ _ _ _ J,if_pos J,if_neg J]
    rw [e]
   ·rw [if_neg g,if_neg g]
 unfold uz zu
 rw [e0,key d (bF _)]
theorem aD7 {d:Nat} {x y:Rat} {C:List Q4} {args:List Rat} (hC:C.length=d+1):sg (aA d x y) d d C args=pol d x y C args:=by
 unfold sg pol
 rw [ai5 (by simpa using hC),ai5 (by simpa using hC),ai5 (by simpa using hC),ai5 (by simpa using hC)]
def et (d:Nat) (x y:Rat) (C:List Q4) (a b:Rat):List Q4:=(fe (d+1)).map fun i=>pol d x y C (aV (d-i) a++aV i b)
theorem aFY {d:Nat} {x y:Rat} (h6:d<=6) (hxy:x<y) (hx:rl x<=100) (hy:rl y<=100):xJ (aA d x y) d d where
 d6:=h6
 kl:=by rw [gW];omega
 kr:=mw hx hy
 srt:=fun i j pK hj=>by
  rw [gW] at hj
  rw [im _ _ _ _ J,im _ _ _ _ hj]
  split<;>split<;>first | grind | (exfalso;omega)
 p1:=bF _
 p2:=by rw [gW];omega
 lt:=by rw [im _ _ _ _ J,im _ _ _ _ J,if_pos J,if_neg J];exact hxy
def jl (q:Q4):ar:=⟨⟨q.x/q.w,q.y/q.w,q.z/q.w⟩,q.w⟩
theorem au5 {C:List Q4} {i:Nat} (h:i<C.length):(C.map jl).getD i default=jl (C.getD i default):=by
 rw [bE,gZ,bE,bY h];rfl
theorem an3 (d:Nat) (x y a b:Rat) (C:List Q4) (R:Nat) (h1:1<=d) (h6:d<=6) (hxa:x<=a) (cY:a<b) (je:b<=y) (hx:rl x<=64) (hy:rl y<=64) (ha:rl a<=64) (hb:rl b<=64) (hC:C.length=d+1) (fa:1<=R) (hR:R<=10000000) (ke:∀ q∈C,nB R q) :
  ax ak 83 [.agg [ae d,.list 3 ((aA d x y).map aa),.list 12 (C.map cy)],aa a,aa b] (.agg [ae d,.list 3 ((aA d a b).map aa),.list 12 ((et d x y C a b).map cy)]):=by
 obtain⟨m,hm⟩:∃ m,(m=0/\a=x)\/(m=d/\a≠x):=by
  by_cases e:a=x
  ·exact⟨0,.inl ⟨rfl,e⟩⟩
  ·exact⟨d,.inr ⟨rfl,e⟩⟩
 obtain⟨n,hn⟩:∃ n,(n=0/\b=y)\/(n=d/\b≠y):=by
  by_cases e:b=y
  ·exact⟨0,.inl ⟨rfl,e⟩⟩
  ·exact⟨d,.inr ⟨rfl,e⟩⟩
 have hmd:m<=d:=by omega
 have hnd:n<=d:=by omega
 have hma:0<m->x<a:=fun h=>by
  rcases hm with e | e
  ·omega
  ·have:=e.2;grind
 have hnb:0<n->b<y:=fun h=>by
  rcases hn with e | e
  ·omega
  ·have:=e.2;grind
 have ma:∀ p q,∀ t∈kq d x a b y p q,rl t<=64:=fun p q=>aCU d x a b y p q hx ha hb hy
 have jx:=z8 d x a b y m n
 have hTA:decide (a=x)=false->∀ j,j<=m->ax ak 145 [.list 3 ((kq d x a b y j 0).map aa),aa a] (ae (d-(m-j))):=fun hh j hj=>by
  have bj:a≠x:=by simpa using hh
  have:=amy (kq d x a b y j 0) (by rw [z8];omega) (fun t ht=>bb (ma j 0 t ht) ai) a J
  rw [azr j (fun e=>bj e.symm) dz] at this
  rwa [show d-(m-j)=j by rcases hm with e | e;exact absurd e.2 bj;omega]
 have hTB:decide (b=y)=false->∀ j,j<=n->ax ak 145 [.list 3 ((kq d x a b y m j).map aa),aa b] (ae (d-(n-j))):=fun hh j hj=>by
  have bj:b≠y:=by simpa using hh
  have:=amy (kq d x a b y m j) (by rw [z8];omega) (fun t ht=>bb (ma m j t ht) ai) b J
  rw [ayU m j dz dz bj] at this
  rwa [show d-(n-j)=j by rcases hn with e | e;exact absurd e.2 bj;omega]
 have hIA:∀ j,j<m->ax ak 146 [.list 3 ((kq d x a b y j 0).map aa),aa a] (.list 3 ((kq d x a b y (j+1) 0).map aa)):=fun j hj=>by
  have aKP:=hma J
  have:=ap7 (kq d x a b y j 0) a (d+1+j) (by rw [z8];omega) (by rw [z8];omega) (fun t ht=>bb (ma j 0 t ht) ai) J (fun i hi=>by
   rw [kL _ _ _ _ _ _ _ _ J]
   split
   ·exact hxa
   ·first | exact nI | (rw [if_pos hi];exact nI)) (by
   rw [kL _ _ _ _ _ _ _ _ J,if_neg J,if_neg J,if_neg J];grind)
  rwa [ayo] at this
 have hIB:∀ j,j<n->ax ak 146 [.list 3 ((kq d x a b y m j).map aa),aa b] (.list 3 ((kq d x a b y m (j+1)).map aa)):=fun j hj=>by
  have agt:=hnb J
  have:=ap7 (kq d x a b y m j) b (d+1+m+j) (by rw [z8];omega) (by rw [z8];omega) (fun t ht=>bb (ma m j t ht) ai) J (fun i hi=>by
   rw [kL _ _ _ _ _ _ _ _ J]
   split
   ·grind
   ·split
    ·grind
    ·first | exact nI | (rw [if_pos hi];exact nI)) (by
   rw [kL _ _ _ _ _ _ _ _ J,if_neg J,if_neg J,if_neg J];exact agt)
  rwa [aAD] at this
 have hI:∀ j,j<d+1+m+n->∃ r,j<=r/\r+1<2*(d+1)+m+n/\(kq d x a b y m n).getD r 0<(kq d x a b y m n).getD (r+1) 0/\(∀ i,j<=i->i<r->¬(kq d x a b y m n).getD i 0<(kq d x a b y m n).getD (i+1) 0)/\x<=(kq d x a b y m n).getD r 0/\(kq d x a b y m n).getD r 0<y:=fun j hj=>by
  by_cases c1:j<=d
  ·refine⟨d,c1,J,?_,fun i h2 h3=>?_,?_,?_⟩
   ·rw [kL _ _ _ _ _ _ _ _ J,kL _ _ _ _ _ _ _ _ J,if_pos J,if_neg J]
    split
    ·exact hma J
    ·split<;>grind
   ·rw [kL _ _ _ _ _ _ _ _ J,kL _ _ _ _ _ _ _ _ J,if_pos J,if_pos J];grind
   ·rw [kL _ _ _ _ _ _ _ _ J,if_pos J];exact nI
   ·rw [kL _ _ _ _ _ _ _ _ J,if_pos J];grind
  ·by_cases c2:j<=d+m
   ·refine⟨d+m,c2,J,?_,fun i h2 h3=>?_,?_,?_⟩
    ·rw [kL _ _ _ _ _ _ _ _ J,kL _ _ _ _ _ _ _ _ J,if_neg J,if_pos J,if_neg J,if_neg J]
     split<;>grind
    ·rw [kL _ _ _ _ _ _ _ _ J,kL _ _ _ _ _ _ _ _ J,if_neg J,if_pos J,if_neg J,if_pos J];grind
    ·rw [kL _ _ _ _ _ _ _ _ J,if_neg J,if_pos J];exact hxa
    ·rw [kL _ _ _ _ _ _ _ _ J,if_neg J,if_pos J];grind
   ·have agt:=hnb J
    refine⟨d+m+n,J,J,?_,fun i h2 h3=>?_,?_,?_⟩
    ·rw [kL _ _ _ _ _ _ _ _ J,kL _ _ _ _ _ _ _ _ J,if_neg J,if_neg J,if_pos J,if_neg J,if_neg J,if_neg J];exact agt
    ·rw [kL _ _ _ _ _ _ _ _ J,kL _ _ _ _ _ _ _ _ J,if_neg J,if_neg J,if_pos J,if_neg J,if_neg J,if_pos J];grind
    ·rw [kL _ _ _ _ _ _ _ _ J,if_neg J,if_neg J,if_pos J];grind
    ·rw [kL _ _ _ _ _ _ _ _ J,if_neg J,if_neg J,if_pos J];exact agt
 obtain⟨I,hI⟩:∃ I:Nat->Nat,∀ j,j<d+1+m+n->j<=I j/\I j+1<2*(d+1)+m+n/\(kq d x a b y m n).getD (I j) 0<(kq d x a b y m n).getD (I j+1) 0/\(∀ i,j<=i->i<I j->¬(kq d x a b y m n).getD i 0<(kq d x a b y m n).getD (i+1) 0)/\x<=(kq d x a b y m n).getD (I j) 0/\(kq d x a b y m n).getD (I j) 0<y :=
  ⟨fun j=>if h:j<d+1+m+n then(hI j h).choose else 0,fun j h=>by simp only [h,dif_pos];exact(hI j h).choose_spec⟩
 have hrW:∀ i,i<2*(d+1)+m+n->rl ((kq d x a b y m n).getD i 0)<=64:=fun i hi=>ma m n _ (eU (by rw [jx];exact hi))
 have hO:=aFn (aA d x y) (kq d x a b y m n) d (d+1+m+n) C R I (fun _=>d) J (by rw [jx];omega) (by rw [jx];omega) (fun t ht=>bb (ma m n t ht) ai) (by rw [gW,hC];omega) fa hR ke (fun j hj=>by rw [jx];have:=(hI j hj).2.1;omega)
  (fun j hj=>aFY h6 dz J J)
  (fun j hj=>aI8 (kq d x a b y m n) j (I j) (by rw [jx];omega) (fun t ht=>bb (ma m n t ht) ai) (hI j hj).1 (by rw [jx];exact(hI j hj).2.1) (hI j hj).2.2.1 (hI j hj).2.2.2.1)
  (fun j hj=>azs d x y _ h6 J J (by have:=hrW (I j) (by have:=(hI j hj).2.1;omega);omega) (hI j hj).2.2.2.2.1 (hI j hj).2.2.2.2.2)
 have w6:ax ak 148 [.list 3 ((kq d x a b y m n).map aa),.bQ 149 [.ba (aa a)]] (ae (d+1+m)):=by
  have:=au9 149 [.ba (aa a)] (by simp [aK,LV.pure,an.pure]) (fun x hx=>by rw [fP.1 hx];exact⟨rfl,rfl⟩) (fun t=>decide (gp t a > 0)) (kq d x a b y m n) (by rw [jx];omega) (fun t ht=>aCx a t (by have:=ma m n t ht;omega))
  rwa [ajm (i:=d+1+m) (by rw [jx];omega) (fun j hj=>by
   have e:(kq d x a b y m n).getD j default=(kq d x a b y m n).getD j 0:=rfl
   rw [e,kL _ _ _ _ _ _ _ _ J]
   refine decide_eq_false fun hh=>?_
   have hh:=sv.1 hh
   split at hh
   ·grind
   ·first | grind | (rw [if_pos hj] at hh;grind)) (by
   have e:(kq d x a b y m n).getD (d+1+m) default=(kq d x a b y m n).getD (d+1+m) 0:=rfl
   rw [e,kL _ _ _ _ _ _ _ _ J,if_neg J,if_neg J]
   refine decide_eq_true (sv.2 ?_)
   split<;>grind)] at this
 have hI2:ax ak 148 [.list 3 ((kq d x a b y m n).map aa),.bQ 150 [.ba (aa b)]] (ae (d+1+m)):=by
  have:=au9 150 [.ba (aa b)] (by simp [aK,LV.pure,an.pure]) (fun x hx=>by rw [fP.1 hx];exact⟨rfl,rfl⟩) (fun t=>decide (gp t b>=0)) (kq d x a b y m n) (by rw [jx];omega) (fun t ht=>aDW b t (by have:=ma m n t ht;omega))
  rwa [ajm (i:=d+1+m) (by rw [jx];omega) (fun j hj=>by
   have e:(kq d x a b y m n).getD j default=(kq d x a b y m n).getD j 0:=rfl
   rw [e,kL _ _ _ _ _ _ _ _ J]
   refine decide_eq_false fun hh=>?_
   have hh:=zL.1 hh
   split at hh
   ·grind
   ·first | grind | (rw [if_pos hj] at hh;grind)) (by
   have e:(kq d x a b y m n).getD (d+1+m) default=(kq d x a b y m n).getD (d+1+m) 0:=rfl
   rw [e,kL _ _ _ _ _ _ _ _ J,if_neg J,if_neg J]
   refine decide_eq_true (zL.2 ?_)
   split<;>grind)] at this
 have nN:=z8 d x a b y m 0
 have rL:(kq d x a b y m 0).getD 0 0=x:=by rw [kL _ _ _ _ _ _ _ _ J,if_pos J]
 have mB:(kq d x a b y m 0).getD ((kq d x a b y m 0).length-1) 0=y:=by rw [nN,kL _ _ _ _ _ _ _ _ J,if_neg J,if_neg J,if_neg J]
 have main:=aCm (aA d x y) (kq d x a b y m n) d C _ a b (decide (a=x)) (decide (b=y)) m n (fun j=>kq d x a b y j 0) (fun j=>kq d x a b y m j) (d+1+m) (d+1+m) h6 J J vO vO (fun t ht=>bb (mw hx hy t ht) ai)
  (aJl d x a b y) rfl rfl (by show 0<(kq d x a b y m 0).length;rw [nN];omega) (by show (kq d x a b y m 0).length<=100;rw [nN];omega) (fun t ht=>bb (ma m 0 t ht) ai) (by rw [jx];omega)
  (by rw [yN,gW,abo,decide_eq_false (show ¬a=y by grind),Bool.or_false]) (by show (decide (b=(kq d x a b y m 0).getD 0 0) || decide (b=(kq d x a b y m 0).getD ((kq d x a b y m 0).length-1) 0))=_;rw [rL,mB,decide_eq_false (show ¬b=x by grind),Bool.false_or]) hmd hnd
  (fun h=>by have:=of_decide_eq_true h;rcases hm with e | e<;>grind) (fun h=>by have:=of_decide_eq_true h;rcases hn with e | e<;>grind) hTA hTB hIA hIB hO w6 hI2 J (bF _) aW (by rw [jx];simp;omega)
 have e1:((kq d x a b y m n).take (d+1+m)).drop (d+1+m)=[]:=kB (by rw [fQ];exact Nat.min_le_left _ _)
 have e2:((((fe (d+1+m+n)).map fun j=>sg (aA d x y) d ((fun _=>d) j) C (((kq d x a b y m n).drop (j+1)).take d)).take (d+1+m)).drop (d+1+m-1-d))=et d x y C a b:=by
  unfold et
  refine List.ext_getElem (by first | (simp;done) | (simp;omega)) fun i h1 h2=>?_
  have hi:i<d+1:=by simpa using h2
  simp only [List.getElem_drop,List.getElem_take,List.getElem_map,List.getElem_range]
  rw [show d+1+m-1-d+i=m+i by omega,aD7 hC,aCI (by rcases hm with e | e;exact .inl e;exact .inr e.1) (by rcases hn with e | e;exact .inl e;exact .inr e.1) J]
 rw [e1,e2,qo] at main
 exact main
def fy (g:List Q4->List Q4) (V:Nat) (rows:List (List ar)):List (List ar):=(kC V rows).map fun C=>(g C).map jl
theorem asv (g:List Q4->List Q4) (V:Nat) (rows:List (List ar)):(fy g V rows).length=V+1:=by rw [fy,eD,wH]
theorem aeG {V:Nat} (rows:List (List ar)) {j:Nat} (h:j<V+1):(kC V rows)[j]?=some ((rows.map fun r=>r.getD j default).map bW):=by
 rw [kC,gZ,afG rows h];rfl
theorem aII (g:List Q4->List Q4) {V:Nat} (rows:List (List ar)) {j:Nat} (h:j<V+1):(fy g V rows).take j++[(g ((rows.map fun r=>r.getD j default).map bW)).map jl]=(fy g V rows).take (j+1):=by
 rw [fy,v8,gZ,aeG rows h];rfl
theorem aB2 {V:Nat} (rows:List (List ar)) {j:Nat} (h:j<V+1):(rows.map fun r=>r.getD j default).map bW∈kC V rows:=List.mem_of_getElem? (aeG rows h)
namespace apW
theorem aw {p q:Prop} (k:q) (e:p=q:=by simp only [e1,e2,e3,e4,p1,p2,p3,q1,q2,q3,l1,t0,t1,r1,r2,r3,r4,Nat.zero_add,Nat.reduceMul,Nat.reduceAdd,b1,b2,b3,b4,b5,b6,i1,i2,i3,i4,i5,i6,Nat.reduceBEq,a5,wJ,eW,tb,qX,egq,egl,pB,gO,hhl,hil,fy0,fyc,aG (l5 U k2),aG cN,List.length_map,fo,eO,dW,List.length_cons,List.length_nil,List.nil_append,List.map_nil,List.take_nil,List.append_nil,ur,aG dD,zz,aG (l5 U kU),nW,aG cN,mN,cn,fo,eO,dW,List.length_cons,List.length_nil,List.nil_append,List.map_nil,List.take_nil,List.append_nil,List.set_cons_zero,List.set_cons_succ,Nat.reduceEqDiff,reduceIte,if_true,if_false,cB,dB,aG aX,aG bz,aG an,cA,cC,LV.kill,bH];exact rfl):p:=e.mpr k
end apW
open apW in
theorem atZ (R U V:Nat) (kU kV:List Rat) (rows:List (List ar)) (h:pf R U V rows) (aLA:0<kU.length) (xZ:kU.length<=100) (uY:kV.length<=100) (abq:∀ x∈kU,rl x<=1000) (aaE:∀ x∈kV,rl x<=1000) (hR:R<=200000) (f:Nat) (cap:List LV) (fx:aK cap=true) (jB:∀ x∈cap,x.av=1/\x.isAgg=false) (k2:List Rat) (h2l:k2.length<=100) (ze:0<k2.length) (h2r:∀ x∈k2,rl x<=1000) (g:List Q4->List Q4) (R2 R4:Nat) (hR4:R4<=1000000000) (hf:∀ C∈kC V rows,ax ak f ([hZ U kU C]++cap) (hZ U k2 (g C))) (hgl:∀ C∈kC V rows,(g C).length=U+1) (hgb:∀ C∈kC V rows,∀ q∈g C,nB R4 q/\0<q.w) (tC:pf R2 V U (fy g V rows)):ax ak 81 [.agg [ae U,ae V,.list 3 (kU.map aa),.list 3 (kV.map aa),.list 1 (rows.map a5)],.bQ f cap] (.agg [ae U,ae V,.list 3 (k2.map aa),.list 3 (kV.map aa),.list 1 ((gg U (fy g V rows)).map a5)]):=by
 have jg:LV.pure (.agg [ae U,ae V,.list 3 (kU.map aa),.list 3 (kV.map aa),.list 1 (rows.map a5)])=true:=by simp [LV.pure,aK,aP an,aP cN]
 have jn:=cd cN 1 rows
 have oT:=cd cN 1 (gg V rows)
 have kI:=cd an 3 kU
 have hpv:=cd an 3 kV
 have lV:=h.u3
 have ny:=h.v3
 have uI:=h.n
 have lE:=h.r0 (bS U)
 have gO:=tj V rows
 have hhl:=wH V rows
 have hT:=aez R U V rows h
 have hSp:=cd (l5 U kU) 3 (kC V rows)
 have aEx:LV.pure (.bQ f cap)=true:=by simpa [LV.pure] using fx
 have aeX:=cd an 3 k2
 have hil:=asv g V rows
 have hCU:=aap k2 J (fun x hx=>bb (h2r x hx) ai)
 have hCV:=aap kV J (fun x hx=>bb (aaE x hx) ai)
 have zw:=auC R U V kU kV rows h xZ uY abq aaE hR
 have hT2:=aez R2 V U (fy g V rows) tC
 have aKU:=cd cN 1 (fy g V rows)
 have hsr:LV.pure (.agg [ae U,ae V,.list 3 (k2.map aa),.list 3 (kV.map aa),.list 1 ((gg U (fy g V rows)).map a5)])=true:=by simp [LV.pure,aK,aP an,aP cN]
 refine aR Tryz.func81 (ht:=(fun g=>LV.cQ g _ aaN)) ?_
 have wJ:True:=trivial
 have eW:True:=trivial
 have tb:True:=trivial
 have qX:True:=trivial
 have egq:True:=trivial
 have egl:True:=trivial
 have pB:True:=trivial
 refine bf ?_
 refine aY 7 al ?_
 refine aB ?_
 refine cp aO (hCV) ?_
 refine df ?_
 refine cp aO (zw) ?_
 refine a7 ?_
 refine jm (((az.kill _ 2).trans (az.cell 5 rfl (fun Z μ w cs h=>ayB _ _ _ _ Z μ w cs h))).trans (az.own (t:=6) 52 1 rfl rfl)) ?_
 refine dI (fun(j:Nat) L=>((((((((St.mk L.slot (hp [(4,⟨5,[.agg [.v (.int .i64 0),.v (.int .i64 0),.v (.slice none 0 0),.v (.slice none 0 0),.v (.slice none 0 0)]],true⟩),(5,⟨5,[.agg [ae (uu U j),ae V,.list 3 ((kk k2 j).map aa),.list 3 (kV.map aa),.v (.slice none 0 0)]],true⟩),(52,⟨1,((fy g V rows).take j).map a5,true⟩)])).put (some 1) (.bQ f cap)).put (some 4) (.aF 4 5 0 0)).put (some 5) (.aF 5 5 0 0)).put (some 6) (.ref 52 1 0 j)).put (some 20) (.list 3 ((kC V rows).map (hZ U kU)))).put (some 21) (ae (V+1))).put (some 22) (ae j))) (fun j=>j<=V+1) (fun j=>V+1-j) 0 (bS _) ?_
 rintro j L1 hj
 refine ay ?_
 refine aL rfl ?_ ?_<;>intro tD rf
 ·have dL:j<V+1:=by omega
  have hmC:=aB2 rows dL
  have egl:=aJd (V:=V) rows dL
  have pB:(g ((rows.map fun r=>r.getD j default).map bW)).length=U+1:=hgl _ hmC
  have aLw:((g ((rows.map fun r=>r.getD j default).map bW)).map jl).length=U+1:=by rw [eD,pB]
  have wJ:(((fy g V rows).take j).map a5).take j=((fy g V rows).take j).map a5:=cE bq
  have tb:((fy g V rows).take j).map a5++[LV.list 12 (((g ((rows.map fun r=>r.getD j default).map bW)).map jl).map bm)]=((fy g V rows).take (j+1)).map a5:=by
   show ((fy g V rows).take j).map a5++[a5 ((g ((rows.map fun r=>r.getD j default).map bW)).map jl)]=_
   rw [eO,aII g rows dL]
  have hc:=hf _ hmC
  have hp9:LV.pure (hZ U kU ((rows.map fun r=>r.getD j default).map bW))=true:=(l5 U kU).pure _
  have aIy:LV.pure (hZ U k2 (g ((rows.map fun r=>r.getD j default).map bW)))=true:=(l5 U k2).pure _
  have hph:=cd dD 12 (g ((rows.map fun r=>r.getD j default).map bW))
  refine ay ?_
  refine ah rfl (.gD rfl Tryz.underlying218 qz rfl J (aza (i:=j) J) rfl) ?_
  refine aw ?_
  refine ah rfl (.l9 rfl hp9 rfl rfl) ?_
  refine bg ?_
  refine eN [] rfl rfl (.bQ (f:=f) (cap:=cap) (args:=[(hZ U kU ((rows.map fun r=>r.getD j default).map bW))]) rfl (.cons (.pure hp9) .nil) ⟨fx,jB⟩ hc.1 ai (fun _ h=>by cases h)) (hc.2 _) ?_
  refine a7 ?_
  refine alr (az.ba (t:=9) (b:=9) rfl rfl rfl rfl aIy) ?_
  refine aw ?_
  refine iT 0 rfl rfl al (.pure gr) pQ lb ?_
  refine iT 1 rfl rfl al (.pure dE) pQ lb ?_
  refine iT 2 rfl rfl al (.pure gr) pQ lb ?_
  refine iT 3 rfl rfl al (.pure (.l9 rfl aeX rfl rfl)) (fun b=>show LV.kill b (.list 3 (k2.map aa))=(.list 3 (k2.map aa)) from LV.nz b _ aeX) lb ?_
  refine iT 4 rfl rfl al (aje (.cons (.pure aeX) .nil) hCU) (fun b=>show LV.kill b (.list 3 (k2.map aa))=(.list 3 (k2.map aa)) from LV.nz b _ aeX) (fF (fun _=>rfl) (fF (fun b=>show LV.kill b (.list 3 (k2.map aa))=(.list 3 (k2.map aa)) from LV.nz b _ aeX) trivial)) ?_
  refine aS 5 _ al rfl ?_
  refine ao ?_
  refine aC ?_
  refine aS 6 _ al rfl ?_
  refine ao ?_
  refine aC ?_
  refine aS 7 _ al rfl ?_
  refine ao ?_
  refine aC ?_
  refine aS 8 _ al rfl ?_
  refine ao ?_
  refine aC ?_
  refine dt al ?_
  refine bh ?_
  refine ah rfl (.l9 rfl hph rfl rfl) ?_
  refine a7 ?_
  refine jm ((az.kill _ 8).trans (az.own (t:=10) 47 12 rfl rfl)) ?_
  refine dI (fun(i:Nat) L=>((((((((((((St.mk L.slot (hp [(4,⟨5,[.agg [.v (.int .i64 0),.v (.int .i64 0),.v (.slice none 0 0),.v (.slice none 0 0),.v (.slice none 0 0)]],true⟩),(5,⟨5,[.agg [ae U,ae V,.list 3 (k2.map aa),.list 3 (kV.map aa),.v (.slice none 0 0)]],true⟩),(52,⟨1,((fy g V rows).take j).map a5,true⟩),(47,⟨12,(((g ((rows.map fun r=>r.getD j default).map bW)).map jl).take i).map bm,true⟩)])).put (some 1) (.bQ f cap)).put (some 4) (.aF 4 5 0 0)).put (some 5) (.aF 5 5 0 0)).put (some 6) (.ref 52 1 0 j)).put (some 20) (.list 3 ((kC V rows).map (hZ U kU)))).put (some 21) (ae (V+1))).put (some 22) (ae j)).put (some 10) (.ref 47 12 0 i)).put (some 37) (.list 12 ((g ((rows.map fun r=>r.getD j default).map bW)).map cy))).put (some 38) (ae (U+1))).put (some 39) (ae i))) (fun i=>i<=U+1) (fun i=>U+1-i) 0 (bS _) ?_
  rintro i L2 hi
  refine ay ?_
  refine aL rfl ?_ ?_<;>intro zi pS
  ·have dq:i<U+1:=by omega
   have xy:=hgb _ hmC _ (aCV (C:=(g ((rows.map fun r=>r.getD j default).map bW))) (i:=i) J)
   have eW:((((g ((rows.map fun r=>r.getD j default).map bW)).map jl).take i).map bm).take i=(((g ((rows.map fun r=>r.getD j default).map bW)).map jl).take i).map bm:=cE bq
   have qX:((g ((rows.map fun r=>r.getD j default).map bW)).map jl).take i++[(jl ((g ((rows.map fun r=>r.getD j default).map bW)).getD i default))]=((g ((rows.map fun r=>r.getD j default).map bW)).map jl).take (i+1):=by
    rw [<-au5 J]
    have:=acA (fun q:ar=>q) ((g ((rows.map fun r=>r.getD j default).map bW)).map jl) default (i:=i) J
    rwa [List.map_id'] at this
   have hFP:ax ak 112 [cy ((g ((rows.map fun r=>r.getD j default).map bW)).getD i default)] (bm (jl ((g ((rows.map fun r=>r.getD j default).map bW)).getD i default))):=ae4 _ _ _ _ R4 hR4 xy.1.1 xy.1.2.1 xy.1.2.2.1 xy.1.2.2.2 xy.2
   refine eQ ?_
   refine aw ?_
   refine bM rfl (.cons (.pure (dD.pure _)) .nil) (hFP) ?_
   refine ao ?_
   refine bO rfl (.fV (d:=47) (news:=[bm (jl ((g ((rows.map fun r=>r.getD j default).map bW)).getD i default))]) rfl rfl rfl rfl adG (.inl rfl) ai kj kj pz mO cs abO (.inl ⟨46,0,_,rfl,by decide,rfl,rfl,by simp,rfl,by simp [aK,bz.pure]⟩) adG adG ai) ?_
   refine aB ?_
   refine bR ((az.kill _ 12).trans (az.kill _ 46)) ?_
   refine ah rfl cu ?_
   refine aQ ?_
   exact lK
  ·obtain rfl:i=U+1:=by omega
   rw [(cE J:((g ((rows.map fun r=>r.getD j default).map bW)).map jl).take (U+1)=((g ((rows.map fun r=>r.getD j default).map bW)).map jl))]
   refine a7 ?_
   refine bR (az.hand (t:=10) (b:=47) bz rfl rfl J) ?_
   refine aQ ?_
   refine bO rfl (.fV (d:=52) (news:=[a5 ((g ((rows.map fun r=>r.getD j default).map bW)).map jl)]) rfl rfl rfl rfl yO (.inl rfl) ai qb qb prZ uT cs B62 (.inl ⟨51,0,_,rfl,by decide,rfl,rfl,by simp,rfl,by simp [aK,cN.pure]⟩) yO yO ai) ?_
   refine aB ?_
   refine bR (az.kill _ 51) ?_
   refine ah rfl cu ?_
   refine aQ ?_
   exact qp
 ·obtain rfl:j=V+1:=by omega
  rw [cE (by omega:(fy g V rows).length<=V+1)]
  refine bg ?_
  refine ac3 [52] rfl rfl (.cons (dH cN rfl rfl hil.symm) .nil) (hT2) ?_
  refine bC ?_
  exact fi [] rfl rfl rfl cs (cr cs rfl) nd (.pure hsr)
open ig in
theorem aJ2 (a b x y:Rat) (ha:rl a<=1000) (hb:rl b<=1000) (hx:rl x<=1000) (hy:rl y<=1000) (cY:a<=b) (h1:x<=a) (h2:b<=y):ax ak 141 [aD (a,b),aD (x,y)] (bL true):=by
 have hH:∀ t,rl t<=1000->x<=t->t<=y->ax ak 91 [aD (x,y),aa t] (bL true):=fun t ht h1 h2=>by
  have:=adP (x,y) t (by show rl x+rl t<=_;omega) (by show rl t+rl y<=_;omega)
  unfold jr at this
  rw [decide_eq_true h1,decide_eq_true h2] at this
  exact this
 refine aR Tryz.func141 ?_
 refine bw ?_
 refine cp au (hH a ha h1 dz) ?_
 refine ao ?_
 refine ah (aM (v:=true) rfl rfl ((rfl)) rfl) dE ?_
 refine ah (aM (v:=true) rfl rfl ((rfl)) rfl) gr ?_
 refine ah (aM (v:=true) rfl rfl ((rfl)) rfl) dE ?_
 refine bM (aM (v:=true) rfl rfl ((rfl)) rfl) (.cons cG (.cons cG .nil)) (hH b hb dz h2) ?_
 refine ah rfl (.gU rfl ((rfl))) ?_
 refine aB ?_
 exact jL
open ig in
theorem aoC (a b x y:Rat) (ha:rl a<=1000) (hb:rl b<=1000) (hx:rl x<=1000) (hy:rl y<=1000) (cY:a<b) (h1:x<=a) (h2:b<=y):ax ak 80 [aD (a,b),aD (x,y)] (bL true):=by
 have hle:a<=b:=by grind
 have hS:ax ak 134 [aa a,aa b] (bL false):=by
  have:=xK a b J
  rwa [decide_eq_false dz] at this
 refine aR Tryz.func80 ?_
 refine bh ?_
 refine cp aO (aB8 a b ha hb hle) ?_
 refine ao ?_
 refine ah (aM (v:=true) rfl rfl ((rfl)) rfl) gr ?_
 refine ah (aM (v:=true) rfl rfl ((rfl)) rfl) dE ?_
 refine ah (aM (v:=true) rfl rfl ((rfl)) rfl) gr ?_
 refine ah (aM (v:=true) rfl rfl ((rfl)) rfl) dE ?_
 refine bM (aM (v:=true) rfl rfl ((rfl)) rfl) (.cons cG (.cons cG .nil)) (hS) ?_
 refine ah (aM (v:=true) rfl rfl ((rfl)) rfl) (.not rfl) ?_
 refine ah rfl (.gU rfl ((rfl))) ?_
 refine ao ?_
 refine ah (aM (v:=true) rfl rfl ((rfl)) rfl) dE ?_
 refine ah (aM (v:=true) rfl rfl ((rfl)) rfl) dE ?_
 refine bM (aM (v:=true) rfl rfl ((rfl)) rfl) (.cons cG (.cons cG .nil)) (aJ2 a b x y ha hb hx hy hle h1 h2) ?_
 refine ah rfl (.gU rfl ((rfl))) ?_
 refine aB ?_
 exact jL
namespace aor
theorem aw {p q:Prop} (k:q) (e:p=q:=by simp only [e1,e2,e3,e4,p1,p2,p3,q1,q2,q3,l1,t0,t1,r1,r2,r3,r4,Nat.zero_add,Nat.reduceMul,Nat.reduceAdd,b1,b2,b3,b4,b5,b6,i1,i2,i3,i4,i5,i6,Nat.reduceBEq,zz,ur,aG dD,zz,nW,aG cN,mN,cn,fo,eO,dW,List.length_cons,List.length_nil,List.nil_append,List.map_nil,List.take_nil,List.append_nil,List.set_cons_zero,List.set_cons_succ,Nat.reduceEqDiff,reduceIte,if_true,if_false,cB,dB,aG aX,aG bz,aG an,cA,cC,LV.kill,bH];exact rfl):p:=e.mpr k
end aor
open aor in
theorem aBK (d:Nat) (x y a b:Rat) (C:List Q4) (R:Nat) (h1:1<=d) (h6:d<=6) (hxa:x<=a) (cY:a<b) (je:b<=y) (hx:rl x<=64) (hy:rl y<=64) (ha:rl a<=64) (hb:rl b<=64) (hC:C.length=d+1) (fa:1<=R) (hR:R<=10000000) (ke:∀ q∈C,nB R q):ax ak 82 [hZ d (aA d x y) C,.ba (.agg [aa a,aa b])] (hZ d (aA d a b) (et d x y C a b)):=by
 have nH:=cd an 3 (aA d x y)
 have hpq:=cd dD 12 C
 have oT:=(l5 d (aA d x y)).pure C
 have jn:=(l5 d (aA d a b)).pure (et d x y C a b)
 have hCu:ax ak 83 [hZ d (aA d x y) C,aa a,aa b] (hZ d (aA d a b) (et d x y C a b)):=an3 d x y a b C R h1 h6 hxa cY je hx hy ha hb hC fa hR ke
 refine aR Tryz.func82 (ht:=(fun g=>LV.cQ g _ ((l5 _ _).pure _))) ?_
 refine bg ?_
 refine ah rfl (.dU rfl rfl rfl rfl rfl (cr rfl rfl) qz) ?_
 refine aB ?_
 refine bM rfl (.cons (.pure oT) (.cons cG (.cons cG .nil))) (hCu) ?_
 refine aB ?_
 exact fi [] rfl rfl rfl rfl (cr rfl rfl) qz (.pure jn)
open aor in
theorem aCc (d:Nat) (x y a b:Rat) (C:List Q4) (R:Nat) (h1:1<=d) (h6:d<=6) (hxa:x<=a) (cY:a<b) (je:b<=y) (hx:rl x<=64) (hy:rl y<=64) (ha:rl a<=64) (hb:rl b<=64) (hC:C.length=d+1) (fa:1<=R) (hR:R<=10000000) (ke:∀ q∈C,nB R q):ax ak 85 [hZ d (aA d x y) C,.ba (.agg [aa a,aa b])] (hZ d (aA d a b) (et d x y C a b)):=by
 have nH:=cd an 3 (aA d x y)
 have hpq:=cd dD 12 C
 have oT:=(l5 d (aA d x y)).pure C
 have jn:=(l5 d (aA d a b)).pure (et d x y C a b)
 have hCu:ax ak 83 [hZ d (aA d x y) C,aa a,aa b] (hZ d (aA d a b) (et d x y C a b)):=an3 d x y a b C R h1 h6 hxa cY je hx hy ha hb hC fa hR ke
 refine aR Tryz.func85 (ht:=(fun g=>LV.cQ g _ ((l5 _ _).pure _))) ?_
 refine bg ?_
 refine ah rfl (.dU rfl rfl rfl rfl rfl (cr rfl rfl) qz) ?_
 refine aB ?_
 refine bM rfl (.cons (.pure oT) (.cons cG (.cons cG .nil))) (hCu) ?_
 refine aB ?_
 exact fi [] rfl rfl rfl rfl (cr rfl rfl) qz (.pure jn)
def ctS (U V:Nat) (ua ub va vb:Rat) (rows:List (List ar)) (a b c e:Rat):List (List ar):=fy (fun C=>et V va vb C c e) U (fy (fun C=>et U ua ub C a b) V rows)
theorem aeg (d:Nat) (x y:Rat) (C:List Q4) (a b:Rat):(et d x y C a b).length=d+1:=by simp [et]
theorem ai2 {R U V:Nat} {rows:List (List ar)} (h:pf R U V rows):∀ C∈kC V rows,C.length=U+1/\∀ q∈C,nB (2*R) q:=fun C hC=>by
 obtain⟨j,hj,rfl⟩:∃ j,j<V+1/\C=(rows.map fun r=>r.getD j default).map bW:=by
  obtain⟨j,hj,e⟩:=aaU hC
  rw [wH] at hj
  refine⟨j,hj,?_⟩
  have:=aeG rows hj
  rw [bY (by rw [wH];exact hj)] at this
  rw [<-e];exact awB this
 refine⟨by rw [eD,eD,h.n],fun q hq=>?_⟩
 obtain⟨p,hp,rfl⟩:=ga.1 hq
 exact ajd (ayd h hj p hp)
namespace at4
theorem aw {p q:Prop} (k:q) (e:p=q:=by simp only [e1,e2,e3,e4,p1,p2,p3,q1,q2,q3,l1,t0,t1,r1,r2,r3,r4,Nat.zero_add,Nat.reduceMul,Nat.reduceAdd,b1,b2,b3,b4,b5,b6,i1,i2,i3,i4,i5,i6,Nat.reduceBEq,fy0,fyc,aBk,nW,aG cN,mN,cn,fo,eO,dW,List.length_cons,List.length_nil,List.nil_append,List.map_nil,List.take_nil,List.append_nil,List.set_cons_zero,List.set_cons_succ,Nat.reduceEqDiff,reduceIte,if_true,if_false,cB,dB,aG aX,aG bz,aG an,cA,cC,LV.kill,bH];exact rfl):p:=e.mpr k
end at4
open at4 in
theorem az2 (R R1 R2 R4 R5 U V:Nat) (ua ub va vb a b c e:Rat) (rows:List (List ar)) (h:pf R U V rows) (hR:R<=64) (hu:ua<ub) (hv:va<vb) (h1:rl ua<=64) (h2:rl ub<=64) (h3:rl va<=64) (h4:rl vb<=64) (cY:a<b) (hce:c<e) (vG:ua<=a) (hbu:b<=ub) (hvc:va<=c) (ie:e<=vb) (z1:rl a<=64) (z2:rl b<=64) (z3:rl c<=64) (z4:rl e<=64) (fa:R1<=200000) (hR2:R2<=200000) (hR4:R4<=1000000000) (hR5:R5<=1000000000) (mB:∀ C∈kC V rows,∀ q∈et U ua ub C a b,nB R4 q/\0<q.w) (ju:pf R1 V U (fy (fun C=>et U ua ub C a b) V rows)) (yu:∀ C∈kC U (fy (fun C=>et U ua ub C a b) V rows),∀ q∈et V va vb C c e,nB R5 q/\0<q.w) (tC:pf R2 U V (fy (fun C=>et V va vb C c e) U (fy (fun C=>et U ua ub C a b) V rows))):ax ak 39 [.agg [ae U,ae V,.list 3 ((aA U ua ub).map aa),.list 3 ((aA V va vb).map aa),.list 1 (rows.map a5)],aD (a,b),aD (c,e)] (.a9 [.agg [ae U,ae V,.list 3 ((aA U a b).map aa),.list 3 ((aA V c e).map aa),.list 1 ((fy (fun C=>et V va vb C c e) U (fy (fun C=>et U ua ub C a b) V rows)).map a5)],iL 0]):=by
 have lj:LV.pure (.agg [ae U,ae V,.list 3 ((aA U ua ub).map aa),.list 3 ((aA V va vb).map aa),.list 1 (rows.map a5)])=true:=by simp [LV.pure,aK,aP an,aP cN]
 have tO:LV.pure (.agg [ae U,ae V,.list 3 ((aA U a b).map aa),.list 3 ((aA V va vb).map aa),.list 1 ((gg U (fy (fun C=>et U ua ub C a b) V rows)).map a5)])=true:=by simp [LV.pure,aK,aP an,aP cN]
 have hq2:LV.pure (.agg [ae V,ae U,.list 3 ((aA V va vb).map aa),.list 3 ((aA U a b).map aa),.list 1 ((fy (fun C=>et U ua ub C a b) V rows).map a5)])=true:=by simp [LV.pure,aK,aP an,aP cN]
 have hq3:LV.pure (.agg [ae V,ae U,.list 3 ((aA V c e).map aa),.list 3 ((aA U a b).map aa),.list 1 ((gg V (fy (fun C=>et V va vb C c e) U (fy (fun C=>et U ua ub C a b) V rows))).map a5)])=true:=by simp [LV.pure,aK,aP an,aP cN]
 have hq4:LV.pure (.agg [ae U,ae V,.list 3 ((aA U a b).map aa),.list 3 ((aA V c e).map aa),.list 1 ((fy (fun C=>et V va vb C c e) U (fy (fun C=>et U ua ub C a b) V rows)).map a5)])=true:=by simp [LV.pure,aK,aP an,aP cN]
 have rJ:=h.u1
 have lV:=h.u3
 have yP:=h.v1
 have ny:=h.v3
 have gk:=h.r1
 have xZ:=gW U ua ub
 have uY:=gW V va vb
 have aLV:=gW U a b
 have aLx:=gW V c e
 have uI:=h.n
 have hDo:=aet U V ua ub va vb rows J J J J hu hv J J
 have hSd:=anR U V (aA U ua ub) (aA V va vb) rows (acv rJ J hu h1 h2) (acv yP J hv h3 h4) J (fun r hr=>by rw [h.m r hr,uY];omega) (fun r hr q hq=>(h.ok r hr q hq).le hR)
 have hW1:=aoC a b ua ub J J J J cY vG hbu
 have hW2:=aoC c e va vb J J J J hce hvc ie
 have w6:ax ak 81 [.agg [ae U,ae V,.list 3 ((aA U ua ub).map aa),.list 3 ((aA V va vb).map aa),.list 1 (rows.map a5)],.bQ 82 [.ba (.agg [aa a,aa b])]] (.agg [ae U,ae V,.list 3 ((aA U a b).map aa),.list 3 ((aA V va vb).map aa),.list 1 ((gg U (fy (fun C=>et U ua ub C a b) V rows)).map a5)]):=atZ R U V (aA U ua ub) (aA V va vb) rows h vO vO vO (mw J J) (mw J J) J 82 [.ba (.agg [aa a,aa b])] (by simp [aK,LV.pure,an.pure]) (fun x hx=>by rw [fP.1 hx];exact⟨rfl,rfl⟩) (aA U a b) vO vO (mw J J) (fun C=>et U ua ub C a b) R1 R4 hR4 (fun C hC=>aBK U ua ub a b C (2*R) rJ J vG cY hbu h1 h2 z1 z2 (ai2 h C hC).1 J J (ai2 h C hC).2) (fun C hC=>aeg _ _ _ _ _ _) mB ju
 have hX:=anz ju
 have aLI:=ju.r1
 have pg:=am8 R1 U V (aA U a b) (aA V va vb) (gg U (fy (fun C=>et U ua ub C a b) V rows)) hX J J (mw J J) (mw J J) J
 rw [atN ju] at pg
 have hI2:ax ak 81 [.agg [ae V,ae U,.list 3 ((aA V va vb).map aa),.list 3 ((aA U a b).map aa),.list 1 ((fy (fun C=>et U ua ub C a b) V rows).map a5)],.bQ 85 [.ba (.agg [aa c,aa e])]] (.agg [ae V,ae U,.list 3 ((aA V c e).map aa),.list 3 ((aA U a b).map aa),.list 1 ((gg V (fy (fun C=>et V va vb C c e) U (fy (fun C=>et U ua ub C a b) V rows))).map a5)]):=atZ R1 V U (aA V va vb) (aA U a b) (fy (fun C=>et U ua ub C a b) V rows) ju vO vO vO (mw J J) (mw J J) J 85 [.ba (.agg [aa c,aa e])] (by simp [aK,LV.pure,an.pure]) (fun x hx=>by rw [fP.1 hx];exact⟨rfl,rfl⟩) (aA V c e) vO vO (mw J J) (fun C=>et V va vb C c e) R2 R5 hR5 (fun C hC=>aCc V va vb c e C (2*R1) yP J hvc hce ie h3 h4 z3 z4 (ai2 ju C hC).1 J J (ai2 ju C hC).2) (fun C hC=>aeg _ _ _ _ _ _) yu tC
 have hY:=anz tC
 have zT:=am8 R2 V U (aA V c e) (aA U a b) (gg V (fy (fun C=>et V va vb C c e) U (fy (fun C=>et U ua ub C a b) V rows))) hY J J (mw J J) (mw J J) J
 rw [atN tC] at zT
 have aBk:True:=trivial
 refine aR Tryz.func39 (ht:=(iF aaN rfl)) ?_
 refine bw ?_
 refine cp aO (hDo) ?_
 refine dk ?_
 refine cp aO (hSd) ?_
 refine aH ?_
 refine ah (aM (v:=false) rfl rfl ((rfl)) rfl) dE ?_
 refine ah (aM (v:=false) rfl rfl ((rfl)) rfl) dE ?_
 refine bM (aM (v:=false) rfl rfl ((rfl)) rfl) (.cons cG (.cons cG .nil)) (hW1) ?_
 refine ah (aM (v:=false) rfl rfl ((rfl)) rfl) (.not rfl) ?_
 refine ah rfl (.m9 rfl ((rfl))) ?_
 refine ao ?_
 refine ah (aM (v:=false) rfl rfl ((rfl)) rfl) dE ?_
 refine ah (aM (v:=false) rfl rfl ((rfl)) rfl) dE ?_
 refine bM (aM (v:=false) rfl rfl ((rfl)) rfl) (.cons cG (.cons cG .nil)) (hW2) ?_
 refine ah (aM (v:=false) rfl rfl ((rfl)) rfl) (.not rfl) ?_
 refine ah rfl (.m9 rfl ((rfl))) ?_
 refine aH ?_
 refine dp (b:=_) rfl (rfl) ?_
 refine aQ ?_
 refine bR (az.cell (x:=aD (a,b)) (y:=.agg [aa a,aa b]) 4 rfl (fun Z μ w cs h=>by rw [<-spu];exact h)) ?_
 refine aw ?_
 refine ao ?_
 refine eN [4] rfl rfl (.mk (caps:=[.ba (.agg [aa a,aa b])]) (.cons (.aF rfl rfl rfl cs (cr cs rfl) pu rfl) .nil) (fun x hx=>by rw [fP.1 hx];exact⟨rfl,rfl⟩)) rfl ?_
 refine bM rfl (.cons (.pure lj) (.cons (.pure (show LV.pure (.bQ 82 [.ba (.agg [aa a,aa b])])=true by simp [LV.pure,aK,an.pure])) .nil)) (w6) ?_
 refine aB ?_
 refine bR (az.cell (x:=aD (c,e)) (y:=.agg [aa c,aa e]) 5 rfl (fun Z μ w cs h=>by rw [<-spu];exact h)) ?_
 refine aw ?_
 refine ao ?_
 refine cp aO (pg) ?_
 refine eN [5] rfl rfl (.mk (caps:=[.ba (.agg [aa c,aa e])]) (.cons (.aF rfl rfl rfl cs (cr cs rfl) pu rfl) .nil) (fun x hx=>by rw [fP.1 hx];exact⟨rfl,rfl⟩)) rfl ?_
 refine bM rfl (.cons (.pure hq2) (.cons (.pure (show LV.pure (.bQ 85 [.ba (.agg [aa c,aa e])])=true by simp [LV.pure,aK,an.pure])) .nil)) (hI2) ?_
 refine cp aO (zT) ?_
 refine a7 ?_
 exact qE [] rfl rfl rfl cs (cr cs rfl) nd (.pure hq4) rfl (.pure rfl)
theorem aEL {p q:List Rat} {R:Nat} (h:p.length-1+(q.length-1)<=40) (jf:p.length<=41) (jF:q.length<=41) (fa:1<=R) (oP:∀ x∈p,rl x<=R) (sX:∀ x∈q,rl x<=R):∀ x∈l7 p q,rl x<=p.length*(q.length*(2*R+5))+5:=fun x hx=>by
 obtain⟨k,hk,rfl⟩:=ga.1 hx
 have hS:=ae0 jf jF fa oP sX p.length
 have mB:=gQ J hS k
 have yu:=gQ (S:=2) ai (ye (n:=p.length-1+(q.length-1)) h) k
 have h3:=pH ((allM p q p.length).getD k 0) ((ij (p.length-1+(q.length-1))).getD k 0)
 omega
theorem arQ {p q:List Rat} {R a b:Nat} (ha:p.length=a) (hb:q.length=b) (h1:a*b<=30) (h2:a<=6) (h3:b<=6) (fa:1<=R) (oP:∀ x∈p,rl x<=R) (sX:∀ x∈q,rl x<=R):∀ x∈l7 p q,rl x<=60*R+155:=fun x hx=>by
 have h:=aEL J J J fa oP sX x hx
 rw [ha,hb,<-fJ] at h
 have:a*b*(2*R+5)<=30*(2*R+5):=Nat.mul_le_mul_right _ h1
 omega
structure nJ (po:List ar) (d R:Nat):Prop where
 c:rT po d R
 d5:d<=5
 R1:1<=R
 R2:R<=1000
section
variable {po:List ar} {d R:Nat} (h:nJ po d R)
include h
theorem nJ.n (k:Nat):(bn po k).length=d+1/\∀ x∈bn po k,rl x<=2*R:=⟨by rw [qZ,h.c.hl],ahO h.c.ok k⟩
theorem nJ.w:(aZ po).length=d+1/\∀ x∈aZ po,rl x<=R:=⟨by rw [vX,h.c.hl],ahv h.c.ok⟩
theorem nJ.dn (k:Nat):(gf (bn po k)).length=d/\∀ x∈gf (bn po k),rl x<=4*R+4:=by
 obtain⟨h1,h2⟩:=h.n k
 have:=h.c.hd
 have:=h.d5
 have:=h.R1
 exact⟨by rw [abk,h1,if_neg J];omega,fun x hx=>bb (abu J J h2 x hx) J⟩
theorem nJ.dw:(gf (aZ po)).length=d/\∀ x∈gf (aZ po),rl x<=4*R+4:=by
 obtain⟨h1,h2⟩:=h.w
 have:=h.c.hd
 have:=h.d5
 exact⟨by rw [abk,h1,if_neg J];omega,fun x hx=>bb (abu h.R1 J h2 x hx) J⟩
theorem nJ.dd:d*(d+1)<=30:=bb (Nat.mul_le_mul h.d5 (show d+1<=6 by have:=h.d5;omega)) ai
theorem nJ.m1 (k:Nat):(l7 (gf (bn po k)) (aZ po)).length=2*d-1+1/\∀ x∈l7 (gf (bn po k)) (aZ po),rl x<=240*R+395:=by
 obtain⟨h1,h2⟩:=h.dn k
 obtain⟨h3,h4⟩:=h.w
 have:=h.c.hd
 have:=h.d5
 have h9:=h.dd
 exact⟨by rw [aaG,h1,h3];omega,fun x hx=>bb (arQ h1 h3 h9 J J J h2 (fun x hx=>bb (h4 x hx) J) x hx) J⟩
theorem nJ.m2 (k:Nat):(l7 (bn po k) (gf (aZ po))).length=2*d-1+1/\∀ x∈l7 (bn po k) (gf (aZ po)),rl x<=240*R+395:=by
 obtain⟨h1,h2⟩:=h.n k
 obtain⟨h3,h4⟩:=h.dw
 have:=h.c.hd
 have:=h.d5
 have h9:=h.dd
 exact⟨by rw [aaG,h1,h3];omega,fun x hx=>bb (arQ h1 h3 (by rw [eH];exact h9) J J J (fun x hx=>bb (h2 x hx) J) h4 x hx) J⟩
theorem nJ.t (k:Nat):(fZ po k).length=2*d-1+1/\∀ x∈fZ po k,rl x<=480*R+791:=by
 obtain⟨h1,h2⟩:=h.m1 k
 obtain⟨_,h4⟩:=h.m2 k
 exact⟨by rw [fZ,af4,h1],fun x hx=>bb (aso fD J h2 h4 x hx) J⟩
theorem nJ.lo:0<(de (aZ po)).1:=by
 have hl:=vX po
 have h0:0<(aZ po).length:=by rw [hl,h.c.hl];omega
 obtain⟨i,hi,e⟩:=((aec (aZ po) (aZ po).length).2 h0).1
 show 0<(kJ (aZ po) (aZ po).length).1
 rw [e]
 obtain⟨q,hq,hw⟩:=ga.1 (eU (p:=aZ po) hi)
 rw [<-hw]
 exact(h.c.ok q hq).2.2
theorem nJ.sq:dg (2*R) (iU (de (aZ po)))/\jr (iU (de (aZ po))) 0=false:=by
 have h0:0<(aZ po).length:=by rw [vX,h.c.hl];omega
 exact⟨atJ (zM h.R1 h.w.2) h.R1,(sq_pos h.lo (atA h0)).2⟩
theorem nJ.bt (k:Nat):dg (480*R+791) (de (fZ po k)):=zM J (h.t k).2
theorem nJ.qu (k:Nat):dg (482*R+792) (k6 (de (fZ po k)) (iU (de (aZ po)))):=(ae9 (h.bt k) h.sq.1).le J
end
def zB (W:Rat) (po:List ar) (k:Nat):Rat × Rat:=k6 (k6 (de (fZ po k)) (iU (de (aZ po)))) (W,W)
def ada (W:Rat) (po:List ar):jt:=⟨zB W po 0,zB W po 1,zB W po 2⟩
theorem aCS {W:Rat} (h:W≠0):jr (W,W) 0=false:=by
 unfold jr
 rcases(show W<0\/0<W by grind) with g | g
 ·rw [decide_eq_true (by show W<=0;grind),decide_eq_false (by show ¬(0<=W);grind)];rfl
 ·rw [decide_eq_false (by show ¬(W<=0);grind)];rfl
def adD (W:Rat) (po:List ar) (x:Rat):V3:=kK (1/(W*(eB (aZ po) x*eB (aZ po) x))) ⟨eB (fZ po 0) x,eB (fZ po 1) x,eB (fZ po 2) x⟩
open ig in
theorem aww (d:Nat) (kn:List Rat) (po:List ar) (R:Nat) (h:nJ po d R):ax ak 194 [.agg [ae d,.list 3 (kn.map aa),.list 12 (po.map bm)]] (.agg [.list 3 ((fZ po 0).map aa),.list 3 ((fZ po 1).map aa),.list 3 ((fZ po 2).map aa)]):=by
 have hl:=h.c.hl
 have hd:=h.c.hd
 have h6:=h.c.h6
 have h5:=h.d5
 have fa:=h.R1
 have hR2:=h.R2
 have fx:LV.pure (.agg [ae d,.list 3 (kn.map aa),.list 12 (po.map bm)])=true:=by simp [LV.pure,aK,aP an,aP bz]
 have w1:=h.w
 have w2:=h.dw
 have n0:=h.n 0
 have d0:=h.dn 0
 have p0a:=h.m1 0
 have p0b:=h.m2 0
 have n1:=h.n 1
 have d1:=h.dn 1
 have p1a:=h.m1 1
 have p1b:=h.m2 1
 have n2:=h.n 2
 have d2:=h.dn 2
 have p2a:=h.m1 2
 have p2b:=h.m2 2
 refine aR Tryz.func194 (ht:=(fun g=>LV.cQ g _ (by simp [LV.pure,aK,aP an]))) ?_
 refine bB ?_
 refine cp aO (ahB d kn po R J h.c) ?_
 refine bg ?_
 refine cp aO (ac5 (aZ po) J (fun x hx=>bb ((w1).2 x hx) J)) ?_
 refine eQ ?_
 refine bc ?_
 refine ay ?_
 refine bI (b:=_) rfl ai ?_
 refine bh ?_
 refine aY 15 al ?_
 refine aB ?_
 refine cp aO (ac5 (bn po 0) J (fun x hx=>bb ((n0).2 x hx) J)) ?_
 refine aH ?_
 refine cp au (acG (gf (bn po 0)) (aZ po) (4*R+4) J J J J J (fun x hx=>bb ((d0).2 x hx) J) (fun x hx=>bb ((w1).2 x hx) J)) ?_
 refine aB ?_
 refine cp au (acG (bn po 0) (gf (aZ po)) (4*R+4) J J J J J (fun x hx=>bb ((n0).2 x hx) J) (fun x hx=>bb ((w2).2 x hx) J)) ?_
 refine cp au (amF _ _ (2*d-1) J p0a.1 p0b.1 (fun x hx=>bb ((p0a).2 x hx) J) (fun x hx=>bb ((p0b).2 x hx) J)) ?_
 refine bh ?_
 refine bc ?_
 refine ay ?_
 refine bI (b:=_) rfl ai ?_
 refine bh ?_
 refine aY 15 al ?_
 refine aB ?_
 refine cp aO (ac5 (bn po 1) J (fun x hx=>bb ((n1).2 x hx) J)) ?_
 refine aH ?_
 refine cp au (acG (gf (bn po 1)) (aZ po) (4*R+4) J J J J J (fun x hx=>bb ((d1).2 x hx) J) (fun x hx=>bb ((w1).2 x hx) J)) ?_
 refine aB ?_
 refine cp au (acG (bn po 1) (gf (aZ po)) (4*R+4) J J J J J (fun x hx=>bb ((n1).2 x hx) J) (fun x hx=>bb ((w2).2 x hx) J)) ?_
 refine cp au (amF _ _ (2*d-1) J p1a.1 p1b.1 (fun x hx=>bb ((p1a).2 x hx) J) (fun x hx=>bb ((p1b).2 x hx) J)) ?_
 refine bh ?_
 refine bc ?_
 refine ay ?_
 refine bI (b:=_) rfl ai ?_
 refine bh ?_
 refine aY 15 al ?_
 refine aB ?_
 refine cp aO (ac5 (bn po 2) J (fun x hx=>bb ((n2).2 x hx) J)) ?_
 refine aH ?_
 refine cp au (acG (gf (bn po 2)) (aZ po) (4*R+4) J J J J J (fun x hx=>bb ((d2).2 x hx) J) (fun x hx=>bb ((w1).2 x hx) J)) ?_
 refine aB ?_
 refine cp au (acG (bn po 2) (gf (aZ po)) (4*R+4) J J J J J (fun x hx=>bb ((n2).2 x hx) J) (fun x hx=>bb ((w2).2 x hx) J)) ?_
 refine cp au (amF _ _ (2*d-1) J p2a.1 p2b.1 (fun x hx=>bb ((p2a).2 x hx) J) (fun x hx=>bb ((p2b).2 x hx) J)) ?_
 refine bh ?_
 refine bc ?_
 refine ay ?_
 refine dp (b:=_) rfl ai ?_
 refine bw ?_
 exact fi [] rfl rfl rfl cs (cr cs rfl) apC (.pure (by simp [LV.pure,aK,aP an]))
open ig in
theorem aIn (d:Nat) (a b:Rat) (po:List ar) (ha:rl a<=100) (hb:rl b<=100) (cY:a<b) (h9:d<=6) (R:Nat) (h:nJ po d R):ax ak 114 [.agg [ae d,.list 3 ((aA d a b).map aa),.list 12 (po.map bm)]] (fY (ada (b-a) po)):=by
 have hl:=h.c.hl
 have hd:=h.c.hd
 have h6:=h.c.h6
 have h5:=h.d5
 have fa:=h.R1
 have hR2:=h.R2
 have kI:∀ l:List Rat,aK (l.map aa)=true:=fun l=>aP an l
 have jb:=gW d a b
 have cq:=yN d a b
 have iZ:=abo d a b
 have fx:LV.pure (.agg [ae d,.list 3 ((aA d a b).map aa),.list 12 (po.map bm)])=true:=by simp [LV.pure,aK,aP an,aP bz]
 have w1:=h.w
 have wT:=h.sq
 have hzW:=fD b a
 have hbW:dg 1000 (b-a,b-a):=⟨by show rl (b-a)<=_;omega,by show rl (b-a)<=_;omega⟩
 have hnW:jr (b-a,b-a) 0=false:=aCS dz
 have u0:=h.t 0
 have qq0:=(h.qu 0).le (show 482*R+792<=1000000 by omega)
 have bb0:=(h.bt 0).le (show 480*R+791<=1000000 by omega)
 have u1:=h.t 1
 have qq1:=(h.qu 1).le (show 482*R+792<=1000000 by omega)
 have bb1:=(h.bt 1).le (show 480*R+791<=1000000 by omega)
 have u2:=h.t 2
 have qq2:=(h.qu 2).le (show 482*R+792<=1000000 by omega)
 have bb2:=(h.bt 2).le (show 480*R+791<=1000000 by omega)
 have hD:=ahg d a b po ha hb cY h9
 have hW:ax ak 137 [aD (a,b)] (aa (b-a)):=abF (a,b) (by show rl b+rl a<=_;omega)
 have z0:ax ak 161 [aD (k6 (de (fZ po 0)) (iU (de (aZ po)))),aD (b-a,b-a)] (.a9 [aD (zB (b-a) po 0),iL 0]):=vc (k6 (de (fZ po 0)) (iU (de (aZ po)))) (b-a,b-a) 1000000 ai qq0 (hbW.le ai) hnW
 have z1:ax ak 161 [aD (k6 (de (fZ po 1)) (iU (de (aZ po)))),aD (b-a,b-a)] (.a9 [aD (zB (b-a) po 1),iL 0]):=vc (k6 (de (fZ po 1)) (iU (de (aZ po)))) (b-a,b-a) 1000000 ai qq1 (hbW.le ai) hnW
 have z2:ax ak 161 [aD (k6 (de (fZ po 2)) (iU (de (aZ po)))),aD (b-a,b-a)] (.a9 [aD (zB (b-a) po 2),iL 0]):=vc (k6 (de (fZ po 2)) (iU (de (aZ po)))) (b-a,b-a) 1000000 ai qq2 (hbW.le ai) hnW
 refine aR Tryz.func114 (ht:=(fun r=>LV.cQ r _ (og.pure _))) ?_
 refine df ?_
 refine cp aO (hD) ?_
 refine cp aO (hW) ?_
 refine cp aO (nD (b-a) J) ?_
 refine bf ?_
 refine cp aO (ahB d (aA d a b) po R J h.c) ?_
 refine ao ?_
 refine cp aO (ah9 (aZ po) J (fun x hx=>bb ((w1).2 x hx) J)) ?_
 refine cp aO (ayc (de (aZ po)) R J (zM J w1.2)) ?_
 refine bg ?_
 refine cp aO (aww d (aA d a b) po R h) ?_
 refine aB ?_
 refine bc ?_
 refine ay ?_
 refine bI (b:=_) rfl ai ?_
 refine dk ?_
 refine eZ 8 [6] al ?_
 refine ao ?_
 refine cp aO (ah9 (fZ po 0) J (fun x hx=>bb ((u0).2 x hx) J)) ?_
 refine ao ?_
 refine cp au (vc (de (fZ po 0)) (iU (de (aZ po))) 1000000 ai bb0 (wT.1.le J) wT.2) ?_
 refine bw ?_
 refine cp au (z0) ?_
 refine bg ?_
 refine bR (az.kill _ 8) ?_
 refine aB ?_
 refine bc ?_
 refine ay ?_
 refine bI (b:=_) rfl ai ?_
 refine dk ?_
 refine eZ 8 [6] al ?_
 refine ao ?_
 refine cp aO (ah9 (fZ po 1) J (fun x hx=>bb ((u1).2 x hx) J)) ?_
 refine ao ?_
 refine cp au (vc (de (fZ po 1)) (iU (de (aZ po))) 1000000 ai bb1 (wT.1.le J) wT.2) ?_
 refine bw ?_
 refine cp au (z1) ?_
 refine bg ?_
 refine bR (az.kill _ 8) ?_
 refine aB ?_
 refine bc ?_
 refine ay ?_
 refine bI (b:=_) rfl ai ?_
 refine dk ?_
 refine eZ 8 [6] al ?_
 refine ao ?_
 refine cp aO (ah9 (fZ po 2) J (fun x hx=>bb ((u2).2 x hx) J)) ?_
 refine ao ?_
 refine cp au (vc (de (fZ po 2)) (iU (de (aZ po))) 1000000 ai bb2 (wT.1.le J) wT.2) ?_
 refine bw ?_
 refine cp au (z2) ?_
 refine bg ?_
 refine bR (az.kill _ 8) ?_
 refine aB ?_
 refine bc ?_
 refine ay ?_
 refine dp (b:=_) rfl ai ?_
 refine bw ?_
 exact aeF
open ig in
theorem aEM (d:Nat) (a b:Rat) (po:List ar) (ha:rl a<=100) (hb:rl b<=100) (cY:a<b) (h9:d<=6) (R:Nat) (h:nJ po d R) (t x:Rat) (ht:rl t<=100) (h1:a<=t) (h2:t<=b) (hx:(t-a)/(b-a)=x) (zp:rl x<=1000):ax ak 200 [.agg [ae d,.list 3 ((aA d a b).map aa),.list 12 (po.map bm)],aa t] (.a9 [aE (adD (b-a) po x),iL 0]):=by
 have lA:0<po.length:=by have:=h.c.hl;omega
 have hl:=h.c.hl
 have hd:=h.c.hd
 have h6:=h.c.h6
 have h5:=h.d5
 have fa:=h.R1
 have hR2:=h.R2
 have kI:∀ l:List Rat,aK (l.map aa)=true:=fun l=>aP an l
 have jb:=gW d a b
 have cq:=yN d a b
 have iZ:=abo d a b
 have fx:LV.pure (.agg [ae d,.list 3 ((aA d a b).map aa),.list 12 (po.map bm)])=true:=by simp [LV.pure,aK,aP an,aP bz]
 have w1:=h.w
 have dx:HS (aZ po) x:=aht J (fun y hy=>bb (w1.2 y hy) J) J
 have q0:=dx.ev
 have hzW:=fD b a
 have m0:=cM (eB (aZ po) x) (eB (aZ po) x)
 have m2:=cM (b-a) ((eB (aZ po) x)*(eB (aZ po) x))
 have m1:=pH 1 ((b-a)*((eB (aZ po) x)*(eB (aZ po) x)))
 have gk:rl 1=1:=rfl
 have u0:=h.t 0
 have v0:HS (fZ po 0) x:=aht J (fun y hy=>bb (u0.2 y hy) J) J
 have y0:=v0.ev
 have u1:=h.t 1
 have v1:HS (fZ po 1) x:=aht J (fun y hy=>bb (u1.2 y hy) J) J
 have y1:=v1.ev
 have u2:=h.t 2
 have v2:HS (fZ po 2) x:=aht J (fun y hy=>bb (u2.2 y hy) J) J
 have y2:=v2.ev
 have xR:ax ak 187 [iL 1] (aa 1):=rZ 1 ai ai
 refine aR Tryz.func200 (ht:=(iF (aX.pure _) rfl)) ?_
 refine bw ?_
 refine cp au (an2 d a b po ha hb cY h9 t x ht h1 h2 hx lA) ?_
 refine nO ?_
 refine aL rfl ?_ ?_<;>intro tD rf
 ·first | exact rf.elim | cases tD
 ·refine aQ ?_
  refine aY 6 al ?_
  refine ao ?_
  refine cp aO (ahB d (aA d a b) po R J h.c) ?_
  refine aH ?_
  refine cp au (acN (aZ po) x dx J) ?_
  refine a7 ?_
  refine eZ 11 [9] al ?_
  refine cp aO (xR) ?_
  refine aQ ?_
  refine cp au (ef (eB (aZ po) x) (eB (aZ po) x) J) ?_
  refine cp au (ef (b-a) ((eB (aZ po) x)*(eB (aZ po) x)) J) ?_
  refine cp au (sH 1 ((b-a)*((eB (aZ po) x)*(eB (aZ po) x))) J) ?_
  refine iY ?_
  refine cp aO (aww d (aA d a b) po R h) ?_
  refine aB ?_
  refine bc ?_
  refine ay ?_
  refine bI (b:=_) rfl ai ?_
  refine bw ?_
  refine aY 7 al ?_
  refine aB ?_
  refine cp au (acN (fZ po 0) x v0 J) ?_
  refine cp au (ef (1/((b-a)*((eB (aZ po) x)*(eB (aZ po) x)))) (eB (fZ po 0) x) J) ?_
  refine bh ?_
  refine bc ?_
  refine ay ?_
  refine bI (b:=_) rfl ai ?_
  refine bw ?_
  refine aY 7 al ?_
  refine aB ?_
  refine cp au (acN (fZ po 1) x v1 J) ?_
  refine cp au (ef (1/((b-a)*((eB (aZ po) x)*(eB (aZ po) x)))) (eB (fZ po 1) x) J) ?_
  refine bh ?_
  refine bc ?_
  refine ay ?_
  refine bI (b:=_) rfl ai ?_
  refine bw ?_
  refine aY 7 al ?_
  refine aB ?_
  refine cp au (acN (fZ po 2) x v2 J) ?_
  refine cp au (ef (1/((b-a)*((eB (aZ po) x)*(eB (aZ po) x)))) (eB (fZ po 2) x) J) ?_
  refine bh ?_
  refine bc ?_
  refine ay ?_
  refine dp (b:=_) rfl ai ?_
  refine dk ?_
  exact qE [] rfl rfl rfl cs (cr cs rfl) iQ (.pure pu) rfl (.pure rfl)
abbrev Sp:=Rat × Rat
abbrev fR:=List Sp × Nat × List Int
abbrev jc:=List Sp × List Sp × Nat × Nat
def gq (s:Sp):Rat:=(s.1+s.2)/2
def sO (s:Sp):Sp:=(s.1,gq s)
def tM (s:Sp):Sp:=(gq s,s.2)
def yx (t:List Int):Nat->Nat
 | 0=>0
 | k+1=>if t.getD k 0<t.getD (yx t k) 0 then k else yx t k
theorem adh {t:List Int}:∀ k,k<=t.length->0<t.length->yx t k<t.length
 | 0,_,h=>h
 | k+1,h,h0=>by
   have:=adh k J h0
   unfold yx;split<;>omega
def fw (x:fR):Nat:=yx x.2.2 x.2.2.length
def yj (x:fR) (s:Sp):fR:=(x.1.set (fw x) s,x.2.1+1,x.2.2.set (fw x) (x.2.2.getD (fw x) 0+1))
def oY (x:fR):fR:=yj x (sO (x.1.getD (fw x) default))
def pF (x:fR):fR:=yj x (tM (x.1.getD (fw x) default))
def aaz (l:List Sp) (w:Rat):Bool:=l.any fun s=>decide (w<s.2-s.1)
abbrev pq:=List Sp->List Sp->Bool × Nat × Nat
abbrev RunT:=List fR × Nat × List jc
def k9 (v:Bool × Nat × Nat):Nat:=if v.2.1=0 then 1 else v.2.1
def kV (v:Bool × Nat × Nat):Nat:=if v.2.1=0 then 0 else v.2.2
def uf (na:Nat) (x:fR) (v:Bool × Nat × Nat):jc:=(x.1.take na,x.1.drop na,k9 v,kV v)
def ou (D:Nat) (wd:Rat) (x:fR) (v:Bool × Nat × Nat):Bool :=
 (decide (k9 v=3\/k9 v=4) && (decide (wd=0) || !aaz x.1 wd)) || decide (D<=x.2.1)
def nq (D W na:Nat) (wd:Rat) (lk:pq):RunT->RunT
 | ([],n,cs)=>([],n,cs)
 | (x :: st,n,cs) =>
  if W<=n then(st,n,cs++[uf na x (false,0,0)])
  else if (lk (x.1.take na) (x.1.drop na)).1 then(st,n+1,cs)
  else if ou D wd x (lk (x.1.take na) (x.1.drop na)) then(st,n+1,cs++[uf na x (lk (x.1.take na) (x.1.drop na))])
  else(oY x :: pF x :: st,n+1,cs)
def afx (D W na:Nat) (wd:Rat) (lk:pq):Nat->RunT->RunT
 | 0,s=>s
 | k+1,s=>afx D W na wd lk k (nq D W na wd lk s)
def uq (D:Nat) (x:fR):Nat:=2*2 ^ (D-x.2.1)-1
def gV (D:Nat) (st:List fR):Nat:=(st.map (uq D)).sum
theorem afp (D:Nat) (x:fR):1<=uq D x:=by
 unfold uq
 have:=amC (n:=D-x.2.1)
 omega
theorem au3 {D:Nat} {x:fR} {s s':Sp} (h:x.2.1<D):uq D (yj x s)+uq D (yj x s')<uq D x:=by
 simp only [uq,yj]
 have h1:=amC (n:=D-(x.2.1+1))
 have h2:2 ^ (D-x.2.1)=2*2 ^ (D-(x.2.1+1)):=by
  rw [show D-x.2.1=(D-(x.2.1+1))+1 by omega,jw,eH]
 omega
theorem aIW {D:Nat} {wd:Rat} {x:fR} {v:Bool × Nat × Nat} (h:ou D wd x v=false):x.2.1<D:=by
 unfold ou at h
 simp only [Bool.or_eq_false_iff,decide_eq_false_iff_not] at h
 omega
theorem amc {D W na:Nat} {wd:Rat} {lk:pq} {x:fR} {st:List fR} {n:Nat} {cs:List jc}:gV D (nq D W na wd lk (x :: st,n,cs)).1<gV D (x :: st):=by
 have hw:=afp D x
 have hmu:gV D (x :: st)=uq D x+gV D st:=by simp [gV]
 rw [nq]
 split
 ·show gV D st<_;omega
 ·split
  ·show gV D st<_;omega
  ·split
   ·show gV D st<_;omega
   ·rename_i h
    have hd:=aIW nP
    have:=au3 (x:=x) (s:=sO (x.1.getD (fw x) default)) (s':=tM (x.1.getD (fw x) default)) hd
    have e:gV D (oY x :: pF x :: st)=uq D (oY x)+(uq D (pF x)+gV D st):=by simp [gV]
    show gV D (oY x :: pF x :: st)<_
    rw [e,hmu]
    unfold oY pF
    omega
theorem auT {D W na:Nat} {wd:Rat} {lk:pq} {n:Nat} {cs:List jc}:∀ k,afx D W na wd lk k ([],n,cs)=([],n,cs)
 | 0=>rfl
 | k+1=>by rw [afx,nq,auT k]
def aa1 (D W na:Nat) (wd:Rat) (lk:pq) (s R:RunT):Prop:=∃ k,gV D s.1<=k/\afx D W na wd lk k s=R
theorem aa1.step {D W na:Nat} {wd:Rat} {lk:pq} {x:fR} {st:List fR} {n:Nat} {cs:List jc} {R:RunT} (h:aa1 D W na wd lk (x :: st,n,cs) R) :
  aa1 D W na wd lk (nq D W na wd lk (x :: st,n,cs)) R:=by
 obtain⟨k,h1,h2⟩:=h
 have hmu:gV D (x :: st)=uq D x+gV D st:=by simp [gV]
 have hw:=afp D x
 match k,h1,h2 with
 | 0,h1,_=>exact absurd (show gV D (x :: st)<=0 from h1) J
 | k+1,h1,h2 =>
  have:=amc (D:=D) (W:=W) (na:=na) (wd:=wd) (lk:=lk) (x:=x) (st:=st) (n:=n) (cs:=cs)
  exact⟨k,by have:gV D (x :: st)<=k+1:=h1;omega,h2⟩
theorem aa1.nil {D W na:Nat} {wd:Rat} {lk:pq} {n:Nat} {cs:List jc} {R:RunT} (h:aa1 D W na wd lk ([],n,cs) R):R=([],n,cs):=by
 obtain⟨k,_,h2⟩:=h
 rw [auT] at h2;exact h2.symm
def tH (D W na:Nat) (wd:Rat) (lk:pq) (s:RunT):RunT:=afx D W na wd lk (gV D s.1) s
theorem afn (D W na:Nat) (wd:Rat) (lk:pq) (s:RunT):aa1 D W na wd lk s (tH D W na wd lk s):=⟨_,bF _,rfl⟩
theorem akG {D W na:Nat} {wd:Rat} {lk:pq} (I:RunT->Prop) (hI:∀ x st n cs,I (x :: st,n,cs)->I (nq D W na wd lk (x :: st,n,cs))) :
  ∀ (m:Nat) {s R:RunT},gV D s.1<=m->I s->aa1 D W na wd lk s R->I R/\R.1=[]
 | m,([],n,cs),R,_,hs,h=>by rw [h.nil];exact⟨hs,rfl⟩
 | 0,(x :: st,n,cs),R,hm,_,_=>by
   have hmu:gV D (x :: st)=uq D x+gV D st:=by simp [gV]
   have hw:=afp D x
   exact absurd (show gV D (x :: st)<=0 from hm) J
 | m+1,(x :: st,n,cs),R,hm,hs,h=>by
   have:=amc (D:=D) (W:=W) (na:=na) (wd:=wd) (lk:=lk) (x:=x) (st:=st) (n:=n) (cs:=cs)
   exact akG I hI m (by have:gV D (x :: st)<=m+1:=hm;omega) (hI x st n cs hs) h.step
def vR (a u:V3) (s:Rat):V3:=ym a (kK s u)
def rC (a u:V3) (s t:Rat):List ar:=[⟨vR a u s,1⟩,⟨vR a u t,1⟩]
theorem aHZ (a u:V3) (s:Rat) (k:Nat):(vR a u s).at k=a.at k+s*u.at k:=by
 unfold V3.at
 split<;>rfl
theorem atI (a u:V3) (s t:Rat) (k:Nat):bn (rC a u s t) k=[a.at k+s*u.at k,a.at k+t*u.at k]:=by
 simp only [bn,rC,lI,wL,aHZ,tu]
theorem agq (a u:V3) (s t:Rat):aZ (rC a u s t)=[1,1]:=rfl
theorem ch1:ij 1=[1,1]:=by decide +kernel
theorem ch0:ij 0=[1]:=by decide +kernel
theorem lo2 (p q t:Rat):nK [p,q] t=[p,p+t*(q-p)]:=by
 simp only [nK,l8,acJ,wG,jd]
 simp
 grind
theorem dq (p q t:Rat):mS [p,q] t=[p+t*(q-p),q]:=by
 simp only [mS,l8,acJ,uJ,jd]
 simp
 grind
theorem as5 (p q x y:Rat) (h:x<1):fG [p,q] x y=[p+x*(q-p),p+y*(q-p)]:=by
 unfold fG
 rw [if_neg dz,dq,lo2]
 have h1:(1-x)*((y-x)/(1-x))=y-x:=by
  rw [zD,lD dz]
 congr 1
 congr 1
 have:(y-x)/(1-x)*(q-(p+x*(q-p)))=(1-x)*((y-x)/(1-x))*(q-p):=by grind
 rw [this,h1]
 grind
theorem aJO (a u:V3) (x y:Rat) (h:x<1):nS (rC a u 0 1) x y=rC a u x y:=by
 have hn:∀ k,fG (bn (rC a u 0 1) k) x y=[a.at k+x*u.at k,a.at k+y*u.at k]:=fun k=>by
  rw [atI,as5 _ _ _ _ h]
  congr 1
  ·grind
  ·congr 1;grind
 have hw:fG (aZ (rC a u 0 1)) x y=[1,1]:=by
  rw [agq,as5 _ _ _ _ h]
  congr 1
  ·grind
  ·congr 1;grind
 have hc:∀ (q:Rat),q/1=q:=fun q=>by grind
 have h0:wc (rC a u 0 1) x y 0=⟨vR a u x,1⟩:=by
  unfold wc
  rw [hn 0,hn 1,hn 2,hw]
  simp only [zy,hc]
  rfl
 have h1:wc (rC a u 0 1) x y 1=⟨vR a u y,1⟩:=by
  unfold wc
  rw [hn 0,hn 1,hn 2,hw]
  simp only [aaD,zy,hc]
  rfl
 show [wc (rC a u 0 1) x y 0,wc (rC a u 0 1) x y 1]=_
 rw [h0,h1];rfl
theorem ar3 (p q:Rat):gf [p,q]=[q-p]:=by
 show [((1:Int):Rat)*(q-p)]=_
 rw [show ((1:Int):Rat)=1 from rfl,tu]
theorem azY (x p q:Rat):l7 [x] [p,q]=[x*p,x*q]:=by
 unfold l7
 simp only [l8,acJ,wz,awg,allM,wE,ch0,ch1]
 have e:fe 2=[0,1]:=rfl
 simp only [e,lI,wL,zy,aaD,aV,aq5,afs,fg]
 congr 1
 ·grind
 ·congr 1;grind
theorem aGK (x p q:Rat):l7 [p,q] [x]=[p*x,q*x]:=by
 unfold l7
 simp only [l8,acJ,wz,awg,allM,wE,ch0,ch1]
 have e:fe 2=[0,1]:=rfl
 simp only [e,lI,wL,zy,aaD,aV,aq5,afs,fg,Nat.add_zero]
 congr 1
 ·grind
 ·congr 1;grind
theorem agW (a u:V3) (s t:Rat) (k:Nat):fZ (rC a u s t) k=[(t-s)*u.at k,(t-s)*u.at k]:=by
 unfold fZ
 rw [atI,agq,ar3,ar3,azY,aGK]
 show [_,_]=_
 congr 1
 ·grind
 ·congr 1;grind
theorem ad3 (p:Rat):de [p,p]=(p,p):=by
 simp only [de,l8,acJ,kJ,iV,eM,er]
 simp
theorem aew (p q:Rat):kz (p,p) (q,q)=(p*q,p*q):=by
 simp only [kz,iV,eM,er]
 simp
theorem aoJ (p q:Rat):k6 (p,p) (q,q)=(p*(1/q),p*(1/q)):=by
 unfold k6 rcS
 rw [show eM (1/q) (1/q)=1/q from by simp [eM],show er (1/q) (1/q)=1/q from by simp [er],aew]
theorem alL (a u:V3) (s t:Rat) (h:s<t) (k:Nat):zB (t-s) (rC a u s t) k=(u.at k,u.at k):=by
 unfold zB
 rw [agW,agq,ad3,ad3,show iU (1,1)=(1,1) from by decide +kernel,aoJ,aoJ]
 have h1:(t-s)*(1/(t-s))=1:=by rw [zD,lD dz]
 have h2:(1:Rat)/1=1:=by decide +kernel
 have e:(t-s)*u.at k*(1/1)*(1/(t-s))=(t-s)*(1/(t-s))*u.at k:=by rw [h2];grind
 rw [e,h1,tu]
theorem ev2 (p t:Rat):eB [p,p] t=p:=by
 show (nK [p,p] t).getD 1 0=p
 rw [lo2]
 show p+t*(p-p)=p
 grind
theorem aAv (a u:V3) (s t x:Rat) (h:s<t):adD (t-s) (rC a u s t) x=u:=by
 unfold adD
 rw [agq,agW,agW,agW,ev2,ev2,ev2,ev2]
 have h1:1/((t-s)*(1*1))*(t-s)=1:=by
  rw [tu,vv,lD dz]
 have e:∀ q:Rat,1/((t-s)*(1*1))*((t-s)*q)=q:=fun q=>by rw [<-ady,h1,tu]
 unfold kK
 simp only [e]
 rfl
def ngS (s:Rat × Rat):Rat × Rat:=(-s.2,-s.1)
def adS (s t:Rat × Rat):Rat × Rat:=(s.1+t.1,s.2+t.2)
def pj (b:jt):jt:=⟨ngS b.x,ngS b.y,ngS b.z⟩
def qQ (p q r s:Rat × Rat):Rat × Rat:=vS (kz p s) (kz q r)
def d3S (a b c:jt):Rat × Rat:=adS (vS (kz a.x (qQ b.y c.y b.z c.z)) (kz b.x (qQ a.y c.y a.z c.z))) (kz c.x (qQ a.y b.y a.z b.z))
def mo (s t:Rat × Rat):Bool:=decide (er s.1 t.1<=eM s.2 t.2)
def meB (a b:jt):Bool:=mo a.x b.x && mo a.y b.y && mo a.z b.z
def g8 (a b c:V3):Rat:=1/cJ a (jj b c)
def u4 (a b c:V3):V3:=⟨(kK (g8 a b c) (jj b c)).x,(kK (g8 a b c) (jj c a)).x,(kK (g8 a b c) (jj a b)).x⟩
def vd (a b c:V3):V3:=⟨(kK (g8 a b c) (jj b c)).y,(kK (g8 a b c) (jj c a)).y,(kK (g8 a b c) (jj a b)).y⟩
def vy (a b c:V3):V3:=⟨(kK (g8 a b c) (jj b c)).z,(kK (g8 a b c) (jj c a)).z,(kK (g8 a b c) (jj a b)).z⟩
def wQ (r:V3) (l:List V3):Rat × Rat:=de (l.map (cJ r))
def fC (r:V3) (p q:List V3):Rat × Rat:=vS (wQ r p) (wQ r q)
def nk (s t:Rat × Rat):Bool:=decide (di s.1=di s.2) && decide (di t.1=di t.2) && decide (di s.1*di t.1<0)
def crV (u v:V3):Rat:=u.x*v.y-u.y*v.x
section
variable {u v:V3} (h:crV u v≠0)
include h
end
theorem aJD (p:Rat):de [p]=(p,p):=by
 simp only [de,l8,acJ,kJ,iV,eM,er]
 simp
theorem azN (x y:Rat):nk (x,x) (y,y)=decide ((x<0/\0<y)\/(0<x/\y<0)):=by
 unfold nk
 simp only [decide_true,Bool.true_and]
 congr 1
 apply propext
 unfold di
 rcases(show x<0\/x=0\/0<x by grind) with hx | hx | hx<;>rcases(show y<0\/y=0\/0<y by grind) with hy | hy | hy
 all_goals first | (subst hx;simp;grind) | (subst hy;simp;grind) | (have e1:¬x=0:=dz;have e2:¬y=0:=dz;simp [hx,hy,e1,e2];grind) | grind
def kA (n:Nat) (q:Rat):Prop:=∃ z:Int,q=(z:Rat)/((2 ^ n:Nat):Int)
theorem two_pos (n:Nat):(0:Rat)<((2 ^ n:Nat):Int):=by
 have:=amC (n:=n)
 exact aq4.2 J
theorem aoV (n:Nat):(((2 ^ (n+1):Nat):Int):Rat)=((2 ^ n:Nat):Int)*2:=by
 rw [jw];push_cast;rfl
theorem kA.mul {n:Nat} {q:Rat} (h:kA n q):∃ z:Int,q*((2 ^ n:Nat):Int)=z:=by
 obtain⟨z,rfl⟩:=h
 exact⟨z,lD (by have:=two_pos n;grind)⟩
theorem kA.of {n:Nat} {q:Rat} {z:Int} (h:q*((2 ^ n:Nat):Int)=z):kA n q:=⟨z,by
 have:=two_pos n
 rw [<-h,aan dz]⟩
theorem kA.succ {n:Nat} {q:Rat} (h:kA n q):kA (n+1) q:=by
 obtain⟨z,e⟩:=h.mul
 refine kA.of (z:=z*2) ?_
 rw [aoV,<-ady,e];push_cast;rfl
theorem kA.md {n:Nat} {p q:Rat} (hp:kA n p) (hq:kA n q):kA (n+1) ((p+q)/2):=by
 obtain⟨z,e⟩:=hp.mul
 obtain⟨y,f⟩:=hq.mul
 refine kA.of (z:=z+y) ?_
 rw [aoV]
 have h2:(p+q)/2*2=p+q:=lD ai
 have:(p+q)/2*(((2 ^ n:Nat):Int)*2:Rat)=(p+q)/2*2*((2 ^ n:Nat):Int):=by grind
 rw [this,h2]
 push_cast
 push_cast at e f
 rw [<-e,<-f];grind
theorem kA.sub {n:Nat} {p q:Rat} (hp:kA n p) (hq:kA n q):kA n (p-q):=by
 obtain⟨z,e⟩:=hp.mul
 obtain⟨y,f⟩:=hq.mul
 refine kA.of (z:=z-y) ?_
 push_cast
 push_cast at e f
 rw [<-e,<-f];grind
theorem ax9 (z:Int):kA 0 (z:Rat):=⟨z,by
 have:(((2 ^ 0:Nat):Int):Rat)=1:=rfl
 rw [this];grind⟩
theorem kA.le {n m:Nat} {q:Rat} (h:kA n q) (hm:n<=m):kA m q:=by
 induction m with
 | zero =>
      obtain rfl:n=0:=by omega
      exact h
 | succ m ih =>
  rcases kD n (m+1) with g | g
  ·exact(ih J).succ
  ·obtain rfl:n=m+1:=by omega
   exact h
theorem kA.rl {n:Nat} {q:Rat} (h:kA n q) (hn:n<=24) (h1:-64<=q) (h2:q<=64):Go.Lg.rl q<=1:=by
 obtain⟨z,e⟩:=h.mul
 have hp:=two_pos n
 have qw:2 ^ n<=2 ^ 24:=Nat.pow_le_pow_right ai hn
 have qG:z<=64*((2 ^ n:Nat):Int):=by
  have:(z:Rat)<=((64*((2 ^ n:Nat):Int):Int):Rat):=by
   rw [<-e];rw [abx]
   exact ao7 h2 (mZ hp)
  exact asQ.1 this
 have r7:-64*((2 ^ n:Nat):Int)<=z:=by
  have:((-64*((2 ^ n:Nat):Int):Int):Rat)<=(z:Rat):=by
   rw [<-e];rw [abx]
   exact ao7 h1 (mZ hp)
  exact asQ.1 this
 have:q=(z:Rat)/((2 ^ n:Nat):Int):=by rw [<-e,aan dz]
 rw [this]
 exact aio J J
def cS:Sp:=(0,1)
section
variable {a u p v:V3}
end
def kH (x:fR):LV:=.agg [.list 6 (x.1.map aD),ae x.2.1,.list 1 (x.2.2.map eP)]
def iW (c:jc):LV:=.agg [.list 6 (c.1.map aD),.list 6 (c.2.1.map aD),ae c.2.2.1,ae c.2.2.2]
def vdL (v:Bool × Nat × Nat):LV:=.agg [.v (.bool v.1),ae v.2.1,ae v.2.2]
def prW (d w:Nat) (wd:Rat):LV:=.agg [ae d,ae w,aa wd]
theorem vm (x:fR):(kH x).pure=true:=by simp [kH,LV.pure,aK,aP bl,aP lQ]
theorem an9 (c:jc):(iW c).pure=true:=by simp [iW,LV.pure,aK,aP bl]
theorem aAr (v:Bool × Nat × Nat):(vdL v).pure=true:=by simp [vdL,LV.pure,aK]
theorem aG2 (d w:Nat) (wd:Rat):(prW d w wd).pure=true:=by simp [prW,LV.pure,aK,an.pure]
theorem aFI (x:fR):(kH x).av=3:=rfl
theorem aCb (c:jc):(iW c).av=4:=rfl
theorem adT:gY kH 3 true:=⟨aFI,fun _=>rfl,vm⟩
theorem ajn:gY iW 4 true:=⟨aCb,fun _=>rfl,an9⟩
theorem agZ (l:List jc):aK (l.map iW)=true:=aP ajn l
structure ak0 (P:Program) (f:Nat) (cap:List LV) (D na n:Nat) (lk:pq) (I:fR->Prop):Prop where
 len:∀ x,I x->x.1.length=n/\x.2.2.length=n
 tm:∀ x,I x->∀ t∈x.2.2,0<=t/\t<=1000
 dep:∀ x,I x->x.2.1<=D
 sp:∀ x,I x->∀ s∈x.1,dg 1000 s/\s.1<=s.2
 half:∀ x,I x->x.2.1<D->I (oY x)/\I (pF x)
 look:∀ x,I x->ax P f ([.list 6 ((x.1.take na).map aD),.list 6 ((x.1.drop na).map aD)]++cap) (vdL (lk (x.1.take na) (x.1.drop na)))
 kd:∀ x,I x->(lk (x.1.take na) (x.1.drop na)).2.1<=4/\(lk (x.1.take na) (x.1.drop na)).2.2<=4
def eY (n:Nat) (s:Sp):Prop:=kA n s.1/\kA n s.2/\0<=s.1/\s.1<s.2/\s.2<=1
def lR (D:Nat) (x:fR):Prop:=∃ (s t:Sp) (i j:Int),x.1=[s,t]/\x.2.2=[i,j]/\(0<=i/\i<=x.2.1/\0<=j/\j<=x.2.1)/\x.2.1<=D/\eY x.2.1 s/\eY x.2.1 t
theorem eY.succ {n:Nat} {s:Sp} (h:eY n s):eY (n+1) s:=⟨h.1.succ,h.2.1.succ,h.2.2⟩
theorem eY.half {n:Nat} {s:Sp} (h:eY n s):eY (n+1) (sO s)/\eY (n+1) (tM s):=by
 obtain⟨h1,h2,h3,h4,h5⟩:=h
 have hm:=h1.md h2
 have e:(s.1+s.2)/2*2=s.1+s.2:=lD ai
 unfold sO tM gq
 exact⟨⟨h1.succ,hm,h3,by show s.1<(s.1+s.2)/2;grind,by show (s.1+s.2)/2<=1;grind⟩,⟨hm,h2.succ,by show 0<=(s.1+s.2)/2;grind,by show (s.1+s.2)/2<s.2;grind,h5⟩⟩
theorem eY.rl {n:Nat} {s:Sp} (h:eY n s) (hn:n<=24):Go.Lg.rl s.1<=1/\Go.Lg.rl s.2<=1:=by
 obtain⟨h1,h2,h3,h4,h5⟩:=h
 exact⟨h1.rl hn dz dz,h2.rl hn dz dz⟩
def ik (D N:Nat) (x:Rat):Prop:=∃ z:Int,x*((D:Int):Rat)=(z:Rat)/\z.natAbs<=N
theorem aGp (m n:Nat):(((m*n:Nat):Int):Rat)=((m:Int):Rat)*((n:Int):Rat):=by push_cast;rfl
theorem aqS {D:Nat} (h:0<D):(0:Rat)<((D:Int):Rat):=aq4.2 J
theorem ik.rl {D N k:Nat} {x:Rat} (h:ik D N x) (hD:0<D) (hN:N<4294967296 ^ k) (fM:D<4294967296 ^ k) (hk:1<=k):Go.Lg.rl x<=k:=by
 obtain⟨z,e,hz⟩:=h
 have hp:=aqS hD
 have:x=(z:Rat)/((D:Int):Rat):=by rw [<-e,aan dz]
 rw [this,<-ae5]
 have:=abI (k:=k) (decide (z<0) != decide ((D:Int)<0)) (n:=z.natAbs) (d:=(D:Int).natAbs) J (by simpa using fM)
 omega
theorem ik.div {D N k:Nat} {x y:Rat} (h:ik D N x) (g:ik D N y) (hD:0<D) (hN:N<4294967296 ^ k) (hk:1<=k):Go.Lg.rl (x/y)<=k:=by
 obtain⟨z,e,hz⟩:=h
 obtain⟨u,f,hu⟩:=g
 have hp:=aqS hD
 have:x/y=(z:Rat)/(u:Rat):=by
  rw [<-e,<-f]
  by_cases hy:y=0
  ·subst hy;rw [akR,qh,qh];simp
  ·have h1:y*((D:Int):Rat)≠0:=by
    intro e0
    rcases Rat.mul_eq_zero.1 e0 with e1 | e1
    ·exact hy e1
    ·grind
   have h2:x/y*y=x:=lD hy
   have h3:x*((D:Int):Rat)/(y*((D:Int):Rat))*(y*((D:Int):Rat))=x*((D:Int):Rat):=lD h1
   have h4:x/y*(y*((D:Int):Rat))=x*((D:Int):Rat):=by rw [<-ady,h2]
   have h5:x/y=x*((D:Int):Rat)/(y*((D:Int):Rat)):=by rw [<-h4,aan h1]
   exact h5
 rw [this,<-ae5]
 have:=abI (k:=k) (decide (z<0) != decide (u<0)) (n:=z.natAbs) (d:=u.natAbs) J J
 omega
def uQ (E:Nat) (x:Rat):Prop:=∃ α β:Nat,x*((E:Int):Rat)=((α:Int):Rat)/\(1-x)*((E:Int):Rat)=((β:Int):Rat)
theorem uQ.sum {E:Nat} {x:Rat} {α β:Nat} (h1:x*((E:Int):Rat)=((α:Int):Rat)) (h2:(1-x)*((E:Int):Rat)=((β:Int):Rat)):α+β=E:=by
 have:(((α+β:Nat):Int):Rat)=((E:Int):Rat):=by
  push_cast
  push_cast at h1 h2
  rw [<-h1,<-h2];grind
 have:=Rat.intCast_inj.1 this
 omega
theorem aj5 {n:Nat} {x:Rat} (h:kA n x) (h0:0<=x) (h1:x<=1):uQ (2 ^ n) x:=by
 obtain⟨z,e⟩:=h.mul
 have hp:=two_pos n
 have m0:=aa5 h0 (mZ hp)
 have m1:=aa5 (show 0<=1-x by grind) (mZ hp)
 have e2:(1-x)*(((2 ^ n:Nat):Int):Rat)=((((2 ^ n:Nat):Int)-z:Int):Rat):=by
  push_cast
  push_cast at e
  rw [<-e];grind
 rw [e] at m0
 rw [e2] at m1
 have z0:0<=z:=asJ.1 m0
 have z1:0<=((2 ^ n:Nat):Int)-z:=asJ.1 m1
 refine⟨z.toNat,(((2 ^ n:Nat):Int)-z).toNat,?_,?_⟩
 ·rw [al9 z0];exact e
 ·rw [al9 z1];exact e2
theorem alo {a:Rat} {E:Nat} (ha:uQ E a):∀ (n:Nat) {D N:Nat} (f:Nat->Rat),(∀ i,i<=n->ik D N (f i))->ik (D*E ^ n) (N*E ^ n) (fE (1-a) a n f)
 | 0,D,N,f,h=>by
  have:=h 0 (bF _)
  simpa [fE] using this
 | n+1,D,N,f,h=>by
  rw [fE,jw,eH (E ^ n) E,<-fJ,<-fJ]
  refine alo ha n _ fun i hi=>?_
  obtain⟨α,β,e1,e2⟩:=ha
  have es:=uQ.sum e1 e2
  obtain⟨z,f1,g1⟩:=h i J
  obtain⟨u,f2,g2⟩:=h (i+1) J
  refine⟨(β:Int)*z+(α:Int)*u,?_,?_⟩
  ·rw [aGp,Rat.intCast_add,abx,abx,<-e1,<-e2,<-f1,<-f2]
   grind
  ·have h1:=Int.natAbs_add_le ((β:Int)*z) ((α:Int)*u)
   rw [ao6,ao6,axW,axW] at h1
   have h2:=lr β g1
   have h3:=lr α g2
   have h4:N*E=β*N+α*N:=by rw [<-es,eH,Nat.add_mul,Nat.add_comm]
   omega
theorem aoA {a b:Rat} {E:Nat} (ha:uQ E a) (hb:uQ E b) {n j D N:Nat} (hj:j<=n) {f:Nat->Rat} (h:∀ i,i<=n->ik D N (f i)):ik (D*E ^ n) (N*E ^ n) (lT a b n f j):=by
 have h1:∀ m,m<=n-j->ik (D*E ^ j) (N*E ^ j) (sI b j f m):=fun m hm=>by
  rw [wI]
  exact alo hb j _ fun i hi=>h _ J
 unfold lT
 rw [wI]
 have:=alo ha (n-j) (fun i=>sI b j f (0+i)) fun i hi=>h1 (0+i) J
 rw [fJ,fJ,<-Nat.pow_add,Nat.add_sub_cancel' hj] at this
 exact this
structure cvC (po:List ar) (d D N:Nat):Prop where
 n:∀ k i,i<=d->ik D N ((bn po k).getD i 0)
 w:∀ i,i<=d->ik D N ((aZ po).getD i 0)
theorem aJL {po:List ar} {d R:Nat} (h:rT po d R) {x y:Rat} (lH:0<=x) (ji:x<1) (kW:0<=y) (pG:y<=1) {D N E k:Nat} (hD:0<D) (hE:0<E) (hx:uQ E x) (hy:uQ E y) (hc:cvC po d D N)
  (hN:N*E ^ d<4294967296 ^ k) (fM:D*E ^ d<4294967296 ^ k) (hk:1<=k):rT (nS po x y) d k:=by
 have hl:=h.hl
 have hDE:0<D*E ^ d:=qn hD (lC hE)
 refine⟨by rw [aer,hl],h.hd,h.h6,fun q hq=>?_⟩
 obtain⟨j,hj,rfl⟩:=ga.1 hq
 have hj:j<po.length:=by simpa using hj
 have hw:ik (D*E ^ d) (N*E ^ d) ((fG (aZ po) x y).getD j 0):=by
  rw [aj6 h ji J]
  exact aoA hx hy J fun i hi=>hc.w i hi
 have hn:∀ k,ik (D*E ^ d) (N*E ^ d) ((fG (bn po k) x y).getD j 0):=fun k=>by
  rw [aiJ h ji k J]
  exact aoA hx hy J fun i hi=>hc.n k i hi
 exact⟨⟨(hn 0).div hw hDE hN hk,(hn 1).div hw hDE hN hk,(hn 2).div hw hDE hN hk⟩,hw.rl hDE hN fM hk,apI h lH ji kW pG J⟩
def sG (F:Rat->Rat) (args:List Rat):Nat->(Nat->Rat)->(Nat->Rat)
 | 0,f=>f
 | r+1,f=>sS (F (args.getD r 0)) (sG F args r f)
theorem anE {F:Rat->Rat} {args v:List Rat}:∀ (r i:Nat),r<=i->i<v.length->(bfi F args v r).getD i 0=sG F args r (fun i=>v.getD i 0) (i-r)
 | 0,i,_,_=>rfl
 | r+1,i,h,hi=>by
  rw [bfi,av5 _ _ _ _ (by rw [afk];exact hi),if_pos J,anE r i J hi,anE r (i-1) J J,sG]
  unfold sS
  rw [show i-1-r=i-(r+1) by omega,show i-(r+1)+1=i-r by omega]
  grind
theorem azH {F:Rat->Rat} {a b:Rat} {m n:Nat} {f:Nat->Rat}:sG F (aV m a++aV n b) (m+n) f=sI (F b) n (sI (F a) m f):=by
 have h1:∀ r,r<=m->sG F (aV m a++aV n b) r f=sI (F a) r f:=by
  intro r
  induction r with
  | zero=>intro _;rfl
  | succ r ih =>
   intro h
   rw [sG,ih J,aoi,gD1 (by rw [acT];omega),zX J]
 have h2:∀ k,k<=n->sG F (aV m a++aV n b) (m+k) f=sI (F b) k (sI (F a) m f):=by
  intro k
  induction k with
  | zero=>intro _;exact h1 m (bF _)
  | succ k ih =>
   intro h
   rw [<-Nat.add_assoc,sG,ih J,aoi,gD2 aW,acT,zX J]
 exact h2 n (bF _)
theorem aCY {d j:Nat} {x y a b:Rat} {v:List Rat} (hv:v.length=d+1) (hj:j<=d):zu d x y v (aV (d-j) a++aV j b)=lT ((a-x)/(y-x)) ((b-x)/(y-x)) d (fun i=>v.getD i 0) j:=by
 unfold zu
 rw [anE d d (bF _) J,sM]
 have:=azH (F:=fun t=>(t-x)/(y-x)) (a:=a) (b:=b) (m:=d-j) (n:=j) (f:=fun i=>v.getD i 0)
 rw [show d-j+j=d by omega] at this
 rw [this,<-apo]
 rfl
def qc (q:Q4):Nat->Rat
 | 0=>q.x
 | 1=>q.y
 | 2=>q.z
 | _=>q.w
theorem azX (C:List Q4) (k i:Nat) (h:i<C.length):(C.map fun q=>qc q k).getD i 0=qc (C.getD i default) k:=by
 rw [bE,gZ,bE,bY h];rfl
theorem au1 {d:Nat} {x y a b:Rat} {C:List Q4} (hC:C.length=d+1) {j:Nat} (hj:j<=d) (k:Nat):qc ((et d x y C a b).getD j default) k=lT ((a-x)/(y-x)) ((b-x)/(y-x)) d (fun i=>qc (C.getD i default) k) j:=by
 have e:(et d x y C a b).getD j default=pol d x y C (aV (d-j) a++aV j b):=by
  unfold et
  rw [bE,gZ,aum J];rfl
 have key:∀ f:Q4->Rat,zu d x y (C.map f) (aV (d-j) a++aV j b)=lT ((a-x)/(y-x)) ((b-x)/(y-x)) d (fun i=>(C.map f).getD i 0) j:=fun f=>aCY (by rw [eD,hC]) hj
 have cg:∀ k,lT ((a-x)/(y-x)) ((b-x)/(y-x)) d (fun i=>(C.map fun q=>qc q k).getD i 0) j=lT ((a-x)/(y-x)) ((b-x)/(y-x)) d (fun i=>qc (C.getD i default) k) j:=fun k=>alY hj fun i hi=>azX C k i J
 rw [e,<-cg]
 match k with
 | 0=>exact key (·.x)
 | 1=>exact key (·.y)
 | 2=>exact key (·.z)
 | k+3=>exact key (·.w)
theorem aDi {q:Q4} (h:q.w≠0):bW (jl q)=q:=by
 obtain⟨x,y,z,w⟩:=q
 have hw:w≠0:=h
 have e:∀ t:Rat,w*(t/w)=t:=fun t=>by rw [zD];exact lD hw
 show (⟨w*(x/w),w*(y/w),w*(z/w),w⟩:Q4)=⟨x,y,z,w⟩
 rw [e,e,e]
def mP (rows:List (List ar)) (k i j:Nat):Rat:=qc (bW ((rows.getD i []).getD j default)) k
def pcT (U V:Nat) (s t:Sp) (c:Nat->Nat->Rat) (i j:Nat):Rat:=lT t.1 t.2 V (fun j'=>lT s.1 s.2 U (fun i'=>c i' j') i) j
structure rA (U V:Nat) (rows:List (List ar)) (D N:Nat):Prop where
 n:rows.length=U+1
 m:∀ r∈rows,r.length=V+1
 c:∀ k i j,i<=U->j<=V->ik D N (mP rows k i j)
 w:∀ i j,i<=U->j<=V->0<mP rows 3 i j
theorem aEg {U V D N:Nat} {rows:List (List ar)} (h:rA U V rows D N) {r:List ar} (hr:r∈rows) {q:ar} (hq:q∈r):∃ i j,i<=U/\j<=V/\(rows.getD i []).getD j default=q:=by
 obtain⟨i,hi,rfl⟩:=aaU hr
 obtain⟨j,hj,rfl⟩:=aaU hq
 have h1:=h.n
 have h2:=h.m _ hr
 refine⟨i,j,J,J,?_⟩
 rw [bE,bE,bY hi,Option.getD_some,bY hj];rfl
theorem rA.ok {U V D N k:Nat} {rows:List (List ar)} (h:rA U V rows D N) (hD:0<D) (hN:N<4294967296 ^ k) (fM:D<4294967296 ^ k) (hk:1<=k):∀ r∈rows,∀ q∈r,k5 k q:=fun r hr q hq=>by
 obtain⟨i,j,hi,hj,e⟩:=aEg h hr hq
 have hc:=fun n=>h.c n i j hi hj
 have hw:=h.w i j hi hj
 unfold mP at hc hw
 rw [e] at hc hw
 have hw:0<q.w:=hw
 have e1:∀ t:Rat,q.w*t/q.w=t:=fun t=>by rw [zD];exact aan dz
 refine⟨⟨?_,?_,?_⟩,(hc 3).rl hD hN fM hk,hw⟩
 ·have:=(hc 0).div (hc 3) hD hN hk
  exact(e1 q.p.x) ▸ this
 ·have:=(hc 1).div (hc 3) hD hN hk
  exact(e1 q.p.y) ▸ this
 ·have:=(hc 2).div (hc 3) hD hN hk
  exact(e1 q.p.z) ▸ this
theorem rA.pf {U V D N k:Nat} {rows:List (List ar)} (h:rA U V rows D N) (hD:0<D) (hN:N<4294967296 ^ k) (fM:D<4294967296 ^ k) (hk:1<=k) (hk9:k<=1000000) (u1:1<=U) (u3:U<=3) (v1:1<=V) (v3:V<=3):pf k U V rows :=
 ⟨hk,hk9,u1,u3,v1,v3,h.n,h.m,h.ok hD hN fM hk⟩
theorem azb {U V D N:Nat} {rows:List (List ar)} (h:rA U V rows D N) {i j:Nat} (hi:i<=U) (k:Nat):qc ((((rows.map fun r=>r.getD j default).map bW)).getD i default) k=mP rows k i j:=by
 have:=h.n
 unfold mP
 rw [aB6 bq,bE,gZ,bE (l:=rows),bY J];rfl
theorem aDb {U V D N:Nat} {rows:List (List ar)} (h:rA U V rows D N) (j:Nat):((rows.map fun r=>r.getD j default).map bW).length=U+1:=by simp [h.n]
theorem ahw {U V D N E:Nat} {rows:List (List ar)} (h:rA U V rows D N) {x y a b s t:Rat} (ea:(a-x)/(y-x)=s) (eb:(b-x)/(y-x)=t) (dx:0<=s) (il:s<=1) (ht0:0<=t) (ht1:t<=1) (us:uQ E s) (ut:uQ E t) {i j:Nat} (hi:i<=U) (hj:j<=V) :
  (∀ k,qc ((et U x y ((rows.map fun r=>r.getD j default).map bW) a b).getD i default) k=lT s t U (fun i'=>mP rows k i' j) i)/\(∀ k,ik (D*E ^ U) (N*E ^ U) (lT s t U (fun i'=>mP rows k i' j) i))/\0<lT s t U (fun i'=>mP rows 3 i' j) i:=by
 refine⟨fun k=>?_,fun k=>aoA us ut hi fun i' nn=>h.c k i' j nn hj,ao0 dx il ht0 ht1 hi fun i' nn=>h.w i' j nn hj⟩
 rw [au1 (aDb h j) hi k,ea,eb]
 exact alY hi fun i' nn=>azb h nn k
theorem axh {U V D N E:Nat} {rows:List (List ar)} (h:rA U V rows D N) {x y a b s t:Rat} (ea:(a-x)/(y-x)=s) (eb:(b-x)/(y-x)=t) (dx:0<=s) (il:s<=1) (ht0:0<=t) (ht1:t<=1) (us:uQ E s) (ut:uQ E t) :
  rA V U (fy (fun C=>et U x y C a b) V rows) (D*E ^ U) (N*E ^ U)/\∀ k i j,i<=U->j<=V->mP (fy (fun C=>et U x y C a b) V rows) k j i=lT s t U (fun i'=>mP rows k i' j) i:=by
 have ahx:∀ j,j<=V->(fy (fun C=>et U x y C a b) V rows).getD j []=(et U x y ((rows.map fun r=>r.getD j default).map bW) a b).map jl:=fun j hj=>by
  rw [fy,bE,gZ,aeG rows J];rfl
 have anN:∀ k i j,i<=U->j<=V->mP (fy (fun C=>et U x y C a b) V rows) k j i=lT s t U (fun i'=>mP rows k i' j) i:=fun k i j hi hj=>by
  obtain⟨c1,c2,c3⟩:=ahw h ea eb dx il ht0 ht1 us ut hi hj
  have hw:0<((et U x y ((rows.map fun r=>r.getD j default).map bW) a b).getD i default).w:=by
   have:=c1 3
   rw [<-this] at c3
   exact c3
  unfold mP
  rw [ahx j hj,au5 (by rw [aeg];omega),aDi dz,c1];rfl
 refine⟨⟨asv _ _ _,fun r hr=>?_,fun k j i hj hi=>?_,fun j i hj hi=>?_⟩,anN⟩
 ·obtain⟨C,_,rfl⟩:=ga.1 hr
  rw [eD,aeg]
 ·rw [anN k i j hi hj];exact(ahw h ea eb dx il ht0 ht1 us ut hi hj).2.1 k
 ·rw [anN 3 i j hi hj];exact(ahw h ea eb dx il ht0 ht1 us ut hi hj).2.2
theorem axX {U V D N E k:Nat} {rows:List (List ar)} (h:rA U V rows D N) {x y a b s t:Rat} (ea:(a-x)/(y-x)=s) (eb:(b-x)/(y-x)=t) (dx:0<=s) (il:s<=1) (ht0:0<=t) (ht1:t<=1) (us:uQ E s) (ut:uQ E t)
  (hD:0<D*E ^ U) (hN:N*E ^ U<4294967296 ^ k) (fM:D*E ^ U<4294967296 ^ k) (hk:1<=k):∀ C∈kC V rows,∀ q∈et U x y C a b,nB k q/\0<q.w:=fun C hC q hq=>by
 obtain⟨j,hj,e⟩:=aaU hC
 rw [wH] at hj
 have hCj:C=(rows.map fun r=>r.getD j default).map bW:=by
  have:=aeG rows hj
  rw [bY (by rw [wH];exact hj)] at this
  rw [<-e];exact awB this
 subst hCj
 obtain⟨i,hi,rfl⟩:=aaU hq
 have dq:=hi
 rw [aeg] at dq
 obtain⟨c1,c2,c3⟩:=ahw h (i:=i) (j:=j) ea eb dx il ht0 ht1 us ut J J
 have eg:(et U x y ((rows.map fun r=>r.getD j default).map bW) a b).getD i default=(et U x y ((rows.map fun r=>r.getD j default).map bW) a b)[i]:=by
  rw [bE,bY hi];rfl
 rw [eg] at c1
 have r:∀ k',Go.Lg.rl (qc (et U x y ((rows.map fun r=>r.getD j default).map bW) a b)[i] k')<=k:=fun k'=>by
  rw [c1];exact(c2 k').rl hD hN fM hk
 refine⟨⟨r 0,r 1,r 2,r 3⟩,?_⟩
 have:=c1 3
 rw [<-this] at c3
 exact c3
theorem aD8 {U V D N E k:Nat} {rows:List (List ar)} (h:rA U V rows D N) (hE:0<E) (hD:0<D) (u1:1<=U) (u3:U<=3) (v1:1<=V) (v3:V<=3) {ua ub va vb a b c e s t s' t':Rat} (hu:ua<ub) (hv:va<vb) (h1:rl ua<=64) (h2:rl ub<=64) (h3:rl va<=64) (h4:rl vb<=64) (cY:a<b) (hce:c<e) (vG:ua<=a) (hbu:b<=ub) (hvc:va<=c) (ie:e<=vb)
  (z1:rl a<=64) (z2:rl b<=64) (z3:rl c<=64) (z4:rl e<=64) (ea:(a-ua)/(ub-ua)=s) (eb:(b-ua)/(ub-ua)=t) (ec:(c-va)/(vb-va)=s') (ee:(e-va)/(vb-va)=t') (hs:0<=s/\s<=1) (ht:0<=t/\t<=1) (jO:0<=s'/\s'<=1) (ht':0<=t'/\t'<=1) (us:uQ E s) (ut:uQ E t) (us':uQ E s') (ut':uQ E t')
  (hN:N*E ^ U*E ^ V<4294967296 ^ k) (fM:D*E ^ U*E ^ V<4294967296 ^ k) (hk:1<=k) (hk9:k<=64) :
  ax ak 39 [.agg [ae U,ae V,.list 3 ((aA U ua ub).map aa),.list 3 ((aA V va vb).map aa),.list 1 (rows.map a5)],aD (a,b),aD (c,e)] (.a9 [.agg [ae U,ae V,.list 3 ((aA U a b).map aa),.list 3 ((aA V c e).map aa),.list 1 ((ctS U V ua ub va vb rows a b c e).map a5)],iL 0])/\rA U V (ctS U V ua ub va vb rows a b c e) (D*E ^ U*E ^ V) (N*E ^ U*E ^ V)/\∀ n i j,i<=U->j<=V->mP (ctS U V ua ub va vb rows a b c e) n i j=pcT U V (s,t) (s',t') (mP rows n) i j:=by
 have pU:0<E ^ U:=lC hE
 have pV:0<E ^ V:=lC hE
 have le1:∀ x,x<=x*E ^ U:=fun x=>pY x pU
 have le2:∀ x,x<=x*E ^ V:=fun x=>pY x pV
 have n1:=le1 N
 have n2:=le2 (N*E ^ U)
 have d1:=le1 D
 have d2:=le2 (D*E ^ U)
 obtain⟨g,gx⟩:=axh h ea eb hs.1 hs.2 ht.1 ht.2 us ut
 obtain⟨g2,gy⟩:=axh g ec ee jO.1 jO.2 ht'.1 ht'.2 us' ut'
 have hD1:0<D*E ^ U:=qn hD pU
 have hD2:0<D*E ^ U*E ^ V:=qn hD1 pV
 refine⟨?_,g2,fun n i j hi hj=>?_⟩
 ·exact az2 k k k k k U V ua ub va vb a b c e rows (h.pf hD J J hk J u1 u3 v1 v3) hk9 hu hv h1 h2 h3 h4 cY hce vG hbu hvc ie z1 z2 z3 z4 J J J J
   (axX h ea eb hs.1 hs.2 ht.1 ht.2 us ut hD1 J J hk) (g.pf hD1 J J hk J v1 v3 u1 u3) (axX g ec ee jO.1 jO.2 ht'.1 ht'.2 us' ut' hD2 hN fM hk) (g2.pf hD2 hN fM hk J u1 u3 v1 v3)
 ·show mP (fy _ U (fy _ V rows)) n i j=_
  rw [gy n j i hj hi]
  exact alY hj fun j' hj'=>gx n i j' hi hj'
def eJ (u v:Sp):List (List ar):=[[⟨⟨u.1,v.1,0⟩,1⟩,⟨⟨u.1,v.2,0⟩,1⟩],[⟨⟨u.2,v.1,0⟩,1⟩,⟨⟨u.2,v.2,0⟩,1⟩]]
def n8 (i:Nat):Rat:=((i:Int):Rat)/8
def sgQ (D:List Rat->List Rat) (Ud Vd:Nat) (c:List Rat):List Rat:=nX (·-·) (jW Ud Vd 1 1 (D c) [1,1,1,1]) (jW 1 1 Ud Vd c (D [1,1,1,1]))
def qV (D:List Rat->List Rat) (Ud Vd:Nat) (c:List Rat):Rat × Rat:=k6 (de (sgQ D Ud Vd c)) (iU (de [1,1,1,1]))
def qC (D:List Rat->List Rat) (Ud Vd:Nat) (c:List Rat):Rat:=gi (Ud+1) (Vd+1) (sgQ D Ud Vd c) (1/2) (1/2)
def vQ (a b:Rat):List Rat:=[1*a,1*a,1*b,1*b]
def vi (a b:Rat):List Rat:=[1*a,1*b,1*a,1*b]
theorem q8u:((fe 9).all fun i=>(fe 9).all fun j=>!decide (i<j) || (decide (qV (eo 1 1) 0 1 (vQ (n8 i) (n8 j))=(n8 j-n8 i,n8 j-n8 i)) && decide (qV (eo 1 1) 0 1 (vi (n8 i) (n8 j))=(0,0))))=true:=by decide +kernel
theorem q8v:((fe 9).all fun i=>(fe 9).all fun j=>!decide (i<j) || (decide (qV (en 1 1) 1 0 (vi (n8 i) (n8 j))=(n8 j-n8 i,n8 j-n8 i)) && decide (qV (en 1 1) 1 0 (vQ (n8 i) (n8 j))=(0,0))))=true:=by decide +kernel
theorem q80:qV (eo 1 1) 0 1 [1*0,1*0,1*0,1*0]=(0,0)/\qV (en 1 1) 1 0 [1*0,1*0,1*0,1*0]=(0,0)/\qC (eo 1 1) 0 1 [1*0,1*0,1*0,1*0]=0/\qC (en 1 1) 1 0 [1*0,1*0,1*0,1*0]=0/\gi 1 1 [1,1,1,1] (1/2) (1/2)=1:=by decide +kernel
theorem e8u:((fe 9).all fun i=>(fe 9).all fun j=>!decide (i<j) || (decide (qC (eo 1 1) 0 1 (vQ (n8 i) (n8 j))=n8 j-n8 i) && decide (qC (eo 1 1) 0 1 (vi (n8 i) (n8 j))=0)))=true:=by decide +kernel
theorem e8v:((fe 9).all fun i=>(fe 9).all fun j=>!decide (i<j) || (decide (qC (en 1 1) 1 0 (vi (n8 i) (n8 j))=n8 j-n8 i) && decide (qC (en 1 1) 1 0 (vQ (n8 i) (n8 j))=0)))=true:=by decide +kernel
theorem ajB {f:Nat->Nat->Bool} (h:((fe 9).all fun i=>(fe 9).all fun j=>!decide (i<j) || f i j)=true) {i j:Nat} (hj:j<9) (pK:i<j):f i j=true:=by
 rw [py] at h
 have h:=h i (wF.2 J)
 rw [py] at h
 have h:=h j (wF.2 hj)
 rw [decide_eq_true pK] at h
 simpa using h
theorem at8 {q:Rat} (h:kA 3 q) (h0:0<=q) (h1:q<=1):∃ i:Nat,i<9/\q=n8 i:=by
 obtain⟨z,rfl⟩:=h
 have e8:(((2 ^ 3:Nat):Int):Rat)=8:=by decide +kernel
 rw [e8] at h0 h1 ⊢
 have hm:(z:Rat)/8*8=z:=lD ai
 have a0:(0:Rat)<=(z:Rat):=by rw [<-hm];grind
 have a1:(z:Rat)<=8:=by rw [<-hm];grind
 have b0:0<=z:=by exact_mod_cast (show ((0:Int):Rat)<=(z:Rat) from a0)
 have b1:z<=8:=by exact_mod_cast (show (z:Rat)<=((8:Int):Rat) from a1)
 refine⟨z.toNat,J,?_⟩
 unfold n8
 rw [al9 b0]
theorem aAa {i j:Nat} (h:n8 i<n8 j):i<j:=by
 unfold n8 at h
 have h1:((i:Int):Rat)/8*8=((i:Int):Rat):=lD ai
 have h2:((j:Int):Rat)/8*8=((j:Int):Rat):=lD ai
 have:((i:Int):Rat)<((j:Int):Rat):=by rw [<-h1,<-h2];grind
 have:(i:Int)<(j:Int):=by exact_mod_cast this
 omega
theorem sg8 {s:Sp} (h:eY 3 s):qV (eo 1 1) 0 1 (vQ s.1 s.2)=(s.2-s.1,s.2-s.1)/\qV (eo 1 1) 0 1 (vi s.1 s.2)=(0,0)/\qV (en 1 1) 1 0 (vi s.1 s.2)=(s.2-s.1,s.2-s.1)/\qV (en 1 1) 1 0 (vQ s.1 s.2)=(0,0)
  /\ qC (eo 1 1) 0 1 (vQ s.1 s.2)=s.2-s.1/\qC (eo 1 1) 0 1 (vi s.1 s.2)=0/\qC (en 1 1) 1 0 (vi s.1 s.2)=s.2-s.1/\qC (en 1 1) 1 0 (vQ s.1 s.2)=0:=by
 obtain⟨d1,d2,h0,bZ,h1⟩:=h
 obtain⟨i,hi,e1⟩:=at8 d1 h0 dz
 obtain⟨j,hj,e2⟩:=at8 d2 dz h1
 rw [e1,e2] at bZ ⊢
 have pK:=aAa bZ
 have a:=ajB q8u hj pK
 have b:=ajB q8v hj pK
 have c:=ajB e8u hj pK
 have d:=ajB e8v hj pK
 simp only [Bool.and_eq_true,decide_eq_true_eq] at a b c d
 exact⟨a.1,a.2,b.1,b.2,c.1,c.2,d.1,d.2⟩
theorem awh {u v:Sp} (hu:eY 3 u) (hv:eY 3 v):psB 1 1 (1-1) 1 (eo 1 1) (eJ u v).flatten (u.2-u.1)=⟨(1,1),(0,0),(0,0)⟩/\psB 1 1 1 (1-1) (en 1 1) (eJ u v).flatten (v.2-v.1)=⟨(0,0),(1,1),(0,0)⟩:=by
 have a:=sg8 hu
 have b:=sg8 hv
 obtain⟨z1,z2,_⟩:=q80
 have w1:u.2-u.1≠0:=by have:=hu.2.2.2.1;grind
 have w2:v.2-v.1≠0:=by have:=hv.2.2.2.1;grind
 have k1:(u.2-u.1)*(1/(u.2-u.1))=1:=by rw [zD];exact lD w1
 have k2:(v.2-v.1)*(1/(v.2-v.1))=1:=by rw [zD];exact lD w2
 have u0:rP 1 1 0 1 (eo 1 1) (eJ u v).flatten (u.2-u.1) 0=kz (qV (eo 1 1) 0 1 (vQ u.1 u.2)) (1/(u.2-u.1),1/(u.2-u.1)):=rfl
 have u1:rP 1 1 0 1 (eo 1 1) (eJ u v).flatten (u.2-u.1) 1=kz (qV (eo 1 1) 0 1 (vi v.1 v.2)) (1/(u.2-u.1),1/(u.2-u.1)):=rfl
 have u2:rP 1 1 0 1 (eo 1 1) (eJ u v).flatten (u.2-u.1) 2=kz (qV (eo 1 1) 0 1 [1*0,1*0,1*0,1*0]) (1/(u.2-u.1),1/(u.2-u.1)):=rfl
 have v0:rP 1 1 1 0 (en 1 1) (eJ u v).flatten (v.2-v.1) 0=kz (qV (en 1 1) 1 0 (vQ u.1 u.2)) (1/(v.2-v.1),1/(v.2-v.1)):=rfl
 have v1:rP 1 1 1 0 (en 1 1) (eJ u v).flatten (v.2-v.1) 1=kz (qV (en 1 1) 1 0 (vi v.1 v.2)) (1/(v.2-v.1),1/(v.2-v.1)):=rfl
 have v2:rP 1 1 1 0 (en 1 1) (eJ u v).flatten (v.2-v.1) 2=kz (qV (en 1 1) 1 0 [1*0,1*0,1*0,1*0]) (1/(v.2-v.1),1/(v.2-v.1)):=rfl
 refine⟨?_,?_⟩
 ·show (⟨rP 1 1 0 1 (eo 1 1) (eJ u v).flatten (u.2-u.1) 0,rP 1 1 0 1 (eo 1 1) (eJ u v).flatten (u.2-u.1) 1,rP 1 1 0 1 (eo 1 1) (eJ u v).flatten (u.2-u.1) 2⟩:jt)=_
  rw [u0,u1,u2,a.1,b.2.1,z1,aew,aew,k1,akR]
 ·show (⟨rP 1 1 1 0 (en 1 1) (eJ u v).flatten (v.2-v.1) 0,rP 1 1 1 0 (en 1 1) (eJ u v).flatten (v.2-v.1) 1,rP 1 1 1 0 (en 1 1) (eJ u v).flatten (v.2-v.1) 2⟩:jt)=_
  rw [v0,v1,v2,a.2.2.2.1,b.2.2.1,z2,aew,aew,k2,akR]
theorem aqy {u v:Sp} (hu:eY 3 u) (hv:eY 3 v):pdv 1 1 (1-1) 1 (eo 1 1) (eJ u v).flatten (u.2-u.1) (1/2) (1/2)=⟨1,0,0⟩/\pdv 1 1 1 (1-1) (en 1 1) (eJ u v).flatten (v.2-v.1) (1/2) (1/2)=⟨0,1,0⟩:=by
 obtain⟨_,_,_,_,a1,a2,a3,a4⟩:=sg8 hu
 obtain⟨_,_,_,_,b1,b2,b3,b4⟩:=sg8 hv
 obtain⟨_,_,z1,z2,z3⟩:=q80
 have w1:u.2-u.1≠0:=by have:=hu.2.2.2.1;grind
 have w2:v.2-v.1≠0:=by have:=hv.2.2.2.1;grind
 have k1:1/(u.2-u.1)*(u.2-u.1)=1:=lD w1
 have k2:1/(v.2-v.1)*(v.2-v.1)=1:=lD w2
 refine⟨?_,?_⟩
 ·show kK (1/((u.2-u.1)*(gi 1 1 [1,1,1,1] (1/2) (1/2)*gi 1 1 [1,1,1,1] (1/2) (1/2)))) ⟨qC (eo 1 1) 0 1 (vQ u.1 u.2),qC (eo 1 1) 0 1 (vi v.1 v.2),qC (eo 1 1) 0 1 [1*0,1*0,1*0,1*0]⟩=_
  rw [z3,a1,b2,z1,tu,vv]
  show (⟨1/(u.2-u.1)*(u.2-u.1),1/(u.2-u.1)*0,1/(u.2-u.1)*0⟩:V3)=_
  rw [k1,aav]
 ·show kK (1/((v.2-v.1)*(gi 1 1 [1,1,1,1] (1/2) (1/2)*gi 1 1 [1,1,1,1] (1/2) (1/2)))) ⟨qC (en 1 1) 1 0 (vQ u.1 u.2),qC (en 1 1) 1 0 (vi v.1 v.2),qC (en 1 1) 1 0 [1*0,1*0,1*0,1*0]⟩=_
  rw [z3,a4,b3,z2,tu,vv]
  show (⟨1/(v.2-v.1)*0,1/(v.2-v.1)*(v.2-v.1),1/(v.2-v.1)*0⟩:V3)=_
  rw [k2,aav]
theorem aH4 {u v:Sp} (hu:u.1<=u.2) (hv:v.1<=v.2):xH ((eJ u v).flatten.map (·.p))=⟨u,v,(0,0)⟩:=by
 have m1:eM u.1 u.2=u.1:=by unfold eM;rw [if_neg dz]
 have m2:er u.1 u.2=u.2:=by unfold er;split<;>grind
 have n1:eM v.1 v.2=v.1:=by unfold eM;rw [if_neg dz]
 have n2:er v.1 v.2=v.2:=by unfold er;split<;>grind
 have n3:er v.2 v.1=v.2:=by unfold er;rw [if_neg dz]
 have hx:xH ((eJ u v).flatten.map (·.p))=⟨iV (iV (iV (u.1,u.1) (u.1,u.1)) (u.2,u.2)) (u.2,u.2),iV (iV (iV (v.1,v.1) (v.2,v.2)) (v.1,v.1)) (v.2,v.2),iV (iV (iV (0,0) (0,0)) (0,0)) (0,0)⟩:=rfl
 rw [hx]
 unfold iV
 simp only [ajI,agu,m1,m2,n1,n2,n3]
theorem aeW (u v:Sp) (k i j:Nat) (hi:i<=1) (hj:j<=1):mP (eJ u v) k i j=match k with | 0=>if i=0 then u.1 else u.2 | 1=>if j=0 then v.1 else v.2 | 2=>0 | _=>1:=by
 have hi:i=0\/i=1:=by omega
 have hj:j=0\/j=1:=by omega
 have o:∀ x:Rat,1*x=x:=fun x=>tu x
 match k with
 | 0=>rcases hi with rfl | rfl<;>rcases hj with rfl | rfl<;>exact o _
 | 1=>rcases hi with rfl | rfl<;>rcases hj with rfl | rfl<;>exact o _
 | 2=>rcases hi with rfl | rfl<;>rcases hj with rfl | rfl<;>exact o _
 | k+3=>rcases hi with rfl | rfl<;>rcases hj with rfl | rfl<;>rfl
theorem aEV:rA 1 1 (eJ (0,1) (0,1)) 1 1:=by
 refine⟨rfl,by decide +kernel,fun k i j hi hj=>?_,fun i j hi hj=>?_⟩
 ·have:mP (eJ (0,1) (0,1)) k i j=0\/mP (eJ (0,1) (0,1)) k i j=1:=by
   rw [aeW _ _ k i j hi hj]
   match k with
   | 0=>by_cases h:i=0<;>simp [h]
   | 1=>by_cases h:j=0<;>simp [h]
   | 2=>simp
   | k+3=>simp
  rcases this with e | e<;>rw [e]
  ·exact⟨0,by decide +kernel,by decide⟩
  ·exact⟨1,by decide +kernel,by decide⟩
 ·rw [aeW _ _ 3 i j hi hj]
  show (0:Rat)<1
  decide +kernel
theorem aif {p q:ar} (hp:p.w=1) (hq:q.w=1) (h:∀ k,k<3->qc (bW p) k=qc (bW q) k):p=q:=by
 obtain⟨⟨x,y,z⟩,w⟩:=p
 obtain⟨⟨x',y',z'⟩,w'⟩:=q
 subst hp;subst hq
 have a:1*x=1*x':=h 0 ai
 have b:1*y=1*y':=h 1 ai
 have c:1*z=1*z':=h 2 ai
 rw [tu,tu] at a b c
 rw [a,b,c]
theorem aHA {r:List (List ar)} {D N:Nat} (h:rA 1 1 r D N) {u v:Sp} (e:∀ k i j,i<=1->j<=1->mP r k i j=mP (eJ u v) k i j):r=eJ u v:=by
 obtain⟨hn,hm,_,_⟩:=h
 match r,hn with
 | [r0,r1],_ =>
  have h0:=hm r0 aW
  have h1:=hm r1 aW
  match r0,r1,h0,h1 with
  | [a,b],[c,d],_,_ =>
   have w:=fun i j hi hj=>(e 3 i j hi hj).trans (aeW u v 3 i j hi hj)
   have ha:a=⟨⟨u.1,v.1,0⟩,1⟩:=aif (w 0 0 ai ai) rfl fun k _=>e k 0 0 ai ai
   have hb:b=⟨⟨u.1,v.2,0⟩,1⟩:=aif (w 0 1 ai ai) rfl fun k _=>e k 0 1 ai ai
   have hc:c=⟨⟨u.2,v.1,0⟩,1⟩:=aif (w 1 0 ai ai) rfl fun k _=>e k 1 0 ai ai
   have hd:d=⟨⟨u.2,v.2,0⟩,1⟩:=aif (w 1 1 ai ai) rfl fun k _=>e k 1 1 ai ai
   rw [ha,hb,hc,hd];rfl
theorem aiL (a b:Rat) (f:Nat->Rat) (j:Nat) (hj:j<=1):lT a b 1 f j=if j=0 then f 0+a*(f 1-f 0) else f 0+b*(f 1-f 0):=by
 have hj:j=0\/j=1:=by omega
 rcases hj with rfl | rfl
 ·show sS a f 0=_
  unfold sS;rw [if_pos rfl];grind
 ·show sS b f 0=_
  unfold sS;rw [if_neg ai];grind
theorem aAH (u v:Sp) (k i j:Nat) (hi:i<=1) (hj:j<=1):pcT 1 1 u v (mP (eJ (0,1) (0,1)) k) i j=mP (eJ u v) k i j:=by
 unfold pcT
 rw [aiL _ _ _ _ hj,aiL _ _ _ _ hi,aiL _ _ _ _ hi,aeW u v k i j hi hj]
 have g:=fun i j hi hj=>aeW (0,1) (0,1) k i j hi hj
 rw [g 0 0 ai ai,g 0 1 ai ai,g 1 0 ai ai,g 1 1 ai ai]
 match k with
 | 0=>by_cases h:i=0<;>by_cases h':j=0<;>simp [h,h']<;>grind
 | 1=>by_cases h:i=0<;>by_cases h':j=0<;>simp [h,h']<;>grind
 | 2=>by_cases h:i=0<;>by_cases h':j=0<;>simp [h,h']<;>grind
 | k+3=>by_cases h:i=0<;>by_cases h':j=0<;>simp [h,h']<;>grind
theorem agz (bs:List Nat) (c:Nat) (y:bA) (l:List (Nat × bA)):vD bs ((c,y) :: l)=(c,⟨y.sz,y.vals,y.mt && !bs.contains c⟩) :: vD bs l:=rfl
def ajN (d w:Nat):LV:=.agg [ae d,ae w,aa 0]
theorem aB4 {l:List (Rat × Rat)} {k:Nat} (h:k<l.length):l.take k++[l.getD k default]=l.take (k+1):=by
 rw [v8,bY h,bE,bY h];rfl
theorem ajl {l:List (Rat × Rat)} {k:Nat} (h:k<l.length):l.getD k default∈l:=by
 rw [bE,bY h];exact qx h
theorem anW:cF ak 143 (kH ([],0,[])):=⟨Tryz.t143,_,by kernel_rfl,rfl,rfl,fun Z μ w=>by
 show cj Z μ w _ _
 exact⟨_,_,rfl,rfl,aa6 6,_,_,rfl,rfl,⟨rfl,rfl⟩,_,_,rfl,rfl,aa6 1,rfl⟩⟩
instance:EC ak 143 kH 3 true ([],0,[]):=⟨adT,anW,xk⟩
theorem xF:cF ak 46 (iW ([],[],0,0)):=⟨Tryz.t46,_,by kernel_rfl,rfl,rfl,fun Z μ w=>by
 show cj Z μ w _ _
 exact⟨_,_,rfl,rfl,aa6 6,_,_,rfl,rfl,aa6 6,_,_,rfl,rfl,⟨rfl,rfl⟩,_,_,rfl,rfl,⟨rfl,rfl⟩,rfl⟩⟩
theorem ay2:aa (1/2)=.agg [.v (.bool false),bp 1,.list 1 ([2].map bG)]:=by
 rw [show (1/2:Rat)=qv false 1 2 from by decide +kernel,aeA false ai ai]
 rfl
theorem atS:(default:Int)=0:=rfl
theorem aFo (a b:Rat):(a+b)*(1/2)=(a+b)/2:=by grind
namespace avD
theorem aw {p q:Prop} (k:q) (e:p=q:=by simp only [e1,e2,e3,e4,p1,p2,p3,q1,q2,q3,l1,t0,t1,r1,r2,r3,r4,Nat.zero_add,Nat.reduceMul,Nat.reduceAdd,b1,b2,b3,b4,b5,b6,i1,i2,i3,i4,i5,i6,Nat.reduceBEq,p9,agz,List.set_cons_zero,List.set_cons_succ,Nat.reduceEqDiff,reduceIte,if_true,if_false,cB,dB,aG aX,aG bz,aG an,cA,cC,LV.kill,bH];exact rfl):p:=e.mpr k
end avD
open avD in
theorem aCv (a b:Rat) (h:rl a+rl b<=100000):ax ak 253 [aa a,aa b] (aa ((a+b)/2)):=by
 have hz:=nZ a b
 have hh:rl (1/2)=1:=by decide +kernel
 have hM:=ef (a+b) (1/2) J
 rw [aFo] at hM
 refine aR Tryz.func253 ?_
 refine bC ?_
 refine cp au (fA a b J) ?_
 refine cp am0 (amN) ?_
 refine aH ?_
 try refine aw ?_
 refine ac3 [9] rfl rfl (.cons (.pure (an.pure _)) (.cons (show da _ _ (aa (1/2)) from ay2 ▸ .agg (.cons (.pure rfl) (.cons (.pure rfl) (.cons (dH fX rfl rfl rfl) .nil)))) .nil)) hM ?_
 refine aB ?_
 exact jJ
open ig in
theorem ajz (s:Rat × Rat) (h:rl s.1+rl s.2<=100000):ax ak 201 [aD s] (aa (gq s)):=by
 refine aR Tryz.func201 ?_
 refine bw ?_
 refine cp au (aCv s.1 s.2 h) ?_
 refine aB ?_
 exact jJ
open ig in
theorem aGh (s:Rat × Rat) (R:Nat) (hR:R<=10000) (hb:dg R s) (hle:s.1<=s.2):ax ak 139 [aD s] (.a9 [aD (sO s),aD (tM s)]):=by
 obtain⟨a1,a2⟩:=hb
 have hM:=ajz s J
 have qG:=nZ s.1 s.2
 have r7:=pH (s.1+s.2) 2
 have hh:rl 2=1:=by decide +kernel
 have em:(s.1+s.2)/2*2=s.1+s.2:=lD ai
 have hmr:rl (gq s)<=2*R+2:=by unfold gq;omega
 have kN:s.1<=gq s:=by unfold gq;grind
 have nN:gq s<=s.2:=by unfold gq;grind
 have hO1:=xN s.1 (gq s) J
 have hO2:=xN (gq s) s.2 J
 rw [show (eM s.1 (gq s),er s.1 (gq s))=sO s from by unfold eM er sO;rw [if_neg dz];split<;>(first | rfl | (congr 1;grind))] at hO1
 rw [show (eM (gq s) s.2,er (gq s) s.2)=tM s from by unfold eM er tM;rw [if_neg dz];split<;>(first | rfl | (congr 1;grind))] at hO2
 refine aR Tryz.func139 (ht:=(iF (bl.pure _) (bl.pure _))) ?_
 refine bh ?_
 refine cp aO (hM) ?_
 refine a7 ?_
 refine aY 8 al ?_
 refine aQ ?_
 refine cp au (hO1) ?_
 refine aQ ?_
 refine cp au (hO2) ?_
 refine a7 ?_
 exact afP [] rfl rfl rfl (bl.av _) (wi _) jM (.pure (bl.pure _)) rfl rfl (bl.av _) (wi _) jM (.pure (bl.pure _))
namespace avC
theorem aw {p q:Prop} (k:q) (e:p=q:=by simp only [e1,e2,e3,e4,p1,p2,p3,q1,q2,q3,l1,t0,t1,r1,r2,r3,r4,Nat.zero_add,Nat.reduceMul,Nat.reduceAdd,b1,b2,b3,b4,b5,b6,i1,i2,i3,i4,i5,i6,Nat.reduceBEq,iH,eW,aG bl,List.length_map,fo,eO,dW,List.length_cons,List.length_nil,List.nil_append,List.map_nil,List.take_nil,List.append_nil,List.set_cons_zero,List.set_cons_succ,Nat.reduceEqDiff,reduceIte,if_true,if_false,cB,dB,aG aX,aG bz,aG an,cA,cC,LV.kill,bH];exact rfl):p:=e.mpr k
end avC
open avC in
theorem asA (l:List (Rat × Rat)) (h0:0<l.length) (hl:l.length<=1000) (hb:∀ s∈l,dg 1000000 s/\s.1<=s.2):pC ak 77 [.list 6 (l.map aD)] (.ref 1 6 0 l.length) [⟨6,l.map aD,true⟩]:=by
 refine fnO Tryz.func77 ?_
 have iH:True:=trivial
 have eW:True:=trivial
 refine nc ?_
 refine jm (az.own (t:=3) 19 6 rfl rfl) ?_
 refine dI (fun(k:Nat) L=>(((((St.mk L.slot (hp [(19,⟨6,(l.take k).map aD,true⟩)])).put (some 3) (.ref 19 6 0 k)).put (some 6) (.list 6 (l.map aD))).put (some 7) (ae l.length)).put (some 8) (ae k))) (fun k=>k<=l.length) (fun k=>l.length-k) 0 (bS _) ?_
 rintro k L1 hk
 refine ay ?_
 refine aL rfl ?_ ?_<;>intro wg h9
 ·have lS:k<l.length:=by omega
  obtain⟨⟨il,zn⟩,hs3⟩:=hb _ (ajl lS)
  have iH:=aB4 lS
  have eW:((l.take k).map aD).take k=(l.take k).map aD:=cE aai
  have hSO:ax ak 75 [aa (l.getD k default).1,aa (l.getD k default).2] (aD (l.getD k default)):=by
   have:=xN (l.getD k default).1 (l.getD k default).2 J
   have e1x:eM (l.getD k default).1 (l.getD k default).2=(l.getD k default).1:=by unfold eM;split<;>grind
   have e2x:er (l.getD k default).1 (l.getD k default).2=(l.getD k default).2:=by unfold er;split<;>grind
   rw [e1x,e2x] at this
   exact this
  refine nO ?_
  refine cp au (hSO) ?_
  refine ao ?_
  refine bO rfl (.fV (d:=19) (news:=[aD (l.getD k default)]) rfl rfl rfl rfl bq (.inl rfl) ai qd qd aaq avZ cs B48 (.inl ⟨18,0,_,rfl,by decide,rfl,rfl,by simp,rfl,by simp [aK,bl.pure]⟩) bq bq ai) ?_
  refine aB ?_
  refine bR ((az.kill _ 5).trans (az.kill _ 18)) ?_
  refine ah rfl cu ?_
  refine aQ ?_
  exact yb
 ·obtain rfl:k=l.length:=by omega
  have hE:l.take l.length=l:=mQ
  refine bw ?_
  simp only [hE]
  exact aga rfl rfl (aP bl _)
namespace axU
theorem aw {p q:Prop} (k:q) (e:p=q:=by simp only [e1,e2,e3,e4,p1,p2,p3,q1,q2,q3,l1,t0,t1,r1,r2,r3,r4,Nat.zero_add,Nat.reduceMul,Nat.reduceAdd,b1,b2,b3,b4,b5,b6,i1,i2,i3,i4,i5,i6,Nat.reduceBEq,ajN,List.getD_cons_zero,List.set_cons_zero,List.set_cons_succ,Nat.reduceEqDiff,reduceIte,if_true,if_false,cB,dB,aG aX,aG bz,aG an,cA,cC,LV.kill,bH];exact rfl):p:=e.mpr k
end axU
open axU in
theorem aAN (d w:Nat) (hd:d<=24) (hw:w<=4096):ax ak 34 [ajN d w] (bL true):=by
 have hVa:=akX 0 (by have:rl 0=1:=rfl;omega)
 have hSg:=yS 0 (by have:rl 0=1:=rfl;omega)
 refine aR Tryz.func34 ?_
 refine bw ?_
 refine ah (aM (v:=true) rfl rfl ((decide_eq_true J)) rfl) gr ?_
 refine ah (aM (v:=true) rfl rfl ((decide_eq_true J)) rfl) dE ?_
 refine ah (aM (v:=true) rfl rfl ((decide_eq_true J)) rfl) (.bin rfl rfl rfl) ?_
 refine ah rfl (.gU rfl ((decide_eq_true J))) ?_
 refine ao ?_
 refine ah (aM (v:=true) rfl rfl ((decide_eq_true J)) rfl) gr ?_
 refine ah (aM (v:=true) rfl rfl ((decide_eq_true J)) rfl) dE ?_
 refine ah (aM (v:=true) rfl rfl ((decide_eq_true J)) rfl) (.bin rfl rfl rfl) ?_
 refine ah rfl (.gU rfl ((decide_eq_true J))) ?_
 refine ao ?_
 refine ah (aM (v:=true) rfl rfl ((decide_eq_true J)) rfl) gr ?_
 refine ah (aM (v:=true) rfl rfl ((decide_eq_true J)) rfl) dE ?_
 refine ah (aM (v:=true) rfl rfl ((decide_eq_true J)) rfl) (.bin rfl rfl rfl) ?_
 refine ah rfl (.gU rfl ((decide_eq_true J))) ?_
 refine ao ?_
 refine ah (aM (v:=true) rfl rfl ((decide_eq_true J)) rfl) gr ?_
 refine ah (aM (v:=true) rfl rfl ((decide_eq_true J)) rfl) dE ?_
 refine bM (aM (v:=true) rfl rfl ((decide_eq_true J)) rfl) (.cons cG .nil) (hVa) ?_
 refine ah rfl (.gU rfl ((decide_eq_true J))) ?_
 refine ao ?_
 refine ah (aM (v:=true) rfl rfl ((rfl)) rfl) gr ?_
 refine ah (aM (v:=true) rfl rfl ((rfl)) rfl) dE ?_
 refine bM (aM (v:=true) rfl rfl ((rfl)) rfl) (.cons cG .nil) (hSg) ?_
 refine ah (aM (v:=true) rfl rfl ((rfl)) rfl) (.bin rfl rfl rfl) ?_
 refine ah rfl (.gU rfl ((rfl))) ?_
 refine aB ?_
 refine dO (x:=bL (decide (di 0>=0))) rfl ?_
 rw [show decide (di 0>=0)=true from by decide +kernel]
 exact .pure rfl
theorem akh (l:List (Rat × Rat)) (h0:0<l.length) (hl:l.length<=1000) (hb:∀ s∈l,dg 1000000 s/\s.1<=s.2):ax ak 77 [.list 6 (l.map aD)] (.list 6 (l.map aD)):=amU (asA l h0 hl hb) (aP bl _) aW
namespace av8
theorem aw {p q:Prop} (k:q) (e:p=q:=by simp only [e1,e2,e3,e4,p1,p2,p3,q1,q2,q3,l1,t0,t1,r1,r2,r3,r4,Nat.zero_add,Nat.reduceMul,Nat.reduceAdd,b1,b2,b3,b4,b5,b6,i1,i2,i3,i4,i5,i6,Nat.reduceBEq,kH,atS,Int.toNat_natCast,Nat.zero_add,ems,emt,aG bl,aG lQ,List.length_map,List.take_nil,List.nil_append,List.set_cons_zero,List.set_cons_succ,Nat.reduceEqDiff,reduceIte,if_true,if_false,cB,dB,aG aX,aG bz,aG an,cA,cC,LV.kill,bH];exact rfl):p:=e.mpr k
end av8
open av8 in
theorem axA (x:fR) (n D:Nat) (hn:x.1.length=n) (ht:x.2.2.length=n) (h0:0<n) (hn9:n<=10) (hD:x.2.1<=D) (hD9:D<=1000) (htm:∀ t∈x.2.2,0<=t/\t<=1000) (s:Rat × Rat):ax ak 138 [aD s,.ba (.agg [.list 6 (x.1.map aD),ae x.2.1,.list 1 (x.2.2.map eP)]),.ba (ae (fw x))] (kH (yj x s)):=by
 have yh:LV.pure (.agg [.list 6 (x.1.map aD),ae x.2.1,.list 1 (x.2.2.map eP)])=true:=vm x
 have hpS:=aP bl x.1
 have hpT:=aP lQ x.2.2
 have wh:fw x<n:=by
  have:=adh (t:=x.2.2) x.2.2.length (bF _) J
  unfold fw;omega
 have htk:=htm _ (show x.2.2.getD (fw x) 0∈x.2.2 by rw [bE,bY J];exact qx J)
 have ems:(x.1.map aD).set (fw x) (aD s)=(x.1.set (fw x) s).map aD:=auF.symm
 have emt:(x.2.2.map eP).set (fw x) (eP (x.2.2.getD (fw x) 0+1))=(x.2.2.set (fw x) (x.2.2.getD (fw x) 0+1)).map eP:=auF.symm
 refine aR Tryz.func138 (ht:=(fun g=>LV.cQ g _ (vm _))) ?_
 have ems:True:=trivial
 have emt:True:=trivial
 refine bf ?_
 refine ia (fun L=>∃  (L1:St),(True)/\L=((((((St.mk L1.slot (hp [(3,⟨6,[aD s],true⟩),(4,⟨3,[.agg [.v (.slice none 0 0),.v (.int .i64 0),.v (.slice none 0 0)]],true⟩),(5,⟨3,[.agg [.ref 6 6 0 x.1.length,ae (x.2.1+1),.ref 13 1 0 x.2.2.length]],true⟩),(6,⟨6,x.1.map aD,true⟩),(13,⟨1,x.2.2.map eP,true⟩)])).put (some 1) (.ba (.agg [.list 6 (x.1.map aD),ae x.2.1,.list 1 (x.2.2.map eP)]))).put (some 2) (.ba (ae (fw x)))).put (some 3) (.aF 3 6 0 0)).put (some 4) (.aF 4 3 0 0)).put (some 5) (.aF 5 3 0 0))) ?_ ?_
 ·refine ahp ?_
  refine iT 1 rfl rfl al (.pure gr) pQ lb ?_
  refine iT 2 rfl rfl al (.pure (.l9 rfl hpS rfl rfl)) pQ lb ?_
  refine iT 4 rfl rfl al (.pure gr) pQ lb ?_
  refine iT 5 rfl rfl al (.pure dE) pQ lb ?_
  refine iT 6 rfl rfl al (.pure (.bin rfl rfl (acd J))) pQ lb ?_
  refine iT 8 rfl rfl al (.pure gr) pQ lb ?_
  refine iT 9 rfl rfl al (.pure (.l9 rfl hpT rfl rfl)) pQ lb ?_
  refine ab6 0 7 12 _ _ _ al rfl rfl rfl ?_ ?_ ?_
  ·refine ao ?_
   refine aC ?_
   refine ab6 3 7 12 _ _ _ al rfl rfl rfl ?_ ?_ ?_
   ·refine bO rfl wX ?_
    refine aC ?_
    refine eG 7 12 _ _ al rfl rfl ?_ ?_
    ·refine ao ?_
     refine aC ?_
     refine eG 10 12 _ _ al rfl rfl ?_ ?_
     ·refine bO rfl rN ?_
      refine aC ?_
      refine eG 11 12 _ _ al rfl rfl ?_ ?_
      ·refine ao ?_
       refine aC ?_
       refine aS 12 _ al rfl ?_
       refine ao ?_
       refine aC ?_
       refine aS 13 _ al rfl ?_
       refine ao ?_
       refine aC ?_
       refine dt al ?_
       refine ao ?_
       exact⟨_,trivial,((aj (aj (aj (aj (aj (bJ (by first | exact cl | (refine aw ?_;refine jo ?_ ?_<;>repeat (first | exact trivial | refine fF rfl ?_)))) cl) cl) cl) cl) cl)).symm⟩
      ·refine ao ?_
       refine aC ?_
       refine aS 11 _ al rfl ?_
       refine ao ?_
       refine aC ?_
       refine aS 13 _ al rfl ?_
       refine ao ?_
       refine aC ?_
       refine dt al ?_
       refine ao ?_
       exact⟨_,trivial,((aj (aj (aj (aj (aj (bJ (by first | exact cl | (refine aw ?_;refine jo ?_ ?_<;>repeat (first | exact trivial | refine fF rfl ?_)))) cl) cl) cl) cl) cl)).symm⟩
     ·refine ao ?_
      refine aC ?_
      refine aS 10 _ al rfl ?_
      refine bO rfl rN ?_
      refine aC ?_
      refine aS 11 _ al rfl ?_
      refine ao ?_
      refine aC ?_
      refine aS 13 _ al rfl ?_
      refine ao ?_
      refine aC ?_
      refine dt al ?_
      refine ao ?_
      exact⟨_,trivial,((aj (aj (aj (aj (aj (bJ (by first | exact cl | (refine aw ?_;refine jo ?_ ?_<;>repeat (first | exact trivial | refine fF rfl ?_)))) cl) cl) cl) cl) cl)).symm⟩
    ·refine ao ?_
     refine aC ?_
     refine aS 7 _ al rfl ?_
     refine ao ?_
     refine aC ?_
     refine aS 10 _ al rfl ?_
     refine bO rfl rN ?_
     refine aC ?_
     refine aS 11 _ al rfl ?_
     refine ao ?_
     refine aC ?_
     refine aS 13 _ al rfl ?_
     refine ao ?_
     refine aC ?_
     refine dt al ?_
     refine ao ?_
     exact⟨_,trivial,((aj (aj (aj (aj (aj (bJ (by first | exact cl | (refine aw ?_;refine jo ?_ ?_<;>repeat (first | exact trivial | refine fF rfl ?_)))) cl) cl) cl) cl) cl)).symm⟩
   ·refine ao ?_
    refine aC ?_
    refine eG 3 12 _ _ al rfl rfl ?_ ?_
    ·refine bO rfl wX ?_
     refine aC ?_
     refine eG 10 12 _ _ al rfl rfl ?_ ?_
     ·refine bO rfl rN ?_
      refine aC ?_
      refine eG 11 12 _ _ al rfl rfl ?_ ?_
      ·refine ao ?_
       refine aC ?_
       refine aS 12 _ al rfl ?_
       refine ao ?_
       refine aC ?_
       refine aS 13 _ al rfl ?_
       refine ao ?_
       refine aC ?_
       refine dt al ?_
       refine ao ?_
       exact⟨_,trivial,((aj (aj (aj (aj (aj (bJ (by first | exact cl | (refine aw ?_;refine jo ?_ ?_<;>repeat (first | exact trivial | refine fF rfl ?_)))) cl) cl) cl) cl) cl)).symm⟩
      ·refine ao ?_
       refine aC ?_
       refine aS 11 _ al rfl ?_
       refine ao ?_
       refine aC ?_
       refine aS 13 _ al rfl ?_
       refine ao ?_
       refine aC ?_
       refine dt al ?_
       refine ao ?_
       exact⟨_,trivial,((aj (aj (aj (aj (aj (bJ (by first | exact cl | (refine aw ?_;refine jo ?_ ?_<;>repeat (first | exact trivial | refine fF rfl ?_)))) cl) cl) cl) cl) cl)).symm⟩
     ·refine ao ?_
      refine aC ?_
      refine aS 10 _ al rfl ?_
      refine bO rfl rN ?_
      refine aC ?_
      refine aS 11 _ al rfl ?_
      refine ao ?_
      refine aC ?_
      refine aS 13 _ al rfl ?_
      refine ao ?_
      refine aC ?_
      refine dt al ?_
      refine ao ?_
      exact⟨_,trivial,((aj (aj (aj (aj (aj (bJ (by first | exact cl | (refine aw ?_;refine jo ?_ ?_<;>repeat (first | exact trivial | refine fF rfl ?_)))) cl) cl) cl) cl) cl)).symm⟩
    ·refine ao ?_
     refine aC ?_
     refine aS 3 _ al rfl ?_
     refine bO rfl wX ?_
     refine aC ?_
     refine aS 10 _ al rfl ?_
     refine bO rfl rN ?_
     refine aC ?_
     refine aS 11 _ al rfl ?_
     refine ao ?_
     refine aC ?_
     refine aS 13 _ al rfl ?_
     refine ao ?_
     refine aC ?_
     refine dt al ?_
     refine ao ?_
     exact⟨_,trivial,((aj (aj (aj (aj (aj (bJ (by first | exact cl | (refine aw ?_;refine jo ?_ ?_<;>repeat (first | exact trivial | refine fF rfl ?_)))) cl) cl) cl) cl) cl)).symm⟩
   ·refine ao ?_
    refine aC ?_
    refine eG 3 7 _ _ al rfl rfl ?_ ?_
    ·refine bO rfl wX ?_
     refine aC ?_
     refine aS 7 _ al rfl ?_
     refine ao ?_
     refine aC ?_
     refine aS 10 _ al rfl ?_
     refine bO rfl rN ?_
     refine aC ?_
     refine aS 11 _ al rfl ?_
     refine ao ?_
     refine aC ?_
     refine aS 13 _ al rfl ?_
     refine ao ?_
     refine aC ?_
     refine dt al ?_
     refine ao ?_
     exact⟨_,trivial,((aj (aj (aj (aj (aj (bJ (by first | exact cl | (refine aw ?_;refine jo ?_ ?_<;>repeat (first | exact trivial | refine fF rfl ?_)))) cl) cl) cl) cl) cl)).symm⟩
    ·refine ao ?_
     refine aC ?_
     refine aS 3 _ al rfl ?_
     refine bO rfl wX ?_
     refine aC ?_
     refine aS 10 _ al rfl ?_
     refine bO rfl rN ?_
     refine aC ?_
     refine aS 11 _ al rfl ?_
     refine ao ?_
     refine aC ?_
     refine aS 13 _ al rfl ?_
     refine ao ?_
     refine aC ?_
     refine dt al ?_
     refine ao ?_
     exact⟨_,trivial,((aj (aj (aj (aj (aj (bJ (by first | exact cl | (refine aw ?_;refine jo ?_ ?_<;>repeat (first | exact trivial | refine fF rfl ?_)))) cl) cl) cl) cl) cl)).symm⟩
  ·refine ao ?_
   refine aC ?_
   refine eG 0 12 _ _ al rfl rfl ?_ ?_
   ·refine ao ?_
    refine aC ?_
    refine eG 3 12 _ _ al rfl rfl ?_ ?_
    ·refine bO rfl wX ?_
     refine aC ?_
     refine eG 10 12 _ _ al rfl rfl ?_ ?_
     ·refine bO rfl rN ?_
      refine aC ?_
      refine eG 11 12 _ _ al rfl rfl ?_ ?_
      ·refine ao ?_
       refine aC ?_
       refine aS 12 _ al rfl ?_
       refine ao ?_
       refine aC ?_
       refine aS 13 _ al rfl ?_
       refine ao ?_
       refine aC ?_
       refine dt al ?_
       refine ao ?_
       exact⟨_,trivial,((aj (aj (aj (aj (aj (bJ (by first | exact cl | (refine aw ?_;refine jo ?_ ?_<;>repeat (first | exact trivial | refine fF rfl ?_)))) cl) cl) cl) cl) cl)).symm⟩
      ·refine ao ?_
       refine aC ?_
       refine aS 11 _ al rfl ?_
       refine ao ?_
       refine aC ?_
       refine aS 13 _ al rfl ?_
       refine ao ?_
       refine aC ?_
       refine dt al ?_
       refine ao ?_
       exact⟨_,trivial,((aj (aj (aj (aj (aj (bJ (by first | exact cl | (refine aw ?_;refine jo ?_ ?_<;>repeat (first | exact trivial | refine fF rfl ?_)))) cl) cl) cl) cl) cl)).symm⟩
     ·refine ao ?_
      refine aC ?_
      refine aS 10 _ al rfl ?_
      refine bO rfl rN ?_
      refine aC ?_
      refine aS 11 _ al rfl ?_
      refine ao ?_
      refine aC ?_
      refine aS 13 _ al rfl ?_
      refine ao ?_
      refine aC ?_
      refine dt al ?_
      refine ao ?_
      exact⟨_,trivial,((aj (aj (aj (aj (aj (bJ (by first | exact cl | (refine aw ?_;refine jo ?_ ?_<;>repeat (first | exact trivial | refine fF rfl ?_)))) cl) cl) cl) cl) cl)).symm⟩
    ·refine ao ?_
     refine aC ?_
     refine aS 3 _ al rfl ?_
     refine bO rfl wX ?_
     refine aC ?_
     refine aS 10 _ al rfl ?_
     refine bO rfl rN ?_
     refine aC ?_
     refine aS 11 _ al rfl ?_
     refine ao ?_
     refine aC ?_
     refine aS 13 _ al rfl ?_
     refine ao ?_
     refine aC ?_
     refine dt al ?_
     refine ao ?_
     exact⟨_,trivial,((aj (aj (aj (aj (aj (bJ (by first | exact cl | (refine aw ?_;refine jo ?_ ?_<;>repeat (first | exact trivial | refine fF rfl ?_)))) cl) cl) cl) cl) cl)).symm⟩
   ·refine ao ?_
    refine aC ?_
    refine aS 0 _ al rfl ?_
    refine ao ?_
    refine aC ?_
    refine aS 3 _ al rfl ?_
    refine bO rfl wX ?_
    refine aC ?_
    refine aS 10 _ al rfl ?_
    refine bO rfl rN ?_
    refine aC ?_
    refine aS 11 _ al rfl ?_
    refine ao ?_
    refine aC ?_
    refine aS 13 _ al rfl ?_
    refine ao ?_
    refine aC ?_
    refine dt al ?_
    refine ao ?_
    exact⟨_,trivial,((aj (aj (aj (aj (aj (bJ (by first | exact cl | (refine aw ?_;refine jo ?_ ?_<;>repeat (first | exact trivial | refine fF rfl ?_)))) cl) cl) cl) cl) cl)).symm⟩
  ·refine ao ?_
   refine aC ?_
   refine eG 0 7 _ _ al rfl rfl ?_ ?_
   ·refine ao ?_
    refine aC ?_
    refine eG 3 7 _ _ al rfl rfl ?_ ?_
    ·refine bO rfl wX ?_
     refine aC ?_
     refine aS 7 _ al rfl ?_
     refine ao ?_
     refine aC ?_
     refine aS 10 _ al rfl ?_
     refine bO rfl rN ?_
     refine aC ?_
     refine aS 11 _ al rfl ?_
     refine ao ?_
     refine aC ?_
     refine aS 13 _ al rfl ?_
     refine ao ?_
     refine aC ?_
     refine dt al ?_
     refine ao ?_
     exact⟨_,trivial,((aj (aj (aj (aj (aj (bJ (by first | exact cl | (refine aw ?_;refine jo ?_ ?_<;>repeat (first | exact trivial | refine fF rfl ?_)))) cl) cl) cl) cl) cl)).symm⟩
    ·refine ao ?_
     refine aC ?_
     refine aS 3 _ al rfl ?_
     refine bO rfl wX ?_
     refine aC ?_
     refine aS 10 _ al rfl ?_
     refine bO rfl rN ?_
     refine aC ?_
     refine aS 11 _ al rfl ?_
     refine ao ?_
     refine aC ?_
     refine aS 13 _ al rfl ?_
     refine ao ?_
     refine aC ?_
     refine dt al ?_
     refine ao ?_
     exact⟨_,trivial,((aj (aj (aj (aj (aj (bJ (by first | exact cl | (refine aw ?_;refine jo ?_ ?_<;>repeat (first | exact trivial | refine fF rfl ?_)))) cl) cl) cl) cl) cl)).symm⟩
   ·refine ao ?_
    refine aC ?_
    refine aS 0 _ al rfl ?_
    refine ao ?_
    refine aC ?_
    refine aS 3 _ al rfl ?_
    refine bO rfl wX ?_
    refine aC ?_
    refine aS 10 _ al rfl ?_
    refine bO rfl rN ?_
    refine aC ?_
    refine aS 11 _ al rfl ?_
    refine ao ?_
    refine aC ?_
    refine aS 13 _ al rfl ?_
    refine ao ?_
    refine aC ?_
    refine dt al ?_
    refine ao ?_
    exact⟨_,trivial,((aj (aj (aj (aj (aj (bJ (by first | exact cl | (refine aw ?_;refine jo ?_ ?_<;>repeat (first | exact trivial | refine fF rfl ?_)))) cl) cl) cl) cl) cl)).symm⟩
 ·rintro _ ⟨LR1,-,rfl⟩
  refine nO ?_
  try refine aw ?_
  refine ah rfl afa ?_
  refine bC ?_
  exact fi [6,13] rfl rfl rfl cs (cr cs rfl) xk (.agg (.cons (dH (l:=x.1.set (fw x) s) bl rfl rfl aW) (.cons (.pure rfl) (.cons (dH (l:=x.2.2.set (fw x) (x.2.2.getD (fw x) 0+1)) lQ rfl rfl aW) .nil))))
namespace ax3
theorem aw {p q:Prop} (k:q) (e:p=q:=by simp only [e1,e2,e3,e4,p1,p2,p3,q1,q2,q3,l1,t0,t1,r1,r2,r3,r4,Nat.zero_add,Nat.reduceMul,Nat.reduceAdd,b1,b2,b3,b4,b5,b6,i1,i2,i3,i4,i5,i6,Nat.reduceBEq,ht,kH,atS,Int.toNat_natCast,Nat.zero_add,els,p9,agz,List.length_map,List.set_cons_zero,List.set_cons_succ,Nat.reduceEqDiff,reduceIte,if_true,if_false,cB,dB,aG aX,aG bz,aG an,cA,cC,LV.kill,bH];exact rfl):p:=e.mpr k
end ax3
open ax3 in
theorem amb (x:fR) (n D:Nat) (hn:x.1.length=n) (ht:x.2.2.length=n) (h0:0<n) (hn9:n<=10) (hD:x.2.1<=D) (hD9:D<=1000) (htm:∀ t∈x.2.2,0<=t/\t<=1000) (R:Nat) (hR:R<=10000) (hs:∀ s∈x.1,dg R s/\s.1<=s.2):ax ak 79 [.agg [.list 6 (x.1.map aD),ae x.2.1,.list 1 (x.2.2.map eP)]] (.a9 [kH (oY x),kH (pF x)]):=by
 have yh:LV.pure (.agg [.list 6 (x.1.map aD),ae x.2.1,.list 1 (x.2.2.map eP)])=true:=vm x
 have hpS:=aP bl x.1
 have hpT:=aP lQ x.2.2
 have wh:fw x<n:=by
  have:=adh (t:=x.2.2) x.2.2.length (bF _) J
  unfold fw;omega
 have htk:=htm _ (show x.2.2.getD (fw x) 0∈x.2.2 by rw [bE,bY J];exact qx J)
 have hsk:=hs (x.1.getD (fw x) default) (by rw [bE,bY J];exact qx J)
 have hH:=aGh (x.1.getD (fw x) default) R hR hsk.1 hsk.2
 have fx:aK ([.ba (.agg [.list 6 (x.1.map aD),ae x.2.1,.list 1 (x.2.2.map eP)]),.ba (ae (fw x))]:List LV)=true:=by simp [aK,LV.pure,aP bl,aP lQ]
 have jB:∀ y∈([.ba (.agg [.list 6 (x.1.map aD),ae x.2.1,.list 1 (x.2.2.map eP)]),.ba (ae (fw x))]:List LV),y.av=1/\y.isAgg=false:=fun y hy=>by
  simp only [ff,iq,or_false] at hy
  rcases hy with e | e<;>rw [e]<;>exact⟨rfl,rfl⟩
 have hA:=axA x n D hn ht h0 hn9 hD hD9 htm (sO (x.1.getD (fw x) default))
 have hB:=axA x n D hn ht h0 hn9 hD hD9 htm (tM (x.1.getD (fw x) default))
 refine aR Tryz.func79 (ht:=(iF (vm _) (vm _))) ?_
 have els:True:=trivial
 refine aaJ ?_
 refine dI (fun(i:Nat) L=>((((((((St.mk L.slot (hp [(1,⟨3,[.agg [.list 6 (x.1.map aD),ae x.2.1,.list 1 (x.2.2.map eP)]],true⟩),(2,⟨3,[.agg [.v (.slice none 0 0),.v (.int .i64 0),.v (.slice none 0 0)]],true⟩),(3,⟨3,[.agg [.v (.slice none 0 0),.v (.int .i64 0),.v (.slice none 0 0)]],true⟩),(4,⟨1,[ae (yx x.2.2 i)],true⟩)])).put (some 1) (.aF 1 3 0 0)).put (some 2) (.aF 2 3 0 0)).put (some 3) (.aF 3 3 0 0)).put (some 4) (.aF 4 1 0 0)).put (some 11) (.list 1 (x.2.2.map eP))).put (some 12) (ae n)).put (some 13) (ae i))) (fun i=>i<=n) (fun i=>n-i) 0 (bS _) ?_
 rintro i L1 hi
 refine ay ?_
 refine aL rfl ?_ ?_<;>intro um nA
 ·have dq:i<n:=by omega
  have hli:=adh (t:=x.2.2) i J J
  refine yE ?_
  refine aL rfl ?_ ?_<;>intro rG vz
  ·have els:yx x.2.2 (i+1)=i:=if_pos vz
   refine bf ?_
   refine ah rfl cu ?_
   refine aQ ?_
   exact lK
  ·have els:yx x.2.2 (i+1)=yx x.2.2 i:=if_neg vz
   refine aB ?_
   refine ah rfl cu ?_
   refine aQ ?_
   exact lK
 ·obtain rfl:n=i:=by omega
  have hE9:yx x.2.2 n=fw x:=by unfold fw;rw [ht]
  simp only [hE9]
  refine bf ?_
  refine eN [1,4] rfl rfl (.mk (caps:=([.ba (.agg [.list 6 (x.1.map aD),ae x.2.1,.list 1 (x.2.2.map eP)]),.ba (ae (fw x))]:List LV)) (.cons (.aF rfl rfl rfl cs (cr cs rfl) yh rfl) (.cons (.aF (n:=1) (ag:=false) rfl rfl rfl rfl rfl rfl rfl) .nil)) jB) rfl ?_
  refine bh ?_
  refine cp aO (hH) ?_
  refine bh ?_
  refine aY 6 al ?_
  refine aH ?_
  refine eN [] rfl rfl (.bQ (f:=138) (cap:=([.ba (.agg [.list 6 (x.1.map aD),ae x.2.1,.list 1 (x.2.2.map eP)]),.ba (ae (fw x))]:List LV)) (args:=[aD (sO (x.1.getD (fw x) default))]) rfl (.cons (.pure (bl.pure _)) .nil) ⟨fx,jB⟩ hA.1 ai (fun _ h=>by cases h)) (hA.2 _) ?_
  refine aH ?_
  refine eN [] rfl rfl (.bQ (f:=138) (cap:=([.ba (.agg [.list 6 (x.1.map aD),ae x.2.1,.list 1 (x.2.2.map eP)]),.ba (ae (fw x))]:List LV)) (args:=[aD (tM (x.1.getD (fw x) default))]) rfl (.cons (.pure (bl.pure _)) .nil) ⟨fx,jB⟩ hB.1 ai (fun _ h=>by cases h)) (hB.2 _) ?_
  refine a7 ?_
  exact afP [] rfl rfl rfl cs (cr cs rfl) xk (.pure (vm _)) rfl rfl cs (cr cs rfl) xk (.pure (vm _))
theorem aI3 (a b:Rat):aD (a,b)=.agg [aa a,aa b]:=by unfold aD;rfl
def qi (a b c:jt):LV:=.agg [fY ⟨a.x,b.x,c.x⟩,fY ⟨a.y,b.y,c.y⟩,fY ⟨a.z,b.z,c.z⟩]
theorem adO (a b c:jt):(qi a b c).pure=true:=by simp [qi,LV.pure,aK,bl.pure]
theorem ani {R:Nat} {s:Rat × Rat} (h:dg R s):dg R (ngS s):=⟨by show rl (-s.2)<=R;rw [anh];exact h.2,by show rl (-s.1)<=R;rw [anh];exact h.1⟩
theorem apV {R:Nat} {b:jt} (h:gI R b):gI R (pj b):=⟨ani h.1,ani h.2.1,ani h.2.2⟩
theorem aCy {R S:Nat} {s t:Rat × Rat} (hs:dg R s) (ht:dg S t):dg (R+S+1) (adS s t):=⟨bb (nZ _ _) (by have:=hs.1;have:=ht.1;omega),bb (nZ _ _) (by have:=hs.2;have:=ht.2;omega)⟩
theorem ac7 {R:Nat} {p q r s:Rat × Rat} (hp:dg R p) (hq:dg R q) (hr:dg R r) (hs:dg R s):dg (4*R+1) (qQ p q r s):=(aiC (wB hp hs) (wB hq hr)).le J
theorem aI2 {R:Nat} {a b c:jt} (ha:gI R a) (hb:gI R b) (hc:gI R c):dg (20*R+10) (d3S a b c):=by
 obtain⟨a1,a2,a3⟩:=ha
 obtain⟨y1,y2,y3⟩:=hb
 obtain⟨z1,z2,z3⟩:=hc
 exact(aCy (aiC (wB a1 (ac7 y2 z2 y3 z3)) (wB y1 (ac7 a2 z2 a3 z3))) (wB z1 (ac7 a2 y2 a3 y3))).le J
theorem aDw {P:Program} {H:b9} {ρ:Operand->LV} {T:TypeId} (hl:kR P T [(3,true),(3,true)]) (hz:cF P T (aD (0,0))):aN P H ρ (.build T #[]) (aD (0,0)):=by
 have e:[aa 0,aa 0].map lay=[(3,true),(3,true)]:=by simp [lay,an.av,an.isAgg]
 rw [aI3] at hz ⊢
 exact .build (zs:=[aa 0,aa 0]) (e ▸ hl) hz (by intro p hp;cases hp)
theorem aI1 {x y z v:LV} (hx:x.av=18) (hy:y.av=18) (hz:z.av=18) (hv:v.av=18) (xa:x.isAgg=true) (va:v.isAgg=true):(LV.agg [x,y,z]).put 0 v=some (.agg [v,y,z]):=by
 have:=yp x v (hx.trans hv.symm) (xa.trans va.symm)
 simp [LV.put,qY,cL,hx,hy,hz,hv,this]
theorem aFs {x y z v:LV} (hx:x.av=18) (hy:y.av=18) (hz:z.av=18) (hv:v.av=18) (ya:y.isAgg=true) (va:v.isAgg=true):(LV.agg [x,y,z]).put 18 v=some (.agg [x,v,z]):=by
 have:=yp y v (hy.trans hv.symm) (ya.trans va.symm)
 simp [LV.put,qY,cL,hx,hy,hz,hv,this]
theorem aJT {x y z v:LV} (hx:x.av=18) (hy:y.av=18) (hz:z.av=18) (hv:v.av=18) (za:z.isAgg=true) (va:v.isAgg=true):(LV.agg [x,y,z]).put 36 v=some (.agg [x,y,v]):=by
 have:=yp z v (hz.trans hv.symm) (za.trans va.symm)
 simp [LV.put,qY,cL,hx,hy,hz,hv,this]
theorem ajb {P:Program} {H:b9} {ρ:Operand->LV} {T E:TypeId} {n:Nat} {ag:Bool} {o0 o1 o2:Operand} {z v0 v1 v2:LV} (hT:P.underlying T=some (.array 3 E)) (t:bK P E n ag) (hz:cF P T (.agg [z,z,z])) (zl:lay z=(n,ag)) (h0:ρ o0=v0) (h1:ρ o1=v1) (h2:ρ o2=v2)
  (l0:lay v0=(n,ag)) (l1:lay v1=(n,ag)) (l2:lay v2=(n,ag)) (p0:v0.pure=true) (v5:v1.pure=true) (sF:v2.pure=true):aN P H ρ (.build T #[(0,o0),(1,o1),(2,o2)]) (.agg [v0,v1,v2]):=by
 have:=aN.yT (P:=P) (H:=H) (ρ:=ρ) (zs:=[z,z,z]) (ps:=#[(0,o0),(1,o1),(2,o2)]) hT t (by simp [zl]) hz (by
  intro p hp
  simp only [ff,iq,or_false] at hp
  rcases hp with rfl | rfl | rfl
  ·exact⟨_,rfl,by rw [h0,l0,zl],by rw [h0];exact LV.dT p0,by rw [h0];exact LV.dG p0⟩
  ·exact⟨_,rfl,by rw [h1,l1,zl],by rw [h1];exact LV.dT v5,by rw [h1];exact LV.dG v5⟩
  ·exact⟨_,rfl,by rw [h2,l2,zl],by rw [h2];exact LV.dT sF,by rw [h2];exact LV.dG sF⟩)
 simpa only [jK,uL,vx,vZ,h0,h1,h2] using this
theorem uW {P:Program} {H:b9} {ρ:Operand->LV} {T E:TypeId} {n:Nat} {ag:Bool} {o0 o1:Operand} {z v0 v1:LV} (hT:P.underlying T=some (.array 2 E)) (t:bK P E n ag) (hz:cF P T (.agg [z,z])) (zl:lay z=(n,ag)) (h0:ρ o0=v0) (h1:ρ o1=v1)
  (l0:lay v0=(n,ag)) (l1:lay v1=(n,ag)) (p0:v0.pure=true) (v5:v1.pure=true):aN P H ρ (.build T #[(0,o0),(1,o1)]) (.agg [v0,v1]):=by
 have:=aN.yT (P:=P) (H:=H) (ρ:=ρ) (zs:=[z,z]) (ps:=#[(0,o0),(1,o1)]) hT t (by simp [zl]) hz (by
  intro p hp
  simp only [ff,iq,or_false] at hp
  rcases hp with rfl | rfl
  ·exact⟨_,rfl,by rw [h0,l0,zl],by rw [h0];exact LV.dT p0,by rw [h0];exact LV.dG p0⟩
  ·exact⟨_,rfl,by rw [h1,l1,zl],by rw [h1];exact LV.dT v5,by rw [h1];exact LV.dG v5⟩)
 simpa only [jK,uL,vx,vZ,h0,h1] using this
theorem lz {p:Prop} (h:p:=by first | rfl | simp [lay,LV.av,cL,s6,an.av,bl.av,an.isAgg,bl.isAgg]):p:=h
open H0 in
theorem z5 (q:Rat) (h:rl q<=274877906944):ax ak 203 [aa q] (aa (-q)):=by
 refine aR Tryz.func203 ?_
 refine bB ?_
 refine cp aO (ajP q J) ?_
 refine bB ?_
 refine ep 8 rfl ?_ ?_<;>intro re h8
 ·refine ay ?_
  refine bO rfl (.avE rfl rfl rfl T4 (by first | exact arx re | exact auB re)) ?_
  refine bB ?_
  exact jJ
 ·refine ay ?_
  refine bO rfl (.avE rfl rfl rfl T4 (by first | exact arx re | exact auB re)) ?_
  refine bB ?_
  exact jJ
open ig in
theorem alz (s:Rat × Rat) (R:Nat) (hR:R<=1000000000) (hs:dg R s):ax ak 165 [aD s] (aD (ngS s)):=by
 obtain⟨a1,a2⟩:=hs
 refine aR Tryz.func165 ?_
 refine bf ?_
 refine aY 7 al ?_
 refine aH ?_
 refine cp aO (z5 s.2 J) ?_
 refine aH ?_
 refine cp aO (z5 s.1 J) ?_
 refine a7 ?_
 exact od
open ig in
theorem aCp (s t:Rat × Rat) (R:Nat) (hR:R<=100000000000) (hs:dg R s) (ht:dg R t):ax ak 168 [aD s,aD t] (aD (adS s t)):=by
 obtain⟨a1,a2⟩:=hs
 obtain⟨y1,y2⟩:=ht
 refine aR Tryz.func168 ?_
 refine bg ?_
 refine aY 11 al ?_
 refine aB ?_
 refine cp au (fA s.1 t.1 J) ?_
 refine aB ?_
 refine cp au (fA s.2 t.2 J) ?_
 refine a7 ?_
 exact od
open ig in
theorem adj (s t:Rat × Rat) (R:Nat) (hR:R<=100000000000) (hs:dg R s) (ht:dg R t) (hm:mo s t=true):ax ak 86 [aD s,aD t] (.a9 [aD (er s.1 t.1,eM s.2 t.2),bL true]):=by
 obtain⟨a1,a2⟩:=hs
 obtain⟨y1,y2⟩:=ht
 have hle:=of_decide_eq_true hm
 have qG:rl (er s.1 t.1)<=R:=by unfold er;split<;>assumption
 have r7:rl (eM s.2 t.2)<=R:=by unfold eM;split<;>assumption
 have hcm:¬gp (er s.1 t.1) (eM s.2 t.2) > 0:=fun e=>by have:=sv.1 e;grind
 refine aR aub (ht:=(iF (bl.pure _) rfl)) ?_
 refine bB ?_
 refine aY 12 al ?_
 refine aB ?_
 refine cp au ((ah2 s.1 t.1 J:ax ak 136 [aa s.1,aa t.1] (aa (er s.1 t.1)))) ?_
 refine aB ?_
 refine cp au ((ajg s.2 t.2 J:ax ak 135 [aa s.2,aa t.2] (aa (eM s.2 t.2)))) ?_
 refine bw ?_
 refine cp au (mG (er s.1 t.1) (eM s.2 t.2) J) ?_
 refine aQ ?_
 refine dp (b:=_) rfl (decide_eq_false hcm) ?_
 refine bh ?_
 exact qE [] rfl rfl rfl (bl.av _) (wi _) jM (.pure (bl.pure _)) rfl (.pure rfl)
open ig in
theorem amJ (s t:Rat × Rat) (R:Nat) (hR:R<=100000000000) (hs:dg R s) (ht:dg R t) (hm:mo s t=false):ax ak 86 [aD s,aD t] (.a9 [aD (0,0),bL false]):=by
 obtain⟨a1,a2⟩:=hs
 obtain⟨y1,y2⟩:=ht
 have hle:=of_decide_eq_false hm
 have qG:rl (er s.1 t.1)<=R:=by unfold er;split<;>assumption
 have r7:rl (eM s.2 t.2)<=R:=by unfold eM;split<;>assumption
 have hcm:gp (er s.1 t.1) (eM s.2 t.2) > 0:=sv.2 dz
 refine aR aub (ht:=(iF (bl.pure _) rfl)) ?_
 refine bB ?_
 refine aY 12 al ?_
 refine aB ?_
 refine cp au ((ah2 s.1 t.1 J:ax ak 136 [aa s.1,aa t.1] (aa (er s.1 t.1)))) ?_
 refine aB ?_
 refine cp au ((ajg s.2 t.2 J:ax ak 135 [aa s.2,aa t.2] (aa (eM s.2 t.2)))) ?_
 refine bw ?_
 refine cp au (mG (er s.1 t.1) (eM s.2 t.2) J) ?_
 refine aQ ?_
 refine bI (b:=_) rfl (decide_eq_true hcm) ?_
 refine aH ?_
 refine ah rfl (aDw apF aaq) ?_
 refine ay ?_
 exact qE [] rfl rfl rfl (bl.av _) (wi _) jM (.pure (bl.pure _)) rfl (.pure rfl)
namespace xW
theorem aw {p q:Prop} (k:q) (e:p=q:=by simp only [e1,e2,e3,e4,p1,p2,p3,q1,q2,q3,l1,t0,t1,r1,r2,r3,r4,Nat.zero_add,Nat.reduceMul,Nat.reduceAdd,b1,b2,b3,b4,b5,b6,i1,i2,i3,i4,i5,i6,Nat.reduceBEq,List.getD_cons_zero,List.getD_cons_succ,List.set_cons_zero,List.set_cons_succ,Nat.reduceEqDiff,reduceIte,if_true,if_false,cB,dB,aG aX,aG bz,aG an,cA,cC,LV.kill,bH];exact rfl):p:=e.mpr k
end xW
open xW in
theorem als (p q r s:Rat × Rat) (R:Nat) (hR:R<=100000000) (hp9:dg R p) (hq9:dg R q) (hr9:dg R r) (hs9:dg R s):ax ak 167 [.agg [.agg [aD p,aD q],.agg [aD r,aD s]]] (aD (qQ p q r s)):=by
 have m1:=wB hp9 hs9
 have m2:=wB hq9 hr9
 refine aR Tryz.func167 (ht:=(fun r=>LV.cQ r _ (bl.pure _))) ?_
 refine bf ?_
 refine aY 15 al ?_
 refine ay ?_
 refine cp au (adW p s R J hp9 hs9) ?_
 refine ay ?_
 refine cp au (adW q r R J hq9 hr9) ?_
 refine cp au (amA (kz p s) (kz q r) (R+R) J m1 m2) ?_
 refine aB ?_
 exact od
open xW in
theorem aHs (a b:jt) (R:Nat) (hR:R<=100000000000) (ha:gI R a) (hb:gI R b) (iS:mo a.x b.x=true) (jI:mo a.y b.y=true) (fc:mo a.z b.z=true):ax ak 40 [fY a,fY b] (bL true):=by
 obtain⟨a1,a2,a3⟩:=ha
 obtain⟨y1,y2,y3⟩:=hb
 refine aR aiY ?_
 refine df ?_
 refine bc ?_
 refine ay ?_
 refine bI (b:=_) rfl ai ?_
 refine bC ?_
 refine eZ 11 [9] al ?_
 refine ay ?_
 refine cp au (adj a.x b.x R hR a1 y1 iS) ?_
 refine df ?_
 refine dp (b:=_) rfl (rfl) ?_
 refine aQ ?_
 refine bR (az.kill _ 6) ?_
 refine aB ?_
 refine bc ?_
 refine ay ?_
 refine bI (b:=_) rfl ai ?_
 refine bC ?_
 refine eZ 11 [9] al ?_
 refine ay ?_
 refine cp au (adj a.y b.y R hR a2 y2 jI) ?_
 refine df ?_
 refine dp (b:=_) rfl (rfl) ?_
 refine aQ ?_
 refine bR (az.kill _ 6) ?_
 refine aB ?_
 refine bc ?_
 refine ay ?_
 refine bI (b:=_) rfl ai ?_
 refine bC ?_
 refine eZ 11 [9] al ?_
 refine ay ?_
 refine cp au (adj a.z b.z R hR a3 y3 fc) ?_
 refine df ?_
 refine dp (b:=_) rfl (rfl) ?_
 refine aQ ?_
 refine bR (az.kill _ 6) ?_
 refine aB ?_
 refine bc ?_
 refine ay ?_
 refine dp (b:=_) rfl ai ?_
 refine bC ?_
 exact jL
open xW in
theorem aAL (a b:jt) (R:Nat) (hR:R<=100000000000) (ha:gI R a) (hb:gI R b) (iS:mo a.x b.x=true) (jI:mo a.y b.y=true) (fc:mo a.z b.z=false):ax ak 40 [fY a,fY b] (bL false):=by
 obtain⟨a1,a2,a3⟩:=ha
 obtain⟨y1,y2,y3⟩:=hb
 refine aR aiY ?_
 refine df ?_
 refine bc ?_
 refine ay ?_
 refine bI (b:=_) rfl ai ?_
 refine bC ?_
 refine eZ 11 [9] al ?_
 refine ay ?_
 refine cp au (adj a.x b.x R hR a1 y1 iS) ?_
 refine df ?_
 refine dp (b:=_) rfl (rfl) ?_
 refine aQ ?_
 refine bR (az.kill _ 6) ?_
 refine aB ?_
 refine bc ?_
 refine ay ?_
 refine bI (b:=_) rfl ai ?_
 refine bC ?_
 refine eZ 11 [9] al ?_
 refine ay ?_
 refine cp au (adj a.y b.y R hR a2 y2 jI) ?_
 refine df ?_
 refine dp (b:=_) rfl (rfl) ?_
 refine aQ ?_
 refine bR (az.kill _ 6) ?_
 refine aB ?_
 refine bc ?_
 refine ay ?_
 refine bI (b:=_) rfl ai ?_
 refine bC ?_
 refine eZ 11 [9] al ?_
 refine ay ?_
 refine cp au (amJ a.z b.z R hR a3 y3 fc) ?_
 refine df ?_
 refine bI (b:=_) rfl (rfl) ?_
 refine bC ?_
 exact jL
open xW in
theorem aAe (a b:jt) (R:Nat) (hR:R<=100000000000) (ha:gI R a) (hb:gI R b) (iS:mo a.x b.x=true) (jI:mo a.y b.y=false):ax ak 40 [fY a,fY b] (bL false):=by
 obtain⟨a1,a2,a3⟩:=ha
 obtain⟨y1,y2,y3⟩:=hb
 refine aR aiY ?_
 refine df ?_
 refine bc ?_
 refine ay ?_
 refine bI (b:=_) rfl ai ?_
 refine bC ?_
 refine eZ 11 [9] al ?_
 refine ay ?_
 refine cp au (adj a.x b.x R hR a1 y1 iS) ?_
 refine df ?_
 refine dp (b:=_) rfl (rfl) ?_
 refine aQ ?_
 refine bR (az.kill _ 6) ?_
 refine aB ?_
 refine bc ?_
 refine ay ?_
 refine bI (b:=_) rfl ai ?_
 refine bC ?_
 refine eZ 11 [9] al ?_
 refine ay ?_
 refine cp au (amJ a.y b.y R hR a2 y2 jI) ?_
 refine df ?_
 refine bI (b:=_) rfl (rfl) ?_
 refine bC ?_
 exact jL
open xW in
theorem aIV (a b:jt) (R:Nat) (hR:R<=100000000000) (ha:gI R a) (hb:gI R b) (iS:mo a.x b.x=false):ax ak 40 [fY a,fY b] (bL false):=by
 obtain⟨a1,a2,a3⟩:=ha
 obtain⟨y1,y2,y3⟩:=hb
 refine aR aiY ?_
 refine df ?_
 refine bc ?_
 refine ay ?_
 refine bI (b:=_) rfl ai ?_
 refine bC ?_
 refine eZ 11 [9] al ?_
 refine ay ?_
 refine cp au (amJ a.x b.x R hR a1 y1 iS) ?_
 refine df ?_
 refine bI (b:=_) rfl (rfl) ?_
 refine bC ?_
 exact jL
theorem azP (a b:jt) (R:Nat) (hR:R<=100000000000) (ha:gI R a) (hb:gI R b):ax ak 40 [fY a,fY b] (bL (meB a b)):=by
 unfold meB
 cases h0:mo a.x b.x with
 | false=>exact aIV a b R hR ha hb h0
 | true =>
  cases h1:mo a.y b.y with
  | false=>exact aAe a b R hR ha hb h0 h1
  | true =>
   cases h2:mo a.z b.z with
   | false=>exact aAL a b R hR ha hb h0 h1 h2
   | true=>exact aHs a b R hR ha hb h0 h1 h2
open ig in
theorem aIw (s:Rat × Rat) (h1:rl s.1<=200000000000) (h2:rl s.2<=200000000000):ax ak 258 [aD s] (.a9 [iL (if di s.1=di s.2 then di s.1 else 0),bL (decide (di s.1=di s.2))]):=by
 refine aR Tryz.func258 (ht:=(iF rfl rfl)) ?_
 refine bg ?_
 refine aY 8 al ?_
 refine aH ?_
 refine cp aO (yS _ J) ?_
 refine aH ?_
 refine cp aO (yS _ J) ?_
 refine bw ?_
 refine aL rfl ?_ ?_<;>intro um nA
 ·refine bg ?_
  rw [if_neg nA,decide_eq_false nA]
  exact aak
 ·refine bh ?_
  have at2:di s.1=di s.2:=by simpa using nA
  rw [if_pos at2,decide_eq_true at2]
  exact aak
namespace avo
theorem aw {p q:Prop} (k:q) (e:p=q:=by simp only [e1,e2,e3,e4,p1,p2,p3,q1,q2,q3,l1,t0,t1,r1,r2,r3,r4,Nat.zero_add,Nat.reduceMul,Nat.reduceAdd,b1,b2,b3,b4,b5,b6,i1,i2,i3,i4,i5,i6,Nat.reduceBEq,eW,iH,aG aX,List.length_map,fo,eO,dW,List.length_cons,List.length_nil,List.nil_append,List.map_nil,List.take_nil,List.append_nil,List.set_cons_zero,List.set_cons_succ,Nat.reduceEqDiff,reduceIte,if_true,if_false,cB,dB,aG aX,aG bz,aG an,cA,cC,LV.kill,bH];exact rfl):p:=e.mpr k
end avo
open avo in
theorem ajq (po:List ar) (h0:0<po.length) (hl:po.length<=1000):ax ak 117 [.list 12 (po.map bm)] (.list 9 ((po.map (·.p)).map aE)):=by
 refine aR Tryz.func117 (ht:=(fun g=>LV.cQ g _ (cd aX _ _))) ?_
 have eW:True:=trivial
 have iH:True:=trivial
 refine nc ?_
 refine jm (az.own (t:=3) 16 9 rfl rfl) ?_
 refine dI (fun(j:Nat) L=>(((((St.mk L.slot (hp [(16,⟨9,((po.map (·.p)).take j).map aE,true⟩)])).put (some 3) (.ref 16 9 0 j)).put (some 6) (.list 12 (po.map bm))).put (some 7) (ae po.length)).put (some 8) (ae j))) (fun j=>j<=po.length) (fun j=>po.length-j) 0 (bS _) ?_
 rintro j L1 hj
 refine ay ?_
 refine aL rfl ?_ ?_<;>intro wg h9
 ·have dL:j<po.length:=by omega
  have iH:(po.map (·.p)).take j++[(po.getD j default).p]=(po.map (·.p)).take (j+1):=abZ (fun q:ar=>q.p) po dL
  have eW:(((po.map (·.p)).take j).map aE).take j=((po.map (·.p)).take j).map aE:=cE bq
  refine iY ?_
  refine bO rfl (.fV (d:=16) (news:=[aE (po.getD j default).p]) rfl rfl rfl rfl bq (.inl rfl) ai ox ox Z54 iQ cs B54 (.inl ⟨15,0,_,rfl,by decide,rfl,rfl,by simp,rfl,by simp [aK,aX.pure]⟩) bq bq ai) ?_
  refine aB ?_
  refine bR ((az.kill _ 5).trans (az.kill _ 15)) ?_
  refine ah rfl cu ?_
  refine aQ ?_
  exact qp
 ·obtain rfl:j=po.length:=by omega
  have hE:(po.map (·.p)).take po.length=(po.map (·.p)):=cE aW
  refine bw ?_
  simp only [hE]
  exact lW [16] rfl rfl (dH aX rfl rfl aW)
namespace aqY
theorem aw {p q:Prop} (k:q) (e:p=q:=by simp only [e1,e2,e3,e4,p1,p2,p3,q1,q2,q3,l1,t0,t1,r1,r2,r3,r4,Nat.zero_add,Nat.reduceMul,Nat.reduceAdd,b1,b2,b3,b4,b5,b6,i1,i2,i3,i4,i5,i6,Nat.reduceBEq,cn,tf,egd,List.length_map,List.set_cons_zero,List.set_cons_succ,Nat.reduceEqDiff,reduceIte,if_true,if_false,cB,dB,aG aX,aG bz,aG an,cA,cC,LV.kill,bH];exact rfl):p:=e.mpr k
end aqY
open aqY in
theorem atz (p:V3) (l:List V3) (R:Nat) (hR:R<=90000000) (hpb:cP R p) (h0:0<l.length) (hl9:l.length<=1000) (hl:∀ q∈l,cP R q):ax ak 259 [aE p,.list 9 (l.map aE)] (aD (wQ p l)):=by
 have mj:∀ q∈l,rl (cJ p q)<=10*R+10:=fun q hq=>by
  obtain⟨a1,a2,a3⟩:=hpb
  obtain⟨y1,y2,y3⟩:=hl q hq
  have e0:=cM p.x q.x
  have e5:=cM p.y q.y
  have e6:=cM p.z q.z
  have e7:=nZ (0+p.x*q.x) (p.y*q.y)
  have e8:=nZ (0+p.x*q.x+p.y*q.y) (p.z*q.z)
  have e9:(0:Rat)+p.x*q.x=p.x*q.x:=by grind
  unfold cJ
  rw [e9] at e7 e8 ⊢
  omega
 have hdR:∀ x∈l.map (cJ p),rl x<=10*R+10:=fun x hx=>by
  obtain⟨q,hq,rfl⟩:=ga.1 hx
  exact mj q hq
 refine aR Tryz.func259 (ht:=(fun r=>LV.cQ r _ (bl.pure _))) ?_
 have tf:True:=trivial
 have egd:True:=trivial
 refine lF ?_
 refine dI (fun(i:Nat) L=>(((((((St.mk L.slot (hp [(2,⟨9,[aE p],true⟩),(4,⟨6,[aD (0,0)],true⟩),(5,⟨6,[aD (kJ (l.map (cJ p)) i)],true⟩)])).put (some 2) (.aF 2 9 0 0)).put (some 4) (.aF 4 6 0 0)).put (some 5) (.aF 5 6 0 0)).put (some 9) (.list 9 (l.map aE))).put (some 10) (ae l.length)).put (some 11) (ae i))) (fun i=>i<=l.length) (fun i=>l.length-i) 0 (bS _) ?_
 rintro i L1 hi
 refine ay ?_
 refine aL rfl ?_ ?_<;>intro abL h12
 ·have dq:i<l.length:=by omega
  have hli:=hl (l.getD i default) (by rw [bE,bY dq];exact qx dq)
  have hdi:=mj (l.getD i default) (by rw [bE,bY dq];exact qx dq)
  have egd:(l.map (cJ p)).getD i 0=cJ p (l.getD i default):=by rw [bE,gZ,bY dq,bE,bY dq];rfl
  have gk:=ahL (R:=10*R+10) J hdR
  have x7:=agp (R:=10*R+10) J gk i
  have tf:kJ (l.map (cJ p)) (i+1)=iV (if i=0 then((l.map (cJ p)).getD i 0,(l.map (cJ p)).getD i 0) else kJ (l.map (cJ p)) i) ((l.map (cJ p)).getD i 0,(l.map (cJ p)).getD i 0):=rfl
  rw [egd] at tf
  have hVD:=aeZ p (l.getD i default) R J hpb hli
  refine nO ?_
  refine cp au (hVD) ?_
  refine cp aO (nD (cJ p (l.getD i default)) J) ?_
  refine bC ?_
  refine aL rfl ?_ ?_<;>intro abv h21
  ·have pk:i=0:=by omega
   rw [if_pos pk] at tf
   refine bg ?_
   first | refine cp au (s9 (kJ (l.map (cJ p)) i) (cJ p (l.getD i default),cJ p (l.getD i default)) (by have:=x7.1;show _+rl (cJ p (l.getD i default))<=_;omega) (by have:=x7.2;show _+rl (cJ p (l.getD i default))<=_;omega)) ?_ | refine cp au (s9 (cJ p (l.getD i default),cJ p (l.getD i default)) (cJ p (l.getD i default),cJ p (l.getD i default)) ahF ahF) ?_
   refine aB ?_
   refine bR ((az.kill _ 7).trans (az.kill _ 8)) ?_
   refine ah rfl cu ?_
   refine aQ ?_
   exact lK
  ·have pk:¬ i=0:=by omega
   rw [if_neg pk] at tf
   refine a7 ?_
   first | refine cp au (s9 (kJ (l.map (cJ p)) i) (cJ p (l.getD i default),cJ p (l.getD i default)) (by have:=x7.1;show _+rl (cJ p (l.getD i default))<=_;omega) (by have:=x7.2;show _+rl (cJ p (l.getD i default))<=_;omega)) ?_ | refine cp au (s9 (cJ p (l.getD i default),cJ p (l.getD i default)) (cJ p (l.getD i default),cJ p (l.getD i default)) ahF ahF) ?_
   refine aB ?_
   refine bR ((az.kill _ 7).trans (az.kill _ 8)) ?_
   refine ah rfl cu ?_
   refine aQ ?_
   exact lK
 ·obtain rfl:l.length=i:=by omega
  have hE9:kJ (l.map (cJ p)) l.length=wQ p l:=by unfold wQ de;rw [eD]
  refine bw ?_
  rw [<-hE9]
  exact od
theorem awG {r:V3} {R:Nat} {l:List V3} (hr:cP R r) (hl:∀ q∈l,cP R q):dg (10*R+10) (wQ r l):=by
 unfold wQ
 refine zM J fun x hx=>?_
 obtain⟨q,hq,rfl⟩:=ga.1 hx
 have:=acm hr (hl q hq)
 omega
theorem aFc {x y:Int} (h1:-1<=x/\x<=1) (h2:-1<=y/\y<=1):-1<=x*y/\x*y<=1:=by
 obtain⟨a,b⟩:=h1
 obtain⟨c,d⟩:=h2
 rcases(show x=-1\/x=0\/x=1 by omega) with rfl | rfl | rfl<;>rcases(show y=-1\/y=0\/y=1 by omega) with rfl | rfl | rfl<;>decide
theorem aDo (s t:Rat × Rat):nk s t=(decide (di s.1=di s.2) && (decide (di t.1=di t.2) && decide ((if di s.1=di s.2 then di s.1 else 0)*(if di t.1=di t.2 then di t.1 else 0)<0))):=by
 unfold nk
 by_cases h1:di s.1=di s.2
 ·by_cases h2:di t.1=di t.2
  ·rw [if_pos h1,if_pos h2,Bool.and_assoc]
  ·rw [decide_eq_false h2];simp
 ·rw [decide_eq_false h1];simp
theorem aI4 (x:Rat):-1<=di x/\di x<=1:=by
 unfold di
 split
 ·decide
 ·split<;>decide
theorem awP (s:Rat × Rat):-1<=(if di s.1=di s.2 then di s.1 else 0)/\(if di s.1=di s.2 then di s.1 else 0)<=1:=by
 split
 ·exact aI4 _
 ·decide
open ig in
theorem arA (r:V3) (R:Nat) (hR:R<=90000000) (hr:cP R r) (lp lq:List V3) (alG:0<lp.length) (aj0:lp.length<=1000) (hlp:∀ q∈lp,cP R q) (akp:0<lq.length) (anT:lq.length<=1000) (lO:∀ q∈lq,cP R q):ax ak 206 [.agg [.list 9 (lp.map aE),.list 9 (lq.map aE)],aE r] (.a9 [iL (if di (fC r lp lq).1=di (fC r lp lq).2 then di (fC r lp lq).1 else 0),bL (decide (di (fC r lp lq).1=di (fC r lp lq).2))]):=by
 have aG8:=atz r lp R hR hr alG aj0 hlp
 have awt:dg (10*R+10) (wQ r lp):=awG hr hlp
 have aAR:=atz r lq R hR hr akp anT lO
 have avY:dg (10*R+10) (wQ r lq):=awG hr lO
 have bsd:=aiC awt avY
 obtain⟨bs1,bs2⟩:=bsd
 refine aR Tryz.func206 (ht:=(iF rfl rfl)) ?_
 refine bB ?_
 refine aY 14 al ?_
 refine aQ ?_
 refine cp au (aG8) ?_
 refine aQ ?_
 refine cp au (aAR) ?_
 refine cp au (amA (wQ r lp) (wQ r lq) (10*R+10) J awt avY) ?_
 refine cp aO (aIw (fC r lp lq) (bb bs1 J) (bb bs2 J)) ?_
 refine bf ?_
 exact aak
open ig in
theorem amV (r:V3) (R:Nat) (hR:R<=90000000) (hr:cP R r) (lp lq lu lv:List V3) (alG:0<lp.length) (aj0:lp.length<=1000) (hlp:∀ q∈lp,cP R q) (akp:0<lq.length) (anT:lq.length<=1000) (lO:∀ q∈lq,cP R q) (aze:0<lu.length) (aGH:lu.length<=1000) (gz:∀ q∈lu,cP R q) (aBr:0<lv.length) (az1:lv.length<=1000) (hlv:∀ q∈lv,cP R q):ax ak 123 [aE r,.agg [.list 9 (lp.map aE),.list 9 (lq.map aE)],.agg [.list 9 (lu.map aE),.list 9 (lv.map aE)]] (bL (nk (fC r lp lq) (fC r lu lv))):=by
 have g1:=awP (fC r lp lq)
 have g2:=awP (fC r lu lv)
 have hm:=aFc g1 g2
 have hoe:=aDo (fC r lp lq) (fC r lu lv)
 have aLn:LV.pure (.agg [.list 9 (lp.map aE),.list 9 (lq.map aE)])=true:=by simp [LV.pure,aK,aP aX]
 have aKr:LV.pure (.agg [.list 9 (lu.map aE),.list 9 (lv.map aE)])=true:=by simp [LV.pure,aK,aP aX]
 refine aR Tryz.func123 ?_
 refine bw ?_
 refine cp au (arA r R hR hr lp lq alG aj0 hlp akp anT lO) ?_
 refine bC ?_
 refine cp au (arA r R hR hr lu lv aze aGH gz aBr az1 hlv) ?_
 refine bC ?_
 refine ep 24 rfl ?_ ?_<;>intro rG vz
 ·refine aQ ?_
  refine ep 27 rfl ?_ ?_<;>intro zP h27
  ·refine aH ?_
   refine ah (aM (v:=true) rfl rfl (zP) rfl) (.bin rfl rfl (afh J J)) ?_
   refine ay ?_
   rw [hoe,rG,zP]
   exact jL
  ·refine bB ?_
   rw [hoe,rG,zP]
   exact jL
 ·refine bw ?_
  rw [hoe,rG]
  exact jL
open ig in
theorem apx (q:ar) (R:Nat) (hR:R<=1000000) (h:k5 R q):ax ak 204 [bm q] (bm q):=by
 obtain⟨hp,hw,kp⟩:=h
 have lE:rl 0=1:=rfl
 have hA:=fA q.w 0 J
 rw [jC] at hA
 have hz:cP 1 (⟨0,0,0⟩:V3):=⟨by decide,by decide,by decide⟩
 have hV:ax ak 223 [aE q.p,aE ⟨0,0,0⟩] (aE q.p):=by
  have:=awp q.p ⟨0,0,0⟩ (R+1) J (hp.le J) (hz.le J)
  rwa [show ym q.p ⟨0,0,0⟩=q.p from by unfold ym;simp only [jC]] at this
 refine aR Tryz.func204 (ht:=(fun g=>LV.cQ g _ (bz.pure _))) ?_
 refine bf ?_
 refine aY 9 al ?_
 refine aH ?_
 refine aag akO ?_
 refine cp au (hV) ?_
 refine aH ?_
 refine ah rfl rE ?_
 refine cp au (hA) ?_
 refine aag (alU rfl rfl) ?_
 refine aB ?_
 exact fi [] rfl rfl rfl cs (cr cs rfl) mO (.pure pu)
namespace aoc
theorem aw {p q:Prop} (k:q) (e:p=q:=by simp only [e1,e2,e3,e4,p1,p2,p3,q1,q2,q3,l1,t0,t1,r1,r2,r3,r4,Nat.zero_add,Nat.reduceMul,Nat.reduceAdd,b1,b2,b3,b4,b5,b6,i1,i2,i3,i4,i5,i6,Nat.reduceBEq,List.length_map,List.set_cons_zero,List.set_cons_succ,Nat.reduceEqDiff,reduceIte,if_true,if_false,cB,dB,aG aX,aG bz,aG an,cA,cC,LV.kill,bH];exact rfl):p:=e.mpr k
end aoc
open aoc in
theorem aJn (d:Nat) (kn:List Rat) (po:List ar) (R:Nat) (hR:R<=1000000) (h:rT po d R):ax ak 118 [.agg [ae d,.list 3 (kn.map aa),.list 12 (po.map bm)]] (.a9 [aE (po.getD 0 default).p,aE (po.getD (po.length-1) default).p]):=by
 have hl:=h.hl
 have h6:=h.h6
 have fx:LV.pure (.agg [ae d,.list 3 (kn.map aa),.list 12 (po.map bm)])=true:=by simp [LV.pure,aK,aP an,aP bz]
 have tA:=apx (po.getD 0 default) R hR (h.ok _ (tG J))
 have x9:=apx (po.getD (po.length-1) default) R hR (h.ok _ (tG J))
 refine aR Tryz.func118 (ht:=(iF (aX.pure _) (aX.pure _))) ?_
 refine nm ?_
 refine aL rfl ?_ ?_<;>intro h7r h7
 ·omega
 ·refine aQ ?_
  refine aeE rfl 16 2 [6,7,8,9,10,11,12,13,14,15] al rfl ?_
  simp only [rq,uZ,e1,e2,e3,e4,p1,p2,p3,q1,q2,q3,l1,t0,t1,r1,r2,r3,r4,fg,Nat.reduceMul,wz,b1,b2,b3,b4,b5,b6,i1,i2,i3,i4,i5,i6,Nat.reduceBEq,bh7,dh1,dh2,dh3]
  refine aB ?_
  refine cp aO (tA) ?_
  refine ay ?_
  refine ah rfl nh ?_
  refine aH ?_
  refine cp aO (x9) ?_
  refine ao ?_
  refine afY rfl rfl (fun om h=>by cases h;exact⟨_,_,_,_,_,rfl,rfl⟩) ?_
  simp only [wW,ks]
  refine a7 ?_
  exact afP [] rfl rfl rfl cs (cr cs rfl) iQ (.pure pu) rfl rfl cs (cr cs rfl) iQ (.pure pu)
structure M3 where
 a:V3
 b:V3
 c:V3
 t:V3
 deriving Inhabited
def ez (m:M3):LV:=.agg [.agg [aE m.a,aE m.b,aE m.c],aE m.t]
theorem fj:gY ez 36 true:=⟨fun m=>by simp [ez,LV.av,cL,aX.av],fun _=>rfl,fun m=>by simp [ez,LV.pure,aK,aX.pure]⟩
def m3t (m:M3) (p:V3):V3:=⟨cJ m.a p,cJ m.b p,cJ m.c p⟩
def xi (R:Nat) (m:M3):Prop:=cP R m.a/\cP R m.b/\cP R m.c/\cP R m.t
theorem aHX {R S:Nat} {m:M3} {p:V3} (hm:xi R m) (hp:cP S p):cP (3*(R+S)+4) (m3t m p):=⟨acm hm.1 hp,acm hm.2.1 hp,acm hm.2.2.1 hp⟩
instance:EC ak 81 ez 36 true ⟨⟨0,0,0⟩,⟨0,0,0⟩,⟨0,0,0⟩,⟨0,0,0⟩⟩:=⟨fj,Z81,yZ⟩
theorem aip (p:V3):(aE p).at 0 9 true=some (aE p):=cr (aX.av p) rfl
theorem ajh (m:M3):(ez m).at 0 9 true=some (aE m.a):=by
 simp [ez,LV.at,tP,LV.av,cL,aX.av,aip]
theorem aib (m:M3):(ez m).at 9 9 true=some (aE m.b):=by
 simp [ez,LV.at,tP,LV.av,cL,aX.av,aip]
theorem ait (m:M3):(ez m).at 18 9 true=some (aE m.c):=by
 simp [ez,LV.at,tP,LV.av,cL,aX.av,aip]
theorem aBa (m:M3):(ez m).at 27 9 true=some (aE m.t):=by
 simp [ez,LV.at,tP,LV.av,cL,aX.av,aip]
theorem ai4 (m:M3) (b:Nat):(ez m).kill b=ez m:=LV.nz b _ (fj.pure m)
section
variable {P:Program} {H:b9} {ρ:Operand->LV} {T E:TypeId}
theorem aCn {o0 o1 o2:Operand} {a b c:V3} [u:UN P T (.array 3 E)] [t:TI P E 9 true] [z:ZI P T (.agg [aE ⟨0,0,0⟩,aE ⟨0,0,0⟩,aE ⟨0,0,0⟩])] (h0:ρ o0=aE a) (h1:ρ o1=aE b) (h2:ρ o2=aE c) :
  aN P H ρ (.build T #[(0,o0),(1,o1),(2,o2)]) (.agg [aE a,aE b,aE c]):=by
 have:=aN.bda (H:=H) (ρ:=ρ) (ps:=#[(0,o0),(1,o1),(2,o2)]) (u:=u) (t:=t) (z:=z) (by simp [lay,aX.av,aX.isAgg]) (by
  intro p hp
  simp only [ff,iq,or_false] at hp
  rcases hp with rfl | rfl | rfl
  ·exact⟨_,rfl,by rw [h0];simp [lay,aX.av,aX.isAgg],by rw [h0];exact LV.dT (aX.pure _),by rw [h0];exact LV.dG (aX.pure _)⟩
  ·exact⟨_,rfl,by rw [h1];simp [lay,aX.av,aX.isAgg],by rw [h1];exact LV.dT (aX.pure _),by rw [h1];exact LV.dG (aX.pure _)⟩
  ·exact⟨_,rfl,by rw [h2];simp [lay,aX.av,aX.isAgg],by rw [h2];exact LV.dT (aX.pure _),by rw [h2];exact LV.dG (aX.pure _)⟩)
 simpa only [jK,uL,vx,vZ,h0,h1,h2] using this
end
instance:ZI ak 79 (.agg [aE ⟨0,0,0⟩,aE ⟨0,0,0⟩,aE ⟨0,0,0⟩]):=⟨Z79⟩
instance:ZI ak 81 (.agg [.agg [aE ⟨0,0,0⟩,aE ⟨0,0,0⟩,aE ⟨0,0,0⟩],aE ⟨0,0,0⟩]):=⟨Z81⟩
instance:AE ak 81 ez 36 true ⟨⟨0,0,0⟩,⟨0,0,0⟩,⟨0,0,0⟩,⟨0,0,0⟩⟩:=⟨fj,Z81⟩
open ig in
theorem aBv (p q r:V3) (R:Nat) (hR:R<=200000000) (hp:cP R p) (hq:cP R q) (hr:cP R r):ax ak 249 [aE p,aE q,aE r] (aa (cJ p (jj q r))):=by
 have hx:=z7 hq hr
 refine aR Tryz.func249 ?_
 refine bB ?_
 refine aY 5 al ?_
 refine aQ ?_
 refine cp au (ah4 q r R J hq hr) ?_
 refine cp au (aeZ p (jj q r) (4*R+5) J (hp.le J) hx) ?_
 refine aB ?_
 exact jJ
namespace asD
theorem aw {p q:Prop} (k:q) (e:p=q:=by simp only [e1,e2,e3,e4,p1,p2,p3,q1,q2,q3,l1,t0,t1,r1,r2,r3,r4,Nat.zero_add,Nat.reduceMul,Nat.reduceAdd,b1,b2,b3,b4,b5,b6,i1,i2,i3,i4,i5,i6,Nat.reduceBEq,ai4,List.set_cons_zero,List.set_cons_succ,Nat.reduceEqDiff,reduceIte,if_true,if_false,cB,dB,aG aX,aG bz,aG an,cA,cC,LV.kill,bH];exact rfl):p:=e.mpr k
end asD
open asD in
theorem aul (m:M3) (R:Nat) (hR:R<=200000000) (hm:xi R m):ax ak 195 [ez m] (aa (cJ m.a (jj m.b m.c))):=by
 obtain⟨jI,fc,rI,pO⟩:=hm
 refine aR Tryz.func195 ?_
 refine bh ?_
 refine ah rfl (.dU rfl rfl rfl rfl (fj.av m) (ajh m) iQ) ?_
 refine aH ?_
 refine ah rfl (.dU rfl rfl rfl rfl (fj.av m) (aib m) iQ) ?_
 refine aH ?_
 refine ah rfl (.dU rfl rfl rfl rfl (fj.av m) (ait m) iQ) ?_
 refine cp gM (aBv m.a m.b m.c R hR jI fc rI) ?_
 refine aB ?_
 exact jJ
def trM (a b c:V3):LV:=.agg [aE a,aE b,aE c]
theorem amG (a b c:V3):(trM a b c).pure=true:=by simp only [trM,LV.pure,aK,aX.pure,Bool.and_self]
theorem azd (m:M3) (q:V3):(ez m).put 27 (aE q)=some (ez ⟨m.a,m.b,m.c,q⟩):=by
 have hq:(aE m.t).put 0 (aE q)=some (aE q):=ptp
 simp [ez,LV.put,qY,LV.av,cL,aX.av,hq]
theorem aBM (m:M3):(ez m).at 0 27 true=some (.agg [aE m.a,aE m.b,aE m.c]):=by
 simp [ez,LV.at,tP,LV.av,cL,aX.av,s6]
open xW in
theorem aA8 (a b c:V3) (R:Nat) (hR:R<=1000000000) (ha:cP R a) (hb:cP R b) (hc:cP R c):ax ak 198 [.agg [aE a,aE b,aE c]] (.agg [aE ⟨a.x,b.x,c.x⟩,aE ⟨a.y,b.y,c.y⟩,aE ⟨a.z,b.z,c.z⟩]):=by
 obtain⟨a1,a2,a3⟩:=ha
 obtain⟨y1,y2,y3⟩:=hb
 obtain⟨z1,z2,z3⟩:=hc
 have lE:rl 0=1:=rfl
 have xt:=fA a.x 0 J
 rw [jC] at xt
 have xj:=fA a.y 0 J
 rw [jC] at xj
 have xY:=fA a.z 0 J
 rw [jC] at xY
 have yq:=fA b.x 0 J
 rw [jC] at yq
 have xh:=fA b.y 0 J
 rw [jC] at xh
 have xl:=fA b.z 0 J
 rw [jC] at xl
 have xw:=fA c.x 0 J
 rw [jC] at xw
 have x6:=fA c.y 0 J
 rw [jC] at x6
 have yz:=fA c.z 0 J
 rw [jC] at yz
 refine aR Tryz.func198 (ht:=(fun g=>LV.cQ g _ (amG _ _ _))) ?_
 refine nO ?_
 refine bc ?_
 refine ay ?_
 refine bI (b:=_) rfl ai ?_
 refine nm ?_
 refine bc ?_
 refine ay ?_
 refine bI (b:=_) rfl ai ?_
 refine bh ?_
 refine aY 11 al ?_
 refine bg ?_
 try refine aw ?_
 first | refine cp au xt ?_ | refine cp au xj ?_ | refine cp au xY ?_ | refine cp au yq ?_ | refine cp au xh ?_ | refine cp au xl ?_ | refine cp au xw ?_ | refine cp au x6 ?_ | refine cp au yz ?_
 refine bC ?_
 refine bc ?_
 refine ay ?_
 refine bI (b:=_) rfl ai ?_
 refine bh ?_
 refine aY 11 al ?_
 refine bg ?_
 try refine aw ?_
 first | refine cp au xt ?_ | refine cp au xj ?_ | refine cp au xY ?_ | refine cp au yq ?_ | refine cp au xh ?_ | refine cp au xl ?_ | refine cp au xw ?_ | refine cp au x6 ?_ | refine cp au yz ?_
 refine bC ?_
 refine bc ?_
 refine ay ?_
 refine bI (b:=_) rfl ai ?_
 refine bh ?_
 refine aY 11 al ?_
 refine bg ?_
 try refine aw ?_
 first | refine cp au xt ?_ | refine cp au xj ?_ | refine cp au xY ?_ | refine cp au yq ?_ | refine cp au xh ?_ | refine cp au xl ?_ | refine cp au xw ?_ | refine cp au x6 ?_ | refine cp au yz ?_
 refine bC ?_
 refine bc ?_
 refine ay ?_
 refine dp (b:=_) rfl ai ?_
 refine bC ?_
 refine bc ?_
 refine ay ?_
 refine bI (b:=_) rfl ai ?_
 refine nm ?_
 refine bc ?_
 refine ay ?_
 refine bI (b:=_) rfl ai ?_
 refine bh ?_
 refine aY 11 al ?_
 refine bg ?_
 try refine aw ?_
 first | refine cp au xt ?_ | refine cp au xj ?_ | refine cp au xY ?_ | refine cp au yq ?_ | refine cp au xh ?_ | refine cp au xl ?_ | refine cp au xw ?_ | refine cp au x6 ?_ | refine cp au yz ?_
 refine bC ?_
 refine bc ?_
 refine ay ?_
 refine bI (b:=_) rfl ai ?_
 refine bh ?_
 refine aY 11 al ?_
 refine bg ?_
 try refine aw ?_
 first | refine cp au xt ?_ | refine cp au xj ?_ | refine cp au xY ?_ | refine cp au yq ?_ | refine cp au xh ?_ | refine cp au xl ?_ | refine cp au xw ?_ | refine cp au x6 ?_ | refine cp au yz ?_
 refine bC ?_
 refine bc ?_
 refine ay ?_
 refine bI (b:=_) rfl ai ?_
 refine bh ?_
 refine aY 11 al ?_
 refine bg ?_
 try refine aw ?_
 first | refine cp au xt ?_ | refine cp au xj ?_ | refine cp au xY ?_ | refine cp au yq ?_ | refine cp au xh ?_ | refine cp au xl ?_ | refine cp au xw ?_ | refine cp au x6 ?_ | refine cp au yz ?_
 refine bC ?_
 refine bc ?_
 refine ay ?_
 refine dp (b:=_) rfl ai ?_
 refine bC ?_
 refine bc ?_
 refine ay ?_
 refine bI (b:=_) rfl ai ?_
 refine nm ?_
 refine bc ?_
 refine ay ?_
 refine bI (b:=_) rfl ai ?_
 refine bh ?_
 refine aY 11 al ?_
 refine bg ?_
 try refine aw ?_
 first | refine cp au xt ?_ | refine cp au xj ?_ | refine cp au xY ?_ | refine cp au yq ?_ | refine cp au xh ?_ | refine cp au xl ?_ | refine cp au xw ?_ | refine cp au x6 ?_ | refine cp au yz ?_
 refine bC ?_
 refine bc ?_
 refine ay ?_
 refine bI (b:=_) rfl ai ?_
 refine bh ?_
 refine aY 11 al ?_
 refine bg ?_
 try refine aw ?_
 first | refine cp au xt ?_ | refine cp au xj ?_ | refine cp au xY ?_ | refine cp au yq ?_ | refine cp au xh ?_ | refine cp au xl ?_ | refine cp au xw ?_ | refine cp au x6 ?_ | refine cp au yz ?_
 refine bC ?_
 refine bc ?_
 refine ay ?_
 refine bI (b:=_) rfl ai ?_
 refine bh ?_
 refine aY 11 al ?_
 refine bg ?_
 try refine aw ?_
 first | refine cp au xt ?_ | refine cp au xj ?_ | refine cp au xY ?_ | refine cp au yq ?_ | refine cp au xh ?_ | refine cp au xl ?_ | refine cp au xw ?_ | refine cp au x6 ?_ | refine cp au yz ?_
 refine bC ?_
 refine bc ?_
 refine ay ?_
 refine dp (b:=_) rfl ai ?_
 refine bC ?_
 refine bc ?_
 refine ay ?_
 refine dp (b:=_) rfl ai ?_
 refine bw ?_
 exact fi [] rfl rfl rfl cs (cr cs rfl) T79 (.pure (amG ⟨a.x,b.x,c.x⟩ ⟨a.y,b.y,c.y⟩ ⟨a.z,b.z,c.z⟩))
namespace aiA
theorem aw {p q:Prop} (k:q) (e:p=q:=by simp only [e1,e2,e3,e4,p1,p2,p3,q1,q2,q3,l1,t0,t1,r1,r2,r3,r4,Nat.zero_add,Nat.reduceMul,Nat.reduceAdd,b1,b2,b3,b4,b5,b6,i1,i2,i3,i4,i5,i6,Nat.reduceBEq,ai4,List.getD_cons_zero,List.getD_cons_succ,List.set_cons_zero,List.set_cons_succ,Nat.reduceEqDiff,reduceIte,if_true,if_false,cB,dB,aG aX,aG bz,aG an,cA,cC,LV.kill,bH];exact rfl):p:=e.mpr k
end aiA
open aiA in
theorem aFu (m:M3) (R:Nat) (hR:R<=1000000000) (hm:xi R m) (p:V3) (hpb:cP R p):ax ak 199 [ez m,aE p] (aE (m3t m p)):=by
 obtain⟨jI,fc,rI,pO⟩:=hm
 refine aR Tryz.func199 (ht:=(fun r=>LV.cQ r _ (aX.pure _))) ?_
 refine nm ?_
 refine ah rfl (.dU (r:=.agg [aE m.a,aE m.b,aE m.c]) (n:=27) (ag:=true) rfl rfl rfl rfl (fj.av m) (aBM m) T79) ?_
 refine aB ?_
 refine bc ?_
 refine ay ?_
 refine bI (b:=_) rfl ai ?_
 refine iY ?_
 refine cp au (aeZ m.a p R J jI hpb) ?_
 refine a7 ?_
 refine bR (az.kill _ 7) ?_
 refine aB ?_
 refine bc ?_
 refine ay ?_
 refine bI (b:=_) rfl ai ?_
 refine iY ?_
 refine cp au (aeZ m.b p R J fc hpb) ?_
 refine a7 ?_
 refine bR (az.kill _ 7) ?_
 refine aB ?_
 refine bc ?_
 refine ay ?_
 refine bI (b:=_) rfl ai ?_
 refine iY ?_
 refine cp au (aeZ m.c p R J rI hpb) ?_
 refine a7 ?_
 refine bR (az.kill _ 7) ?_
 refine aB ?_
 refine bc ?_
 refine ay ?_
 refine dp (b:=_) rfl ai ?_
 refine bw ?_
 exact yI
theorem aFE {P:Program} {H:b9} {ρ:Operand->LV} {T:TypeId} {o0:Operand} {a b c:V3} [z:ZI P T (.agg [.agg [aE ⟨0,0,0⟩,aE ⟨0,0,0⟩,aE ⟨0,0,0⟩],aE ⟨0,0,0⟩])] [s:SI P T [(27,true),(9,true)]] (h0:ρ o0=.agg [aE a,aE b,aE c]) :
  aN P H ρ (.build T #[(0,o0)]) (ez ⟨a,b,c,⟨0,0,0⟩⟩):=by
 have hp:LV.pure (.agg [aE a,aE b,aE c])=true:=by simp [LV.pure,aK,aX.pure]
 have:=aN.bd (H:=H) (ρ:=ρ) (ps:=#[(0,o0)]) (z:=z) (s:=s) (by simp [lay,LV.av,cL,aX.av,aX.isAgg,s6]) (by
  intro q hq
  simp only [ff,iq,or_false] at hq
  rcases hq with rfl
  exact⟨_,rfl,by rw [h0];simp [lay,aX.av,LV.av,cL,s6],by rw [h0];exact LV.dT hp,by rw [h0];exact LV.dG hp⟩)
 simp only [jK,uL,vx,vZ,h0] at this
 exact this
def ivM (m:M3):M3:=⟨u4 m.a m.b m.c,vd m.a m.b m.c,vy m.a m.b m.c,kK (-1) (m3t ⟨u4 m.a m.b m.c,vd m.a m.b m.c,vy m.a m.b m.c,⟨0,0,0⟩⟩ m.t)⟩
open aiA in
theorem aIA (m:M3) (R:Nat) (hR:R<=40000000) (hm:xi R m) (hv:cJ m.a (jj m.b m.c)≠0):ax ak 115 [ez m] (.a9 [ez (ivM m),iL 0]):=by
 have iS:=hm
 obtain⟨jI,fc,rI,pO⟩:=hm
 have lH:=z7 fc rI
 have ji:=z7 rI jI
 have qa:=z7 jI fc
 have hV:=aul m R J iS
 have gk:rl 1=1:=rfl
 have hrv:=acm jI lH
 have hrf:rl (g8 m.a m.b m.c)<=20*R+30:=by
  have:=pH 1 (cJ m.a (jj m.b m.c))
  unfold g8
  omega
 have hQ:ax ak 180 [aa 1,aa (cJ m.a (jj m.b m.c))] (.a9 [aa (g8 m.a m.b m.c),iL 0]):=by
  have:=sH 1 (cJ m.a (jj m.b m.c)) J
  rwa [if_neg hv] at this
 have xR:ax ak 187 [iL 1] (aa 1):=rZ 1 ai ai
 have h1m:ax ak 187 [iL (-1)] (aa (-1)):=by
  have:=rZ (-1) ai ai
  rwa [show (((-1:Int)):Rat)=-1 from by decide +kernel] at this
 have mX:∀ q:V3,cP (4*R+5) q->cP (24*R+40) (kK (g8 m.a m.b m.c) q):=fun q ⟨q1',q2',q3'⟩=>by
  have e1x:=cM (g8 m.a m.b m.c) q.x
  have e2x:=cM (g8 m.a m.b m.c) q.y
  have e3x:=cM (g8 m.a m.b m.c) q.z
  exact⟨by show rl ((g8 m.a m.b m.c)*q.x)<=_;omega,by show rl ((g8 m.a m.b m.c)*q.y)<=_;omega,by show rl ((g8 m.a m.b m.c)*q.z)<=_;omega⟩
 have hT:=aA8 (kK (g8 m.a m.b m.c) (jj m.b m.c)) (kK (g8 m.a m.b m.c) (jj m.c m.a)) (kK (g8 m.a m.b m.c) (jj m.a m.b)) (24*R+40) J (mX _ lH) (mX _ ji) (mX _ qa)
 have aAl:cP (24*R+40) (u4 m.a m.b m.c):=⟨(mX _ lH).1,(mX _ ji).1,(mX _ qa).1⟩
 have aGg:cP (24*R+40) (vd m.a m.b m.c):=⟨(mX _ lH).2.1,(mX _ ji).2.1,(mX _ qa).2.1⟩
 have aBf:cP (24*R+40) (vy m.a m.b m.c):=⟨(mX _ lH).2.2,(mX _ ji).2.2,(mX _ qa).2.2⟩
 have tt:xi (24*R+40) ⟨u4 m.a m.b m.c,vd m.a m.b m.c,vy m.a m.b m.c,⟨0,0,0⟩⟩:=⟨aAl,aGg,aBf,⟨by show rl 0<=_;have:rl 0=1:=rfl;omega,by show rl 0<=_;have:rl 0=1:=rfl;omega,by show rl 0<=_;have:rl 0=1:=rfl;omega⟩⟩
 have hTu:=aFu ⟨u4 m.a m.b m.c,vd m.a m.b m.c,vy m.a m.b m.c,⟨0,0,0⟩⟩ (24*R+40) J tt m.t (pO.le J)
 have hbt:=aHX tt pO
 have hSc:=ahc (-1) (m3t ⟨u4 m.a m.b m.c,vd m.a m.b m.c,vy m.a m.b m.c,⟨0,0,0⟩⟩ m.t) (3*(24*R+40+R)+4) J (by have:rl (-1)=1:=al;omega) hbt
 refine aR Tryz.func115 (ht:=(iF (fj.pure _) rfl)) ?_
 refine bg ?_
 refine eZ 8 [6] al ?_
 refine cp aO (xR) ?_
 refine ah rfl (.dU rfl rfl rfl rfl (fj.av m) (cr (fj.av m) rfl) yZ) ?_
 refine bM rfl (.cons (.pure (fj.pure m)) .nil) hV ?_
 refine cp au (hQ) ?_
 refine eQ ?_
 refine dp (b:=_) rfl (rfl) ?_
 refine aQ ?_
 refine aY 23 al ?_
 refine aH ?_
 refine ah rfl (.dU rfl rfl rfl rfl (fj.av m) (aib m) iQ) ?_
 refine aH ?_
 refine ah rfl (.dU rfl rfl rfl rfl (fj.av m) (ait m) iQ) ?_
 refine cp au (ah4 m.b m.c R J fc rI) ?_
 refine aH ?_
 refine ah rfl (.dU rfl rfl rfl rfl (fj.av m) (ait m) iQ) ?_
 refine aH ?_
 refine ah rfl (.dU rfl rfl rfl rfl (fj.av m) (ajh m) iQ) ?_
 refine cp au (ah4 m.c m.a R J rI jI) ?_
 refine aH ?_
 refine ah rfl (.dU rfl rfl rfl rfl (fj.av m) (ajh m) iQ) ?_
 refine aH ?_
 refine ah rfl (.dU rfl rfl rfl rfl (fj.av m) (aib m) iQ) ?_
 refine cp au (ah4 m.a m.b R J jI fc) ?_
 refine ah rfl (aCn rfl rfl rfl) ?_
 refine bw ?_
 refine bc ?_
 refine ay ?_
 refine bI (b:=_) rfl ai ?_
 refine iY ?_
 refine cp au (ahc (g8 m.a m.b m.c) (jj m.b m.c) (20*R+30) J hrf (lH.le J)) ?_
 refine a7 ?_
 refine bR (az.kill _ 8) ?_
 refine aB ?_
 refine bc ?_
 refine ay ?_
 refine bI (b:=_) rfl ai ?_
 refine iY ?_
 refine cp au (ahc (g8 m.a m.b m.c) (jj m.c m.a) (20*R+30) J hrf (ji.le J)) ?_
 refine a7 ?_
 refine bR (az.kill _ 8) ?_
 refine aB ?_
 refine bc ?_
 refine ay ?_
 refine bI (b:=_) rfl ai ?_
 refine iY ?_
 refine cp au (ahc (g8 m.a m.b m.c) (jj m.a m.b) (20*R+30) J hrf (qa.le J)) ?_
 refine a7 ?_
 refine bR (az.kill _ 8) ?_
 refine aB ?_
 refine bc ?_
 refine ay ?_
 refine dp (b:=_) rfl ai ?_
 refine bg ?_
 refine bM rfl (.cons (.pure (amG (kK (g8 m.a m.b m.c) (jj m.b m.c)) (kK (g8 m.a m.b m.c) (jj m.c m.a)) (kK (g8 m.a m.b m.c) (jj m.a m.b)))) .nil) hT ?_
 refine ah rfl (aFE (a:=u4 m.a m.b m.c) (b:=vd m.a m.b m.c) (c:=vy m.a m.b m.c) rfl) ?_
 refine ao ?_
 refine bO rfl (.stE (e:=ez) (l:=[⟨⟨0,0,0⟩,⟨0,0,0⟩,⟨0,0,0⟩,⟨0,0,0⟩⟩]) (a:=⟨u4 m.a m.b m.c,vd m.a m.b m.c,vy m.a m.b m.c,⟨0,0,0⟩⟩) rfl rfl rfl aW) ?_
 refine aQ ?_
 refine aY 7 al ?_
 refine cp aO (h1m) ?_
 refine ah rfl (.dU rfl rfl rfl rfl (fj.av (⟨u4 m.a m.b m.c,vd m.a m.b m.c,vy m.a m.b m.c,⟨0,0,0⟩⟩)) (cr (fj.av (⟨u4 m.a m.b m.c,vd m.a m.b m.c,vy m.a m.b m.c,⟨0,0,0⟩⟩)) rfl) yZ) ?_
 refine ao ?_
 refine ah rfl (.dU rfl rfl rfl rfl (fj.av m) (aBa m) iQ) ?_
 refine bM rfl (.cons (.pure (fj.pure _)) (.cons (.pure (aX.pure _)) .nil)) hTu ?_
 refine cp au (hSc) ?_
 refine ao ?_
 refine bO rfl (.store (y:=ez ⟨u4 m.a m.b m.c,vd m.a m.b m.c,vy m.a m.b m.c,⟨0,0,0⟩⟩) (y':=ez (ivM m)) rfl rfl rfl rfl rfl (fj.av _) (azd ⟨u4 m.a m.b m.c,vd m.a m.b m.c,vy m.a m.b m.c,⟨0,0,0⟩⟩ _) (by show bK _ _ (LV.av (aE _)) (LV.isAgg (aE _));rw [aX.av,aX.isAgg];exact iQ) ⟨LV.dT (aX.pure _),LV.dG (aX.pure _)⟩) ?_
 refine aB ?_
 refine ah rfl (.dU rfl rfl rfl rfl (fj.av (ivM m)) (cr (fj.av (ivM m)) rfl) yZ) ?_
 refine bO rfl (.stE (e:=ez) (l:=[⟨⟨0,0,0⟩,⟨0,0,0⟩,⟨0,0,0⟩,⟨0,0,0⟩⟩]) (a:=ivM m) rfl rfl rfl aW) ?_
 refine aB ?_
 exact qE [] rfl rfl rfl (fj.av _) (cr (fj.av _) rfl) yZ (.pure (fj.pure _)) rfl (.pure rfl)
theorem aiP {s:Sp} (h:s.1<s.2):s.1<=gq s/\gq s<=s.2:=by
 have e:(s.1+s.2)/2*2=s.1+s.2:=lD ai
 unfold gq
 constructor<;>grind
end Go.Proofs.YthcadngkamjpdaaGreat
end
