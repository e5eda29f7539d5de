/- Texts B1, M1, R6, B2, C1, C2, D1, E1, E3, K1, H1, H2, C3, V1, TW, K3, K4, E2, S1, S2, K5, K8, K9, K13, K2, K10, K7, K11, K14, K16, U1, P1, P2, P4, K17, K18, P5, K20 of this proof, joined. -/
import Derived.Test.YtckppbhafancnaaGreatQO4
set_option linter.unusedVariables false
set_option linter.unusedSimpArgs false
open Classical renaming byContradiction->o8
open Go.Proofs.Tryz renaming func232->are,func73->aoh,prog->al,underlying123->atq,underlying155->rR,underlying165->v9,underlying25->dE
open Int renaming emod_lt_of_pos->zS,emod_nonneg->aag
open List renaming append_assoc->xh,append_nil->mV,drop_drop->qy,drop_eq_getElem_cons->aap,drop_left'->acb,drop_of_length_le->jQ,eq_nil_of_length_eq_zero->m8,ext_getElem->uJ,foldl->tn,getD_cons_succ->asP,getD_cons_zero->auv,getD_eq_getElem?_getD->bz,getElem?_append_left->aaz,getElem?_append_right->aeM,getElem?_drop->sA,getElem?_eq_getElem->cq,getElem?_eq_none->xL,getElem?_map->iV,getElem?_replicate->adA,getElem?_set->akz,getElem_mem->p6,getElem_of_mem->awi,length_append->k5,length_take->eG,map->sW,map_take->xg,mem_cons->fu,mem_map->da,nodup_nil->zq,not_mem_nil->jn,range->cW,replicate->ay,replicate_zero->acD,set->uY,take_add_one->zb,take_left'->afO,take_length->nn,take_of_length_le->de,take_set_of_le->as2,take_succ_eq_append_getElem->abT
open Nat renaming add_assoc->ph,add_comm->pM,add_le_add->aeX,add_sub_cancel->lP,add_sub_cancel_left->aon,add_zero->mf,le_add_left->au5,le_mul_of_pos_right->arM,le_refl->bp,le_trans->a9,lt_or_ge->gM,min_eq_left->lL,mod_eq_of_lt->iF,mul_assoc->fH,mul_le_mul->nz,mul_le_mul_right->fP,pow_le_pow_right->lO,pow_pos->lY,pow_succ->jg,pow_zero->acg,sub_self->pB,sub_zero->ack,succ_mul->vH,zero_add->fw,zero_le->b8,zero_lt_one->auB
open Option.some renaming injEq->fp
open Rat renaming add_nonneg->anQ,add_zero->ks,div_def->jo,div_mul_cancel->kP,intCast_add->abj,intCast_eq_zero_iff->awI,intCast_le_intCast->adk,intCast_nonneg->zK,intCast_pos->vw,inv_mul_cancel->aki,inv_pos->aio,le_of_lt->gR,le_refl->gg,le_total->ac7,le_trans->fe,mul_assoc->vP,mul_comm->qB,mul_inv_cancel->anP,mul_le_mul_of_nonneg_left->ux,mul_le_mul_of_nonneg_right->oA,mul_nonneg->ix,mul_one->rj,mul_pos->aaa,mul_zero->wH,ne_of_gt->awX,not_lt->arN,one_mul->oB,zero_mul->vr
section
set_option linter.unusedVariables false
set_option linter.unusedSimpArgs false
set_option maxHeartbeats 8000000
set_option maxRecDepth 100000
attribute [local irreducible] Go.Lg.opsL Go.Lg.cP Go.Lg.px Go.Lg.ss
namespace Go.Proofs.YtckppbhafancnaaGreat
open Go.Lg
end Go.Proofs.YtckppbhafancnaaGreat
namespace Go.Lg
open Go.Proofs.YtckppbhafancnaaGreat in
theorem aE.aG8 {P:Program} {H:bW} {ρ:Operand->LV} {T:TypeId} (hT:lS P T [(1,false),(1,false),(1,false)]) (hz:dj P T (.agg [.v (.bool false),.list 1 [],.list 1 []])):aE P H ρ (.build T #[]) (ah 0):=by
 rw [qi]
 exact aE.build (zs:=[.v (.bool false),.list 1 [],.list 1 []]) (ps:=#[]) hT hz (by intro p hp;cases hp)
end Go.Lg
namespace Go.Proofs.YtckppbhafancnaaGreat
open Go.Lg
theorem cN:(default:Rat)=0:=rfl
def jE (t:Rat):List Rat->List Rat
 | x :: y :: r=>((1-t)*x+t*y) :: jE t (y :: r)
 | _=>[]
theorem qY (t:Rat):∀ p:List Rat,(jE t p).length=p.length-1
 | []=>rfl
 | [_]=>rfl
 | x :: y :: r=>by simp [jE,qY t (y :: r)]
theorem ac0 (t:Rat):∀ (p:List Rat) (i:Nat),i+1<p.length->(jE t p).getD i 0=(1-t)*p.getD i 0+t*p.getD (i+1) 0
 | [],i,h=>by simp at h
 | [_],i,h=>by simp at h
 | x :: y :: r,0,_=>by simp [jE]
 | x :: y :: r,i+1,h=>by
   have:=ac0 t (y :: r) i mW
   simpa [jE] using this
theorem dK {p:List Rat} {i:Nat} (h:i<p.length):p.getD i 0∈p:=by
 rw [bz,cq h];exact p6 h
theorem afD {p:List Rat} {x:Rat} (h:x∈p):∃ i,i<p.length/\p.getD i 0=x:=by
 obtain⟨i,hi,rfl⟩:=awi h
 exact⟨i,hi,by rw [bz,cq hi];rfl⟩
theorem aB0 {p q:List Rat} (hl:p.length=q.length) (h:∀ i,i<p.length->p.getD i 0=q.getD i 0):p=q:=by
 apply uJ hl
 intro i h1 h2
 have:=h i h1
 rw [bz,bz,cq h1,cq h2] at this
 exact this
def vF (t:Rat):Nat->List Rat->List Rat
 | 0,_=>[]
 | k+1,p=>p.getD 0 0 :: vF t k (jE t p)
def uZ (t:Rat):Nat->List Rat->List Rat->List Rat
 | 0,q,tl=>q++tl
 | k+1,q,tl=>uZ t k (jE t q) (q.getD k 0 :: tl)
def qx (p:List Rat) (t:Rat):List Rat:=vF t p.length p
def nq (p:List Rat) (t:Rat):List Rat:=uZ t p.length p []
theorem alF (t:Rat):∀ (k:Nat) (p:List Rat),(vF t k p).length=k
 | 0,_=>rfl
 | k+1,p=>by simp [vF,alF t k]
theorem atZ (t:Rat):∀ (k:Nat) (q tl:List Rat),q.length=k->(uZ t k q tl).length=k+tl.length
 | 0,q,tl,h=>by simp [uZ,h]
 | k+1,q,tl,h=>by rw [uZ,atZ t k _ _ (by rw [qY];omega)];simp;omega
theorem zI (p:List Rat) (t:Rat):(qx p t).length=p.length:=alF t _ _
theorem aan (p:List Rat) (t:Rat):(nq p t).length=p.length:=by rw [nq,atZ t _ _ _ rfl];simp
theorem aBh {α:Type} (A B:List α) (x v:α) {n:Nat} (h:n=A.length):(A++x :: B).set n v=A++v :: B:=by subst h;simp
theorem aih {α:Type} (A B:List α) (d:α) {i:Nat} (h:i<A.length):(A++B).getD i d=A.getD i d:=by simp [bz,aaz h]
theorem alg {α:Type} (A B:List α) (d:α) {i:Nat} (h:A.length<=i):(A++B).getD i d=B.getD (i-A.length) d:=by simp [bz,aeM h]
theorem asS (l:List Rat) (k p:Nat):(l.drop k).getD p 0=l.getD (k+p) 0:=by
 rw [bz,bz,sA]
theorem aDh {t:Rat} {q tl:List Rat} {i:Nat} (h:i+1<q.length) :
  ((jE t q).take i++(q.drop i++tl)).getD i 0=q.getD i 0/\((jE t q).take i++(q.drop i++tl)).getD (i+1) 0=q.getD (i+1) 0:=by
 have hl:((jE t q).take i).length=i:=by rw [eG,qY];omega
 constructor
 ·rw [alg _ _ _ ae,hl,pB,aih _ _ _ bw,asS,mf]
 ·rw [alg _ _ _ ae,hl,aih _ _ _ bw,asS];congr 1;omega
theorem aDi {t:Rat} {q tl:List Rat} {i:Nat} (h:i+1<q.length) :
  ((jE t q).take i++(q.drop i++tl)).set i ((1-t)*q.getD i 0+t*q.getD (i+1) 0)=(jE t q).take (i+1)++(q.drop (i+1)++tl):=by
 have hl:((jE t q).take i).length=i:=by rw [eG,qY];omega
 rw [aap ae,List.cons_append,aBh _ _ _ _ hl.symm,<-ac0 t q i h]
 have hs:i<(jE t q).length:=by rw [qY];omega
 rw [abT hs,xh]
 congr 1
 rw [bz,cq hs]
 simp
theorem aD6 {t:Rat} {q tl:List Rat} {k:Nat} (h:q.length=k+1):(jE t q).take k++(q.drop k++tl)=jE t q++(q.getD k 0 :: tl):=by
 rw [de (by rw [qY];omega),aap ae,jQ ae,bz,cq ae]
 simp
theorem ajR {t:Rat} {q:List Rat} {C M k:Nat} (hC:rl (1-t)+rl t+1<=C) (h:∀ x∈q,(rl x+C)*2 ^ (k+1)<=M):∀ x∈jE t q,(rl x+C)*2 ^ k<=M:=by
 intro x hx
 obtain⟨i,hi,rfl⟩:=afD hx
 rw [qY] at hi
 rw [ac0 t q i ae]
 have h1:=h _ (dK (p:=q) (i:=i) ae)
 have h2:=h _ (dK (p:=q) (i:=i+1) ae)
 have e1:=kC ((1-t)*q.getD i 0) (t*q.getD (i+1) 0)
 have e2:=cX (1-t) (q.getD i 0)
 have e3:=cX t (q.getD (i+1) 0)
 rw [jg] at h1 h2
 have hle:rl ((1-t)*q.getD i 0+t*q.getD (i+1) 0)+C<=(rl (q.getD i 0)+C)+(rl (q.getD (i+1) 0)+C):=by omega
 have:=fP (2 ^ k) hle
 have e6:=Nat.add_mul (rl (q.getD i 0)+C) (rl (q.getD (i+1) 0)+C) (2 ^ k)
 have e4:(rl (q.getD i 0)+C)*(2 ^ k*2)=(rl (q.getD i 0)+C)*2 ^ k*2:=by rw [fH]
 have e5:(rl (q.getD (i+1) 0)+C)*(2 ^ k*2)=(rl (q.getD (i+1) 0)+C)*2 ^ k*2:=by rw [fH]
 omega
theorem arO {o p:List Rat} {k:Nat} (hk:k<p.length) (c9:o.length=p.length) (ht:o.take k=p.take k):(o.set k (p.getD k 0)).take (k+1)=p.take (k+1):=by
 rw [abT (by simpa [c9] using hk),abT hk,as2 (bp _),ht]
 congr 1
 simp [bz,cq hk]
theorem r1r:((1:Int):Rat)=1:=rfl
theorem acB {x:Rat} {C M k:Nat} (h:(rl x+C)*2 ^ k<=M):rl x+C<=M:=by
 have:1<=2 ^ k:=lY ae
 exact a9 (arM _ this) h
theorem aoK {p:List Rat} {C:Nat} (hC:1<=C) (h:∀ x∈p,(rl x+C)*2 ^ p.length<=1073741824):p.length<=30:=by
 cases p with
 | nil=>simp
 | cons x r =>
  have h1:=h x aT
  have h2:1*2 ^ (x :: r).length<=(rl x+C)*2 ^ (x :: r).length:=fP _ ae
  rcases gM 30 (x :: r).length with h3 | h3
  ·have h4:2 ^ 31<=2 ^ (x :: r).length:=lO ae h3
   omega
  ·exact h3
theorem azS {t:Rat} {q tl:List Rat} {i:Nat} (h:i<q.length):((jE t q).take i++(q.drop i++tl)).length=q.length+tl.length:=by
 simp [qY];omega
namespace aqM
theorem aM {p q:Prop} (k:q) (e:p=q:=by simp only [e1,e2,e3,e4,p1,p2,p3,q1,q2,q3,l1,t0,t1,r1,r2,r3,r4,Nat.zero_add,Nat.reduceMul,Nat.reduceAdd,b1,b2,b3,b4,b5,b6,i1,i2,i3,i4,i5,i6,Nat.reduceBEq,cN,Rat.add_zero,aV ar,cY,LV.kill,b7];exact rfl):p:=e.mpr k
end aqM
open aqM in
theorem aoa (p:List Rat) (hl:p.length<=1048576) (nM:∀ x∈p,rl x<=274877906944):o6 al 178 [.list 3 (p.map ah)] (.ref 1 3 0 p.length) [⟨3,p.map ah,true⟩]:=by
 refine fnO Tryz.func178 ?_
 refine bE ?_
 refine fG rfl rfl (.mw (n:=p.length) (m:=p.length) ml ml om om om) ?_
 refine bF ?_
 refine lG (fun(k:Nat) (o:List Rat) L=>(((((St.mk L.slot (hp [(8,⟨3,o.map ah,true⟩)])).put (some 3) (.ref 8 3 0 p.length)).put (some 9) (.list 3 (p.map ah))).put (some 10) (ai p.length)).put (some 11) (ai k))) (fun k o=>k<=p.length/\o.length=p.length/\o.take k=p.take k) (fun k o=>p.length-k) 0 (ay p.length 0) ⟨b8 _,by simp,rfl⟩ ?_
 rintro k o L1 ⟨hk,c9,ht⟩
 refine aD ?_
 refine aF rfl ?_ ?_<;>intro ads h12
 ·have mJ:k<p.length:=by omega
  have hrk:=nM _ (dK mJ)
  refine oV ?_
  refine ao rfl qc ?_
  refine cp au (jz (p.getD k 0) 0 (by rw [show rl 0=1 from rfl];omega)) ?_
  refine ba ?_
  refine cy (az.kill _ 5) ?_
  refine aA ?_
  exact iW (k+1) (o.set k (p.getD k 0)) ⟨ae,by simp [c9],arO mJ c9 ht⟩
 ·obtain rfl:k=p.length:=by omega
  rw [nn,<-c9,nn] at ht
  refine bF ?_
  subst ht
  exact age rfl rfl (a7 ar _)
namespace auZ
theorem aM {p q:Prop} (k:q) (e:p=q:=by simp only [e1,e2,e3,e4,p1,p2,p3,q1,q2,q3,l1,t0,t1,r1,r2,r3,r4,Nat.zero_add,Nat.reduceMul,Nat.reduceAdd,b1,b2,b3,b4,b5,b6,i1,i2,i3,i4,i5,i6,Nat.reduceBEq,adg,cN,Rat.add_zero,List.append_nil,List.length_append,r1r,ek,eq0,alh,aj0,ems,eme,mL,mG,mB,jB,List.length_cons,List.length_nil,aV ar,cY,LV.kill,b7];exact rfl):p:=e.mpr k
end auZ
open auZ in
theorem aHz (p:List Rat) (t:Rat) (cc:Nat) (hC:rl (1-t)+rl t+1<=cc) (qO:cc<=1073741824) (hs:∀ x∈p,(rl x+cc)*2 ^ p.length<=1073741824):ax al 176 [.list 3 (p.map ah),ah t] (.bf [.list 3 ((qx p t).map ah),.list 3 ((nq p t).map ah)]):=by
 have hlen:=aoK (a9 (au5 1 _) hC) hs
 have nM:∀ x∈p,rl x<=274877906944:=fun x hx=>by have:=acB (hs x hx);omega
 refine aS Tryz.func176 ?_
 have ek:True:=trivial
 have eq0:True:=trivial
 have alh:True:=trivial
 have aj0:True:=trivial
 have ems:True:=trivial
 have eme:True:=trivial
 have mL:True:=trivial
 refine bn ?_
 refine a8 4 an ?_
 refine cp aQ (wV 1 ak ak) ?_
 refine av ?_
 refine cp au (rN _ _ (by rw [show rl ((1:Int):Rat)=1 from rfl];omega)) ?_
 refine aY ?_
 refine aaV [] rfl rfl (.cons (.pure (fh ar _ _)) .nil) (aoa p ae nM) (a7 ar _) rfl ?_
 refine aY ?_
 refine fG rfl rfl (.an6 (n:=0) (m:=p.length) ar rR Z31 cZ mj rfl rfl ae ae ae) ?_
 refine dG ?_
 refine kY (az.mv (t:=8) (b:=18) 33 ak ak ak rfl rfl rfl) ?_
 refine lp4 (fun(k:Nat) (q tl lo:List Rat) L=>((((((St.mk L.slot (hp [(3,⟨3,[ah t],true⟩),(6,⟨3,[ah (1-t)],true⟩),(1000241,⟨3,(q++tl).map ah,true⟩),(33,⟨3,lo.map ah,true⟩)])).put (some 3) (.aB 3 3 0 0)).put (some 6) (.aB 6 3 0 0)).put (some 7) (.ref 1000241 3 0 p.length)).put (some 8) (.ref 33 3 0 lo.length)).put (some 9) (iL ((k:Int)-1)))) (fun k q tl lo=>q.length=k/\k+tl.length=p.length/\lo.length+k=p.length/\lo++vF t k q=qx p t/\uZ t k q tl=nq p t/\∀ x∈q,(rl x+cc)*2 ^ k<=1073741824) (fun k q tl lo=>k) p.length p ([]) ([]) ⟨rfl,by simp,by simp,by simp [qx],rfl,hs⟩ ?_
 rintro k q tl lo L1 ⟨hq,htl,cd,hL,hH,bJ⟩
 refine aY ?_
 refine aF rfl ?_ ?_<;>intro td rD
 ·obtain⟨j,rfl⟩:∃ j,k=j+1:=⟨k-1,ae⟩
  have ek:(((j+1:Nat):Int)-1)=(j:Int):=by omega
  have eq0:(q++tl).getD 0 0=q.getD 0 0:=aih _ _ _ ae
  have oI:=acB (bJ _ (dK (i:=0) ae))
  refine bI ?_
  refine ao rfl qc ?_
  simp only [zG,cN,fw,eq0]
  refine cp au (jz _ 0 (by rw [show rl 0=1 from rfl];omega)) ?_
  refine av ?_
  refine bU rfl (.app (news:=[ah (q.getD 0 0+0)]) rfl rfl rfl rfl rfl aT (.inl rfl) ak rR rR lU cZ rfl mj (.inl ⟨32,0,_,rfl,by decide,rfl,rfl,by simp,rfl,by simp [aN,ar.pure]⟩) bw bw ak) ?_
  refine aA ?_
  refine cy (az.kill _ 32) ?_
  refine ba ?_
  refine dU (fun(i:Nat) L=>((((((((St.mk L.slot (hp [(3,⟨3,[ah t],true⟩),(6,⟨3,[ah (1-t)],true⟩),(1000241,⟨3,((jE t q).take i++(q.drop i++tl)).map ah,true⟩),(33,⟨3,(lo++[q.getD 0 0]).map ah,true⟩)])).put (some 3) (.aB 3 3 0 0)).put (some 6) (.aB 6 3 0 0)).put (some 7) (.ref 1000241 3 0 p.length)).put (some 8) (.ref 33 3 0 (lo.length+1))).put (some 9) (ai j)).put (some 34) (ai j)).put (some 35) (ai i))) (fun i=>i<=j) (fun i=>j-i) 0 (b8 _) ?_
  rintro i L2 hi
  refine aD ?_
  refine aF rfl ?_ ?_<;>intro avv h36
  ·have rM:i<j:=by omega
   have mL:((i:Int)+1).toNat=i+1:=by omega
   obtain⟨alh,aj0⟩:=aDh (t:=t) (q:=q) (tl:=tl) (i:=i) ae
   have ems:=aDi (t:=t) (q:=q) (tl:=tl) (i:=i) ae
   have eW:=acB (bJ _ (dK (i:=i) ae))
   have py:=acB (bJ _ (dK (i:=i+1) ae))
   have jM:=cX (1-t) (q.getD i 0)
   have eO:=cX t (q.getD (i+1) 0)
   have w7:=azS (t:=t) (q:=q) (tl:=tl) (i:=i) ae
   refine bI ?_
   refine a8 17 an ?_
   refine aY ?_
   simp only [t1,cN,fw,alh]
   refine cp au (iz _ _ ae) ?_
   refine aD ?_
   simp only [mL,cN,fw,aj0]
   refine cp au (iz _ _ ae) ?_
   refine cp au (jz _ _ ae) ?_
   refine bI ?_
   exact lR
  ·obtain rfl:j=i:=by omega
   have eme:=aD6 (t:=t) (tl:=tl) hq
   refine bF ?_
   exact qW j (jE t q) (q.getD j 0 :: tl) (lo++[q.getD 0 0]) ⟨by rw [qY];omega,by simp;omega,by simp;omega,by rw [xh];exact hL,hH,ajR hC bJ⟩
 ·obtain rfl:k=0:=by omega
  obtain rfl:q=[]:=m8 hq
  rw [vF,mV] at hL
  rw [uZ] at hH
  refine dH ?_
  rw [<-hL,<-hH]
  exact ajP [33,1000241] rfl rfl (fC ar rfl rfl rfl) rfl (fC ar rfl rfl (by simpa using htl.symm))
def jv (l:List Int) (k:Nat):LV:=.agg [.list 1 (l.map fR),.v (.int .i64 (k:Nat))]
theorem dv (l:List Int) (k:Nat):aN [jv l k]=true:=by simp [aN,jv,LV.pure,a7 oS]
theorem ajs {a b:Int} (h:b≠0):dL .rem .i64 a b=some (.int .i64 (a.tmod b)):=by simp [dL,h]
theorem dfi:(default:Int)=0:=rfl
def eA (l:List Int) (k:Nat) (n:Int):Int:=if k<l.length then l.getD k 0 % n else 0
def bK (l:List Int) (k:Nat):Nat:=if k<l.length then k+1 else k
theorem oT {l:List Int} {k:Nat} {n:Int} (h:0<n):0<=eA l k n/\eA l k n<n:=by
 unfold eA;split
 ·exact⟨aag _ ae,zS _ h⟩
 ·omega
theorem ayX {a m:Int} (hm:0<m):a % m=if a.tmod m<0 then a.tmod m+m else a.tmod m:=by
 have h1:=aag a (show m≠0 by omega)
 have h2:=zS a hm
 rw [Int.tmod_eq_emod]
 split<;>split<;>omega
theorem ag0 {P:Program} {L:St} {a:Nat} {T:TypeId} {b sz:Nat} {x y:LV} {m:Bool} {n:Nat} {ag:Bool} {blk:bh} (h:L.slot a=.aB b sz 0 0) (hb:L.heap b=some ⟨sz,[x],m⟩)
  (hx:x.aw=sz) (cj:x.at 0 n ag=some x) (hT:bC P T n ag) (hi:cV L.heap x y) (h0:L.heap 0=some blk) (hm:blk.mt=true) (hp:aN blk.vals=true):yQ P [.cell a T] L y blk :=
 ⟨[x],[y],L.heap,.cons ⟨b,sz,0,0,_,x,n,ag,h,hb,rfl,rfl,hx,cj,hT⟩ .nil,bW.le_refl _,.cons (.cE hi) .nil,h0,hm,hp,rfl⟩
theorem ay3 {P:Program} {L:St} {t:Nat} {x y:LV} {blk:bh} (bs:List Nat) (h0:bs.contains 0=false) (h:L.slot t=x) (hi:cV (L.b9 bs).heap x y) (hb:(L.b9 bs).heap 0=some blk) (hm:blk.mt=true) (hp:aN blk.vals=true):yQ P [.tmp t] L y blk :=
 ⟨[x],[y],(L.b9 bs).heap,.cons h .nil,sw bs h0,.cons (.cE hi) .nil,hb,hm,hp,rfl⟩
def nV (l:List Int) (k:Nat):Rat × Nat :=
 if eA l (bK l k) 4=3 then(((eA l k 13-6:Int):Rat)/((1+eA l (bK l (bK l k)) 4:Int):Rat),bK l (bK l (bK l k))) else(((eA l k 13-6:Int):Rat),bK l (bK l k))
theorem afu {n d:Int} (h1:n.natAbs<4294967296) (h2:d.natAbs<4294967296):rl ((n:Rat)/(d:Rat))<=1:=by
 rw [<-ae7]
 have:=ab7 (k:=1) (decide (n<0) != decide (d<0)) (by simpa using h1) (by simpa using h2)
 omega
theorem adQ {n:Int} (h1:n.natAbs<4294967296):rl (n:Rat)<=1:=by
 have:=afu (n:=n) (d:=1) h1 ak
 rwa [show ((1:Int):Rat)=1 from rfl,jo,show (1:Rat)⁻¹=1 by grind,rj] at this
theorem aBG {P:Program} {L:St} {t b sz:Nat} {blk:bh} (h:L.slot t=.aB b sz 0 0) (hb:L.heap b=some blk) (hp:aN blk.vals=true):pn P [.tmp t] L (.aB 1 sz 0 0) [blk] :=
 ⟨[.aB b sz 0 0],[.aB 1 sz 0 0],L.heap,[b],.cons h .nil,bW.le_refl _,.cons (.ptr (k:=0) rfl) .nil,by simp,rfl,fun k c hk=>by
  cases k with
  | zero=>simp at hk;subst hk;exact⟨blk,hb,rfl,hp⟩
  | succ k=>simp at hk,rfl⟩
theorem nJ {l:List Int} {k:Nat} (hl:l.length<=500) (hk:k<=500):bK l k<=500:=by unfold bK;split<;>omega
theorem aef {l:List Int} {k:Nat} (hl:l.length<=500) (hk:k<=500):(nV l k).2<=500:=by
 have h1:=nJ (l:=l) hl hk
 have h2:=nJ (l:=l) hl h1
 unfold nV;split
 ·exact nJ hl h2
 ·exact h2
theorem af7 (l:List Int) (k b:Nat):(jv l k).kill b=jv l k:=LV.lV b _ (by simp [jv,LV.pure,aN,a7 oS])
open H0 in
theorem abM (n m:Int) (hm:0<m) (eO:m<=4611686018427387904):ax al 12 [iL n,iL m] (iL (n % m)):=by
 have hE:=ayX (a:=n) hm
 have hb:=Int.tmod_lt_of_pos n hm
 have xa:=Int.lt_tmod_of_pos n hm
 refine aS Tryz.func12 ?_
 refine bE ?_
 refine ao rfl (.bin rfl rfl (ajs ae)) ?_
 refine bI ?_
 refine gY (fun L=>∃ (r:Int) (L1:St),(r=n % m)/\L=((St.mk L1.slot (hp [])).put (some 0) (iL r))) ?_ ?_
 ·refine aF rfl ?_ ?_<;>intro wi h9
  ·refine aL ?_
   refine ao rfl z8 ?_
   refine aL ?_
   exact⟨n.tmod m+m,_,by rw [hE,if_pos h9],((aj (bG cl) cl)).symm⟩
  ·refine aP ?_
   exact⟨n.tmod m,_,by rw [hE,if_neg h9],((aj (bG cl) cl)).symm⟩
 ·rintro _ ⟨r,LC9,hr,rfl⟩
  refine bn ?_
  rw [<-hr]
  exact dW
open H0 in
theorem aIt (l:List Int) (h:l.length<=9223372036854775807):ax al 8 [.list 1 (l.map fR)] (bL (decide (l.length<=500))):=by
 refine aS Tryz.func8 ?_
 refine dH ?_
 refine dT (x:=.v (.bool (decide (((l.length:Nat):Int)<=500)))) rfl ?_
 rw [show decide (((l.length:Nat):Int)<=500)=decide (l.length<=500) by rw [decide_eq_decide];omega]
 exact .pure rfl
open H0 in
theorem aA5 (l:List Int):o6 al 22 [.list 1 (l.map fR)] (.aB 1 2 0 0) [⟨2,[jv l 0],true⟩]:=by
 refine fnO Tryz.func22 ?_
 refine bn ?_
 refine ao rfl (.build (zs:=[.v (.slice none 0 0),.v (.int .i64 0)]) apz aB2 (by simp only [List.forall_mem_cons];exact⟨⟨_,rfl,rfl,mE⟩,fun _ h=>by cases h⟩)) ?_
 refine fG rfl rfl (.box mE) ?_
 refine aA ?_
 exact aBG rfl rfl (dv l 0)
namespace aur
theorem aM {p q:Prop} (k:q) (e:p=q:=by simp only [e1,e2,e3,e4,p1,p2,p3,q1,q2,q3,l1,t0,t1,r1,r2,r3,r4,Nat.zero_add,Nat.reduceMul,Nat.reduceAdd,b1,b2,b3,b4,b5,b6,i1,i2,i3,i4,i5,i6,Nat.reduceBEq,l1,ek1,dfi];exact rfl):p:=e.mpr k
end aur
open aur in
theorem rf (l:List Int) (k:Nat) (n:Int) (hl:l.length<=500) (hk:k<=500) (hn:0<n) (mZ:n<=1000):nc al 31 ⟨2,[jv l k],true⟩ [.aB 0 2 0 0,iL n] (iL (eA l k n)) ⟨2,[jv l (bK l k)],true⟩:=by
 refine xn Tryz.func31 ?_
 have ek1:True:=trivial
 refine aY ?_
 refine a8 10 an ?_
 refine bF ?_
 refine aF rfl ?_ ?_<;>intro rA lW
 ·have uL:¬ k<l.length:=by omega
  refine aY ?_
  rw [eA,if_neg uL,bK,if_neg uL]
  exact vK rfl (.cE (.pure rfl)) rfl rfl (dv l _)
 ·have uL:k<l.length:=by omega
  have ek1:(((k+1:Nat):Int)-1).toNat=k:=by omega
  refine bD ?_
  refine bU rfl (.store (y:=jv l k) (y':=jv l (k+1)) rfl rfl rfl rfl rfl rfl rfl T3 mE) ?_
  refine aL ?_
  refine a8 14 an ?_
  refine bn ?_
  refine ao rfl (.bin rfl rfl (aau (by first | omega | (simp;omega)) (by first | omega | (simp;omega)))) ?_
  refine aL ?_
  refine cp au (abM _ _ ae ae) ?_
  refine aA ?_
  rw [eA,if_pos uL,bK,if_pos uL]
  exact vK rfl (.cE (.pure rfl)) rfl rfl (dv l _)
namespace avq
theorem aM {p q:Prop} (k:q) (e:p=q:=by simp only [e1,e2,e3,e4,p1,p2,p3,q1,q2,q3,l1,t0,t1,r1,r2,r3,r4,Nat.zero_add,Nat.reduceMul,Nat.reduceAdd,b1,b2,b3,b4,b5,b6,i1,i2,i3,i4,i5,i6,Nat.reduceBEq,l1];exact rfl):p:=e.mpr k
end avq
open avq in
theorem akB (l:List Int) (k:Nat) (hl:l.length<=500) (hk:k<=500):nc al 67 ⟨2,[jv l k],true⟩ [.aB 0 2 0 0] (ah (nV l k).1) ⟨2,[jv l (nV l k).2],true⟩:=by
 have k1:=nJ (l:=l) hl hk
 have k2:=nJ (l:=l) hl k1
 have hb1:=oT (l:=l) (k:=k) (n:=13) ak
 have xa:=oT (l:=l) (k:=bK l (bK l k)) (n:=4) ak
 refine xn Tryz.func67 ?_
 refine bn ?_
 refine xD 0 rfl rfl rfl (dv l _) (.cons .ptr (.cons (.cE (.pure rfl)) .nil)) .ptr (rf l k 13 ae ae ak ak) rfl (dv l _) ?_
 refine aY ?_
 refine xD 0 rfl rfl rfl (dv l _) (.cons .ptr (.cons (.cE (.pure rfl)) .nil)) .ptr (rf l (bK l k) 4 ae ae ak ak) rfl (dv l _) ?_
 refine aL ?_
 refine aF rfl ?_ ?_<;>intro pa h8
 ·refine aL ?_
  refine ao rfl wg ?_
  refine av ?_
  refine xD 0 rfl rfl rfl (dv l _) (.cons .ptr (.cons (.cE (.pure rfl)) .nil)) .ptr (rf l (bK l (bK l k)) 4 ae ae ak ak) rfl (dv l _) ?_
  refine ao rfl z8 ?_
  refine cp au (acw (eA l k 13-6) (1+eA l (bK l (bK l k)) 4) ae ae ae ae ae) ?_
  refine ba ?_
  rw [nV,if_pos h8]
  exact ag0 rfl rfl (ar.aw _) (qm _) cZ (.pure (ar.pure _)) rfl rfl (dv l _)
 ·refine ba ?_
  refine ao rfl wg ?_
  refine cp aQ (rF (eA l k 13-6) ae ae) ?_
  refine aA ?_
  rw [nV,if_neg h8]
  exact ag0 rfl rfl (ar.aw _) (qm _) cZ (.pure (ar.pure _)) rfl rfl (dv l _)
theorem aGa (q:Rat):jH q≠1:=by rw [wT];split<;>omega
theorem arT (n:Nat) (h:(aq n).length<=4611686018427387904):ax al 147 [bl n] (bL true):=by
 have:=ayA (aq n) h
 rwa [decide_eq_true] at this
 by_cases h0:(aq n).length=0
 ·exact .inl h0
 ·exact .inr (afp (afh n) ae)
theorem asC {q:Rat} (h:0<(aq (jH q)).length):Nat.gcd q.num.natAbs (jH q)=1:=by
 rw [ajt h];exact q.reduced
end Go.Proofs.YtckppbhafancnaaGreat
namespace Go.Lg
end Go.Lg
namespace Go.Proofs.YtckppbhafancnaaGreat
open Go.Lg
theorem m10 {m:Nat} (h:m<10):(48+m % 10) % 4294967296=48+m:=by
 rw [iF h,iF (Nat.lt_of_lt_of_le (Nat.add_lt_add_left h 48) ak)]
namespace ao0
theorem aM {p q:Prop} (k:q) (e:p=q:=by simp only [e1,e2,e3,e4,p1,p2,p3,q1,q2,q3,l1,t0,t1,r1,r2,r3,r4,Nat.zero_add,Nat.reduceMul,Nat.reduceAdd,b1,b2,b3,b4,b5,b6,i1,i2,i3,i4,i5,i6,Nat.reduceBEq,ck,fW,zG];exact rfl):p:=e.mpr k
end ao0
open ao0 in
theorem aBr (q:Rat) (h:rl q<=1099511627776):ax al 80 [ah q] (bL true):=by
 have a1:=mr q
 have a2:=oc q
 have a3:=nB q
 have aX:=aGa q
 refine aS Tryz.func80 ?_
 refine bD ?_
 refine cp aQ (arT _ ae) ?_
 refine aA ?_
 refine cp aQ (arT _ ae) ?_
 refine bn ?_
 refine dg 18 rfl ?_ ?_<;>intro uf ur
 ·refine bE ?_
  refine aF rfl ?_ ?_<;>intro aiA h25
  ·exfalso
   have:=(abq (n:=jH q) ae).1
   omega
  ·refine bD ?_
   refine aF rfl ?_ ?_<;>intro abw h29
   ·refine aD ?_
    refine dg 33 rfl ?_ ?_<;>intro ad6 h33
    ·have hz:=aaq (q:=q) ae
     subst hz
     refine bI ?_
     exact dW
    ·exfalso
     have hz:=aaq (q:=q) ae
     subst hz
     revert ad6
     decide
   ·refine bE ?_
    refine dg 43 rfl ?_ ?_<;>intro alA h43
    ·refine ba ?_
     first | simp only [ck,nN] | skip
     refine aY ?_
     exact dW
    ·have nN:=asC (q:=q) ae
     refine aA ?_
     refine cp au (amE _ _ (cS _) (cS _) ae ae) ?_
     first | simp only [ck,nN] | skip
     refine cp aQ (adZ (aq 1) (cS _) ak) ?_
     refine aD ?_
     exact dW
 ·refine aaA ?_
  refine aF rfl ?_ ?_<;>intro abw h29
  ·refine aD ?_
   refine dg 33 rfl ?_ ?_<;>intro ad6 h33
   ·have hz:=aaq (q:=q) ae
    subst hz
    refine bI ?_
    exact dW
   ·exfalso
    have hz:=aaq (q:=q) ae
    subst hz
    revert ad6
    decide
  ·refine bE ?_
   refine dg 43 rfl ?_ ?_<;>intro alA h43
   ·refine ba ?_
    first | simp only [ck,nN] | skip
    refine aY ?_
    exact dW
   ·have nN:=asC (q:=q) ae
    refine aA ?_
    refine cp au (amE _ _ (cS _) (cS _) ae ae) ?_
    first | simp only [ck,nN] | skip
    refine cp aQ (adZ (aq 1) (cS _) ak) ?_
    refine aD ?_
    exact dW
def HS (p:List Rat) (t:Rat):Prop:=∃ cc,rl (1-t)+rl t+1<=cc/\cc<=1073741824/\∀ x∈p,(rl x+cc)*2 ^ p.length<=1073741824
theorem afg (p:List Rat) (t:Rat) (h:HS p t):ax al 176 [.list 3 (p.map ah),ah t] (.bf [.list 3 ((qx p t).map ah),.list 3 ((nq p t).map ah)]):=by
 obtain⟨cc,h1,h2,h3⟩:=h
 exact aHz p t cc h1 h2 h3
theorem HS.len {p:List Rat} {t:Rat} (h:HS p t):p.length<=30:=by
 obtain⟨cc,h1,h2,h3⟩:=h
 exact aoK (a9 (au5 1 _) h1) h3
theorem HS.rl {p:List Rat} {t:Rat} (h:HS p t):rl t<=1073741824/\∀ x∈p,Go.Lg.rl x<=1073741824:=by
 obtain⟨cc,h1,h2,h3⟩:=h
 exact⟨ae,fun x hx=>by have:=acB (h3 x hx);omega⟩
def aG (p:List Rat) (t:Rat):Rat:=(qx p t).getD (p.length-1) 0
def xb (p:List Rat) (a b:Rat):List Rat:=if 1-a≠0 then qx (nq p a) ((b-a)/(1-a)) else if b≠0 then nq (qx p b) (1/b) else p.reverse
theorem aos (p:List Rat) {x:Nat} (h:x<p.length):p.reverse.getD x 0=p.getD (p.length-1-x) 0:=by
 rw [bz,bz,List.getElem?_reverse h]
theorem aaC (o:List Rat) (i x:Nat) (v:Rat) (hi:i<o.length):(o.set i v).getD x 0=if x=i then v else o.getD x 0:=by
 rw [bz,bz,akz]
 by_cases h:i=x
 ·subst h;simp [hi]
 ·rw [if_neg h,if_neg (fun e=>h e.symm)]
theorem aFz {p o:List Rat} {i j n:Nat} (hp:p.length=n) (ho:o.length=n) (rM:i<j) (hj:j+i+1=n)
  (h:∀ x,x<n->o.getD x 0=if x<i\/n<=x+i then p.getD (n-1-x) 0 else p.getD x 0) :
  ∀ x,x<n->((o.set i (o.getD j 0)).set j (o.getD i 0)).getD x 0=if x<i+1\/n<=x+(i+1) then p.getD (n-1-x) 0 else p.getD x 0:=by
 intro x hx
 rw [aaC _ _ _ _ bw,aaC _ _ _ _ ae,h j ae,h i ae,h x hx]
 by_cases h1:x=j
 ·subst h1
  rw [if_pos rfl,if_neg ae,if_pos ae,show n-1-x=i by omega]
 ·rw [if_neg h1]
  by_cases h2:x=i
  ·subst h2
   rw [if_pos rfl,if_neg ae,if_pos ae,show n-1-x=j by omega]
  ·rw [if_neg h2]
   by_cases h3:x<i\/n<=x+i
   ·rw [if_pos h3,if_pos ae]
   ·rw [if_neg h3,if_neg ae]
theorem aD7 {p o:List Rat} {i n:Nat} (hp:p.length=n) (ho:o.length=n) (hi:n<=2*i+1) (h:∀ x,x<n->o.getD x 0=if x<i\/n<=x+i then p.getD (n-1-x) 0 else p.getD x 0):o=p.reverse:=by
 refine aB0 (by simp [hp,ho]) (fun x hx=>?_)
 rw [aos p ae,h x ae,hp]
 by_cases h3:x<i\/n<=x+i
 ·rw [if_pos h3]
 ·rw [if_neg h3];congr 1;omega
namespace ap5
theorem aM {p q:Prop} (k:q) (e:p=q:=by simp only [e1,e2,e3,e4,p1,p2,p3,q1,q2,q3,l1,t0,t1,r1,r2,r3,r4,Nat.zero_add,Nat.reduceMul,Nat.reduceAdd,b1,b2,b3,b4,b5,b6,i1,i2,i3,i4,i5,i6,Nat.reduceBEq,cN,ej,hll];exact rfl):p:=e.mpr k
end ap5
open ap5 in
theorem ahk (p:List Rat) (t:Rat) (h:HS p t) (oh:0<p.length):ax al 190 [.list 3 (p.map ah),ah t] (ah (aG p t)):=by
 have hll:=zI p t
 have hlen:=h.len
 have hj:(((p.length:Nat):Int)-1).toNat=p.length-1:=by omega
 refine aS Tryz.func190 ?_
 have ej:True:=trivial
 refine dH ?_
 refine aF rfl ?_ ?_<;>intro wi h9
 ·omega
 ·refine aD ?_
  refine cp au (afg _ _ (by assumption)) ?_
  refine bF ?_
  refine ao rfl kL ?_
  refine aD ?_
  rw [aG]
  exact gr
open H0 in
theorem anG (a b:Rat) (h:rl a+rl b<=1099511627776):ax al 177 [ah a,ah b] (ah (a/b)):=by
 refine aS Tryz.func177 ?_
 refine bD ?_
 refine cp au (wu _ _ ae) ?_
 refine iI ?_
 exact gr
def l5:Nat->Nat->Nat
 | _,0=>1
 | 0,_+1=>0
 | n+1,k+1=>l5 n k+l5 n (k+1)
theorem aje:∀ {n k:Nat},n<k->l5 n k=0
 | 0,k+1,_=>rfl
 | n+1,k+1,h=>by rw [l5,aje ae,aje ae]
theorem asD:∀ n,l5 n n=1
 | 0=>rfl
 | n+1=>by rw [l5,asD n,aje ae]
theorem ad4 (n:Nat):l5 n 0=1:=by cases n<;>rfl
theorem al3:∀ n k,l5 n k<=2 ^ n
 | n,0=>by rw [ad4];exact lY ae
 | 0,k+1=>by simp [l5]
 | n+1,k+1=>by
   have h1:=al3 n k
   have h2:=al3 n (k+1)
   rw [l5,jg];omega
theorem aoZ:∀ {n k:Nat},k<=n->0<l5 n k
 | n,0,_=>by rw [ad4];omega
 | n+1,k+1,h=>by have:=aoZ (n:=n) (k:=k) ae;rw [l5];omega
theorem agB {n:Nat} (k:Nat) (h:n<=40):l5 n k<=1099511627776:=a9 (al3 n k) (lO (n:=2) ae h)
def xu (n:Nat):List Int:=(cW (n+1)).map fun x=>(l5 n x:Int)
def iN (n:Nat):List Rat:=(cW (n+1)).map fun x=>((l5 n x:Int):Rat)
theorem zn (n:Nat):(xu n).length=n+1:=by simp [xu]
theorem zB (n:Nat):(iN n).length=n+1:=by simp [iN]
theorem amQ {n x:Nat} (h:x<=n):(xu n).getD x 0=(l5 n x:Int):=by
 rw [bz,cq (by rw [zn];omega)];simp [xu]
theorem aqz {n x:Nat} (h:x<=n):(iN n).getD x 0=((l5 n x:Int):Rat):=by
 rw [bz,cq (by rw [zB];omega)];simp [iN]
theorem aDf {p q:List Int} (hl:p.length=q.length) (h:∀ i,i<p.length->p.getD i 0=q.getD i 0):p=q:=by
 apply uJ hl
 intro i h1 h2
 have:=h i h1
 rw [bz,bz,cq h1,cq h2] at this
 exact this
theorem aJl (o:List Int) (i x:Nat) (v:Int) (hi:i<o.length):(o.set i v).getD x 0=if x=i then v else o.getD x 0:=by
 rw [bz,bz,akz]
 by_cases h:i=x
 ·subst h;simp [hi]
 ·rw [if_neg h,if_neg (fun e=>h e.symm)]
def adn (k i:Nat) (o:List Int):Prop:=o.length=k+2/\∀ x,x<k+2->o.getD x 0=if i<x/\x<=k then(l5 (k+1) x:Int) else if x<=k then(l5 k x:Int) else 1
theorem aEG (k:Nat):adn k k (xu k++[1]):=by
 refine⟨by simp [zn],fun x hx=>?_⟩
 rw [if_neg ae]
 by_cases h:x<=k
 ·rw [if_pos h,aih _ _ _ (by rw [zn];omega),amQ h]
 ·rw [if_neg h,alg _ _ _ (by rw [zn];omega),zn,show x-(k+1)=0 by omega];rfl
theorem aHI {k i:Nat} {o:List Int} (h:adn k (i+1) o) (hi:i+1<=k):adn k i (o.set (i+1) (o.getD (i+1) 0+o.getD i 0)):=by
 obtain⟨h1,h2⟩:=h
 refine⟨by simp [h1],fun x hx=>?_⟩
 rw [aJl _ _ _ _ ae]
 by_cases hxi:x=i+1
 ·subst hxi
  rw [if_pos rfl,if_pos ⟨ae,hi⟩,h2 _ ae,h2 _ ae,if_neg ae,if_pos ae,if_neg ae,if_pos ae,l5]
  simp;omega
 ·rw [if_neg hxi,h2 x hx]
  by_cases h3:i+1<x/\x<=k
  ·rw [if_pos h3,if_pos ⟨ae,h3.2⟩]
  ·rw [if_neg h3,if_neg (show ¬ (i<x/\x<=k) by omega)]
theorem ayq {k:Nat} {o:List Int} (h:adn k 0 o):o=xu (k+1):=by
 obtain⟨h1,h2⟩:=h
 refine aDf (by rw [zn,h1]) (fun x hx=>?_)
 rw [h2 x ae,amQ ae]
 by_cases h3:0<x/\x<=k
 ·rw [if_pos h3]
 ·rw [if_neg h3]
  by_cases h4:x<=k
  ·obtain rfl:x=0:=by omega
   rw [if_pos h4,ad4,ad4]
  ·obtain rfl:x=k+1:=by omega
   rw [if_neg h4,asD];rfl
theorem ar4 {k i:Nat} {o:List Int} (h:adn k i o) (hk:k<=39) {x:Nat} (hx:x<k+2):0<=o.getD x 0/\o.getD x 0<=1099511627776:=by
 rw [h.2 x hx]
 have h1:=agB (n:=k+1) x ae
 have h2:=agB (n:=k) x ae
 split
 ·omega
 ·split<;>omega
theorem abd {n:Nat} (hn:n<=40):∀ x∈iN n,rl x<=2:=by
 intro x hx
 simp only [iN,da] at hx
 obtain⟨k,_,rfl⟩:=hx
 have h:=agB k hn
 rw [<-aeo]
 have:=ab7 (k:=2) (decide ((l5 n k:Int)<0)) (n:=(l5 n k:Int).natAbs) (d:=1) ae ak
 omega
theorem abC {o p:List Rat} {k:Nat} {v:Rat} (hk:k<p.length) (c9:o.length=p.length) (ht:o.take k=p.take k) (hv:v=p.getD k 0):(o.set k v).take (k+1)=p.take (k+1):=by subst hv;exact arO hk c9 ht
theorem aC8 (n:Nat) (f:Int->LV):((xu n).map f).take (n+1)=(xu n).map f:=by rw [de (by simp [zn])]
theorem aBv {p:List Rat} {k:Nat} (h:p.length<=k):p.getD k 0=0:=by
 rw [bz,xL h];rfl
theorem aj8 {a b:List Rat} (h:a.length=b.length) (h2:∀ k,k<a.length->a.getD k 0=b.getD k 0):a=b:=by
 refine uJ h fun k h1 h3=>?_
 have:=h2 k h1
 rw [bz,bz,cq h1,cq h3] at this
 exact this
theorem aFB (o:List Rat) (i:Nat) (v:Rat) (k:Nat) (h:i<o.length):(o.set i v).getD k 0=if i=k then v else o.getD k 0:=by
 rw [bz,bz,akz]
 split
 ·rename_i e;subst e;first | rw [if_pos h];rfl | rfl
 ·rfl
theorem iG {o:List Rat} {S:Nat} (h1:1<=S) (h:∀ x∈o,rl x<=S) (k:Nat):rl (o.getD k 0)<=S:=by
 rcases gM k o.length with hk | hk
 ·exact h _ (dK hk)
 ·rw [bz,xL hk];show rl 0<=S;rw [show rl 0=1 from rfl];exact h1
theorem aA9 {o:List Rat} {S:Nat} {i:Nat} {v:Rat} (h:∀ x∈o,rl x<=S) (hv:rl v<=S):∀ x∈o.set i v,rl x<=S:=fun x hx=>by
 rcases List.mem_or_eq_of_mem_set hx with h1 | h1
 ·exact h x h1
 ·rw [h1];exact hv
namespace arf
theorem aM {p q:Prop} (k:q) (e:p=q:=by simp only [e1,e2,e3,e4,p1,p2,p3,q1,q2,q3,l1,t0,t1,r1,r2,r3,r4,Nat.zero_add,Nat.reduceMul,Nat.reduceAdd,b1,b2,b3,b4,b5,b6,i1,i2,i3,i4,i5,i6,Nat.reduceBEq,dfi,cN,aC8,List.append_nil,zn,ek1,ek2,egr,mG,mB,jB,List.length_cons,List.length_nil,aV oS,aV ar,LV.kill,b7];exact rfl):p:=e.mpr k
end arf
open arf in
theorem amD (n:Nat) (hn:n<=40):ax al 291 [ai n] (.list 3 ((iN n).map ah)):=by
 refine aS Tryz.func291 ?_
 have ek1:True:=trivial
 have ek2:True:=trivial
 have egr:True:=trivial
 refine o4 ?_
 refine kY (az.mv (t:=3) (b:=8) 14 ak ak ak rfl rfl rfl) ?_
 refine dU (fun(k:Nat) L=>((((St.mk L.slot (hp [(14,⟨1,(xu k).map fR,true⟩)])).put (some 3) (.ref 14 1 0 (k+1))).put (some 9) (ai n)).put (some 10) (ai k))) (fun k=>k<=n) (fun k=>n-k) 0 (b8 _) ?_
 rintro k L1 hk
 refine aD ?_
 refine aF rfl ?_ ?_<;>intro ajl h11
 ·have hkn:k<n:=by omega
  have ek2:((((k+1+1:Nat)):Int)-2)=(k:Int):=by omega
  refine bn ?_
  refine bU rfl (.app (news:=[fR 1]) rfl rfl rfl rfl rfl (by simp [zn]) (.inl rfl) ak atq atq Z2 T2 rfl B2 (.inl ⟨13,0,_,rfl,by decide,rfl,rfl,by simp,rfl,rfl⟩) bw bw ak) ?_
  refine aA ?_
  refine cy (az.kill _ 13) ?_
  refine aY ?_
  refine lG (fun(i:Nat) (o:List Int) L=>(((((St.mk L.slot (hp [(14,⟨1,o.map fR,true⟩)])).put (some 3) (.ref 14 1 0 (k+1+1))).put (some 4) (ai i)).put (some 9) (ai n)).put (some 10) (ai k))) (fun i o=>i<=k/\adn k i o) (fun i o=>i) k (xu k++[1]) ⟨bp _,aEG k⟩ ?_
  rintro i o L2 ⟨hi,hP⟩
  refine aY ?_
  refine aF rfl ?_ ?_<;>intro agD h19
  ·obtain⟨j,rfl⟩:∃ j,i=j+1:=⟨i-1,ae⟩
   have ek1:(((j+1:Nat):Int)-1)=(j:Int):=by omega
   have c9:=hP.1
   have hb1:=ar4 hP ae (x:=j+1) ae
   have xa:=ar4 hP ae (x:=j) ae
   refine aA ?_
   refine a8 11 an ?_
   refine aaA ?_
   exact iW j (o.set (j+1) (o.getD (j+1) 0+o.getD j 0)) ⟨ae,aHI hP hi⟩
  ·obtain rfl:i=0:=by omega
   have hE:=ayq hP
   subst hE
   refine bD ?_
   exact iD (k+1) ae
 ·obtain rfl:n=k:=by omega
  refine bE ?_
  refine fG rfl rfl (.mw (n:=n+1) (m:=n+1) ml ml om om om) ?_
  refine bF ?_
  refine lG (fun(i:Nat) (w:List Rat) L=>(((((St.mk L.slot (hp [(14,⟨1,(xu n).map fR,true⟩),(36,⟨3,w.map ah,true⟩)])).put (some 5) (.ref 36 3 0 (n+1))).put (some 37) (.ref 14 1 0 (n+1))).put (some 38) (ai (n+1))).put (some 39) (ai i))) (fun i w=>i<=n+1/\w.length=n+1/\w.take i=(iN n).take i) (fun i w=>n+1-i) 0 (ay (n+1) 0) ⟨b8 _,by simp,rfl⟩ ?_
  rintro i w L3 ⟨hi,iZ,kF⟩
  refine aD ?_
  refine aF rfl ?_ ?_<;>intro al2 wC
  ·have su:i<=n:=by omega
   have egr:=amQ su
   have nD:=agB i hn
   refine jw ?_
   refine cp aQ (wV (l5 n i:Int) ae ae) ?_
   refine bI ?_
   exact iW (i+1) (w.set i ((l5 n i:Int):Rat)) ⟨ae,by simp [iZ],abC (by rw [zB];omega) (by rw [zB,iZ]) kF (aqz ae).symm⟩
  ·obtain rfl:i=n+1:=by omega
   have hE:w=iN n:=by
    rw [de ae,de (by rw [zB];omega)] at kF
    exact kF
   subst hE
   refine bF ?_
   exact ow [36] rfl rfl (fC ar rfl rfl (by rw [zB]))
theorem wI {a b:Nat} (h:a+b<=9223372036854775807):dL .add .i64 (a:Nat) (b:Nat)=some (.int .i64 ((a+b:Nat):Int)):=by
 rw [sf ae ae];congr 2
theorem agf {a:Nat} (h:a+1<=9223372036854775807):dL .add .i64 (a:Nat) 1=some (.int .i64 ((a+1:Nat):Int)):=by
 rw [sf ae ae];congr 2
theorem aHg {o:List Rat} {i:Nat} {v:Rat} (h:i<o.length):(o.set i v).getD i 0=v:=by rw [aaC _ _ _ _ h,if_pos rfl]
def vD (x:Rat) (i:Nat) (y:List Rat) (q:List Rat) (o:List Rat):Nat->List Rat
 | 0=>o
 | j+1=>(vD x i y q o j).set (i+j) ((vD x i y q o j).getD (i+j) 0+x*(y.getD j 0*q.getD j 0))
def allM (p q:List Rat):Nat->List Rat
 | 0=>ay (p.length-1+(q.length-1)+1) 0
 | i+1=>vD ((iN (p.length-1)).getD i 0*p.getD i 0) i (iN (q.length-1)) q (allM p q i) q.length
def mo (p q:List Rat):List Rat:=(cW (p.length-1+(q.length-1)+1)).map fun k=>(allM p q p.length).getD k 0/(iN (p.length-1+(q.length-1))).getD k 0
theorem aez (x:Rat) (i:Nat) (y q o:List Rat):∀ j,(vD x i y q o j).length=o.length
 | 0=>rfl
 | j+1=>by simp [vD,aez x i y q o j]
theorem aej (p q:List Rat):∀ i,(allM p q i).length=p.length-1+(q.length-1)+1
 | 0=>by simp [allM]
 | i+1=>by rw [allM,aez,aej p q i]
theorem yk (p q:List Rat):(mo p q).length=p.length-1+(q.length-1)+1:=by simp [mo]
theorem apA {p q:List Rat} {k:Nat} (h:k<p.length-1+(q.length-1)+1):(mo p q).getD k 0=(allM p q p.length).getD k 0/(iN (p.length-1+(q.length-1))).getD k 0:=by
 rw [bz,cq (by rw [yk];exact h)];simp [mo]
theorem amM {x:Rat} {i R S:Nat} {y q o:List Rat} (hS:1<=S) (ho:∀ v∈o,rl v<=S) (hx:rl x<=R+2) (hy:∀ v∈y,rl v<=2) (hq:∀ v∈q,rl v<=R) (hR:1<=R):∀ j,∀ v∈vD x i y q o j,rl v<=S+j*(2*R+5)
 | 0,v,hv=>by have:=ho v hv;omega
 | j+1,v,hv=>by
   have ih:=amM (i:=i) hS ho hx hy hq hR j
   refine aA9 (S:=S+(j+1)*(2*R+5)) (fun w hw=>?_) ?_ v hv
   ·have:=ih w hw;rw [vH];omega
   ·have h1:=iG ae ih (i+j)
    have h2:=iG ae hy j
    have h3:=iG ae hq j
    have e1:=cX (y.getD j 0) (q.getD j 0)
    have e2:=cX x (y.getD j 0*q.getD j 0)
    have e3:=kC ((vD x i y q o j).getD (i+j) 0) (x*(y.getD j 0*q.getD j 0))
    rw [vH];omega
theorem ae0 {p q:List Rat} {R:Nat} (gv:p.length<=41) (jK:q.length<=41) (hR:1<=R) (kO:∀ v∈p,rl v<=R) (hq':∀ v∈q,rl v<=R):∀ i,∀ v∈allM p q i,rl v<=1+i*(q.length*(2*R+5))
 | 0,v,hv=>by
   simp only [allM,List.mem_replicate] at hv
   rw [hv.2];show rl 0<=_;rw [show rl 0=1 from rfl];omega
 | i+1,v,hv=>by
   have ih:=ae0 gv jK hR kO hq' i
   have hx:rl ((iN (p.length-1)).getD i 0*p.getD i 0)<=R+2:=by
    have h1:=iG ae (abd (n:=p.length-1) ae) i
    have h2:=iG hR kO i
    have:=cX ((iN (p.length-1)).getD i 0) (p.getD i 0)
    omega
   have:=amM ae ih hx (abd (n:=q.length-1) ae) hq' hR q.length v hv
   rw [vH];omega
theorem ax8 {i j l R:Nat} (hi:i<=41) (hl:l<=41) (hj:j<=l) (hR:R<=67108864):1+i*(l*(2*R+5))+j*(2*R+5)<=231122948107:=by
 have h1:=nz hl (show 2*R+5<=134217733 by omega)
 have h2:=nz hi h1
 have h3:=nz (show j<=41 by omega) (show 2*R+5<=134217733 by omega)
 omega
theorem aH6 (n x:Nat):(ay n (0:Rat)).getD x 0=0:=by
 rw [bz,adA];split<;>rfl
def dD (p:List Rat):List Rat:=if p.length<2 then [0] else(cW (p.length-1)).map fun i=>(((p.length-1:Nat):Int):Rat)*(p.getD (i+1) 0-p.getD i 0)
theorem zr {p:List Rat}:(dD p).length=if p.length<2 then 1 else p.length-1:=by unfold dD;split<;>simp
theorem anH {p:List Rat} {i:Nat} (h:i+1<p.length):(dD p).getD i 0=(((p.length-1:Nat):Int):Rat)*(p.getD (i+1) 0-p.getD i 0):=by
 unfold dD
 rw [if_neg ae,bz,cq bw];simp
theorem ahC {p:List Rat} {R:Nat} (hR:1<=R) (hl:p.length<=1000) (h:∀ x∈p,rl x<=R):∀ x∈dD p,rl x<=2*R+4:=by
 intro x hx
 obtain⟨k,hk,rfl⟩:=afD hx
 rw [zr] at hk
 by_cases h2:p.length<2
 ·rw [if_pos h2] at hk
  have:dD p=[0]:=by unfold dD;rw [if_pos h2]
  rw [this]
  obtain rfl:k=0:=by omega
  show rl 0<=_
  rw [show rl 0=1 from rfl];omega
 ·rw [if_neg h2] at hk
  rw [anH ae]
  have h3:=adQ (n:=((p.length-1:Nat):Int)) ae
  have h4:=h _ (dK (i:=k) ae)
  have h5:=h _ (dK (i:=k+1) ae)
  have h6:=jm (p.getD (k+1) 0) (p.getD k 0)
  have h7:=cX (((p.length-1:Nat):Int):Rat) (p.getD (k+1) 0-p.getD k 0)
  omega
namespace awO
theorem aM {p q:Prop} (k:q) (e:p=q:=by simp only [e1,e2,e3,e4,p1,p2,p3,q1,q2,q3,l1,t0,t1,r1,r2,r3,r4,Nat.zero_add,Nat.reduceMul,Nat.reduceAdd,b1,b2,b3,b4,b5,b6,i1,i2,i3,i4,i5,i6,Nat.reduceBEq,cN,List.length_set,aV ar,cY,et,LV.kill,b7];exact rfl):p:=e.mpr k
end awO
open awO in
theorem ahT (p:List Rat) (hl:p.length<=1000) (nM:∀ x∈p,rl x<=1073741824):ax al 250 [.list 3 (p.map ah)] (.list 3 ((dD p).map ah)):=by
 refine aS Tryz.func250 ?_
 refine dG ?_
 refine aF rfl ?_ ?_<;>intro pa h8
 ·have hE:dD p=[0]:=by unfold dD;rw [if_pos ae]
  refine aP ?_
  refine ao rfl qc ?_
  refine aD ?_
  rw [hE]
  exact ow [10] rfl rfl (fC ar rfl rfl rfl)
 ·have mM:(dD p).length=p.length-1:=by rw [zr,if_neg ae]
  refine aD ?_
  refine ao rfl kL ?_
  refine cp aQ (wV ((p.length-1:Nat):Int) ae ae) ?_
  refine bn ?_
  refine ao rfl kL ?_
  refine fG rfl rfl (.mw (n:=(p.length-1)) (m:=(p.length-1)) ml ml om om om) ?_
  refine bF ?_
  refine lG (fun(i:Nat) (w:List Rat) L=>(((((((St.mk L.slot (hp [(3,⟨3,[ah (((p.length-1:Nat):Int):Rat)],true⟩),(18,⟨3,w.map ah,true⟩)])).put (some 0) (.list 3 (p.map ah))).put (some 3) (.aB 3 3 0 0)).put (some 4) (.ref 18 3 0 (p.length-1))).put (some 19) (.ref 18 3 0 (p.length-1))).put (some 20) (ai (p.length-1))).put (some 21) (ai i))) (fun i w=>i<=p.length-1/\w.length=p.length-1/\w.take i=(dD p).take i) (fun i w=>p.length-1-i) 0 (ay (p.length-1) 0) ⟨b8 _,by simp,rfl⟩ ?_
  rintro i w L1 ⟨hi,iZ,kF⟩
  refine aD ?_
  refine aF rfl ?_ ?_<;>intro aeq h22
  ·have dR:i<p.length-1:=by omega
   have eW:=nM _ (dK (i:=i) ae)
   have py:=nM _ (dK (i:=i+1) ae)
   have hr3:=jm (p.getD (i+1) 0) (p.getD i 0)
   have hr4:=adQ (n:=((p.length-1:Nat):Int)) ae
   refine bI ?_
   refine a8 15 an ?_
   refine ba ?_
   refine ao rfl cM ?_
   refine aD ?_
   refine cp au (rN (p.getD (i+1) 0) (p.getD i 0) ae) ?_
   refine cp au (iz (((p.length-1:Nat):Int):Rat) (p.getD (i+1) 0-p.getD i 0) ae) ?_
   refine bI ?_
   exact iW (i+1) (w.set i ((((p.length-1:Nat):Int):Rat)*(p.getD (i+1) 0-p.getD i 0))) ⟨ae,by simp [iZ],abC ae ae kF (anH ae).symm⟩
  ·obtain rfl:i=p.length-1:=by omega
   have hE:w=dD p:=by
    rw [de ae,de ae] at kF
    exact kF
   subst hE
   refine bF ?_
   exact ow [18] rfl rfl (fC ar rfl rfl mM.symm)
end Go.Proofs.YtckppbhafancnaaGreat
namespace Go.Lg
theorem az.cE {L:St} {t:Nat} {x y:LV} (bs:List Nat) (h0:bs.contains 0=false) (h:L.slot t=x) (hi:cV (L.b9 bs).heap x y):az L ((L.b9 bs).put (some t) y):=by
 rintro n W X Z0 a w ⟨ec,bJ,μ,Z,hc,hr⟩
 obtain⟨Z1,k1,k2⟩:=hc.xl (sw bs h0)
 refine⟨ec,bJ,μ,Z1,by rw [lH];exact k1,fun s=>?_⟩
 have dO:Frame Z μ w w:=⟨fun _ _=>rfl,fun _ id _ c _ _ hh=>⟨c,hh,rfl⟩⟩
 have hs:=(hr s).mono k2 (fun _ _ h=>h) dO
 rw [g8]
 split
 ·rename_i dC
  subst dC
  rw [h] at hs
  exact bj.sN (LV.eP hi.lay.2.2) (hi.abE k1 hs)
 ·exact hs
end Go.Lg
namespace Go.Proofs.YtckppbhafancnaaGreat
open Go.Lg
theorem aC9 {a:Rat} (h:0<a):cT a=1:=by unfold cT;rw [if_neg cG,if_neg cG]
theorem aBz {a:Rat} (h:a<0):cT a=-1:=by unfold cT;rw [if_neg cG,if_pos h]
theorem aFw (a:Rat):(a=0/\cT a=0)\/(0<a/\cT a=1)\/(a<0/\cT a=-1):=by
 by_cases h:a=0
 ·exact .inl ⟨h,by rw [h];rfl⟩
 ·by_cases h1:a<0
  ·exact .inr (.inr ⟨h1,aBz h1⟩)
  ·have:0<a:=by grind
   exact .inr (.inl ⟨this,aC9 this⟩)
theorem aoG {a:Rat} (h:cT a≠0):a≠0:=fun e=>h (by rw [e];rfl)
theorem aDZ {a b:Int} (h:b≠0) (h1:-9223372036854775808<=a.tdiv b) (h2:a.tdiv b<=9223372036854775807):dL .quo .i64 a b=some (.int .i64 (a.tdiv b)):=by
 simp only [dL];rw [if_neg h,IntWalk.i64_in _ ⟨h1,h2⟩]
def fE (a b:Rat):Nat->(Nat->Rat)->Rat
 | 0,f=>f 0
 | n+1,f=>fE a b n (fun i=>a*f i+b*f (i+1))
theorem oD (a b:Rat):∀ (n:Nat) (f g:Nat->Rat),(∀ i,i<=n->f i=g i)->fE a b n f=fE a b n g
 | 0,f,g,h=>h 0 (bp _)
 | n+1,f,g,h=>oD a b n _ _ fun i hi=>by rw [h i ae,h (i+1) ae]
theorem xj (a b c d:Rat):∀ (n:Nat) (f g:Nat->Rat),fE a b n (fun i=>c*f i+d*g i)=c*fE a b n f+d*fE a b n g
 | 0,f,g=>rfl
 | n+1,f,g=>by
  rw [fE,fE,fE,<-xj a b c d n]
  congr 1;funext i;grind
theorem agW (a b:Rat) (n:Nat) (f:Nat->Rat):fE a b (n+1) f=a*fE a b n f+b*fE a b n (fun i=>f (i+1)):=xj a b a b n f (fun i=>f (i+1))
theorem alr (a b u v:Rat):∀ (n:Nat) (f:Nat->Rat),fE a b n (fun k=>fE u v k f)=fE (a+b*u) (b*v) n f
 | 0,f=>rfl
 | n+1,f=>by
  rw [agW,alr a b u v n f]
  have e:=alr a b u v n (fun i=>u*f i+v*f (i+1))
  have e2:(fun i=>fE u v (i+1) f)=(fun k=>fE u v k (fun i=>u*f i+v*f (i+1))):=rfl
  rw [e2,e,<-xj]
  show fE _ _ n _=fE _ _ n _
  congr 1;funext i;grind
theorem aj7 (t:Rat):∀ (k:Nat) (q:List Rat),k<q.length->(vF t q.length q).getD k 0=fE (1-t) t k (fun i=>q.getD i 0)
 | 0,q,h=>by
  obtain⟨m,hm⟩:∃ m,q.length=m+1:=⟨q.length-1,ae⟩
  rw [hm];rfl
 | k+1,q,h=>by
  obtain⟨m,hm⟩:∃ m,q.length=m+1:=⟨q.length-1,ae⟩
  have hs:(jE t q).length=m:=by rw [qY];omega
  have:=aj7 t k (jE t q) ae
  rw [hs] at this
  rw [hm,vF,asP,this,fE]
  exact oD _ _ _ _ _ fun i hi=>ac0 t q i ae
theorem mn {p:List Rat} {t:Rat} (h:0<p.length):aG p t=fE (1-t) t (p.length-1) (fun i=>p.getD i 0):=aj7 t _ p ae
theorem agb:∀ (n:Nat) (f:Nat->Rat),fE 0 1 n f=f n
 | 0,f=>rfl
 | n+1,f=>by rw [fE,agb n];grind
theorem akg {t:Rat} {C M:Nat} (hC:rl (1-t)+rl t+1<=C):∀ (k:Nat) (q:List Rat),q.length=k->(∀ x∈q,(rl x+C)*2 ^ k<=M)->∀ x∈vF t k q,rl x+C<=M
 | 0,q,_,_,x,hx=>by cases hx
 | k+1,q,hq,h,x,hx=>by
  rw [vF,fu] at hx
  rcases hx with rfl | hx
  ·exact acB (h _ (dK ae))
  ·exact akg hC k (jE t q) (by rw [qY];omega) (ajR hC h) x hx
theorem aoX {t:Rat} {C M:Nat} (hC:rl (1-t)+rl t+1<=C):∀ (k:Nat) (q tl:List Rat),q.length=k->(∀ x∈q,(rl x+C)*2 ^ k<=M)->(∀ x∈tl,rl x+C<=M)->∀ x∈uZ t k q tl,rl x+C<=M
 | 0,q,tl,hq,_,h2,x,hx=>by
  obtain rfl:q=[]:=m8 hq
  exact h2 x hx
 | k+1,q,tl,hq,h,h2,x,hx=>by
  refine aoX hC k (jE t q) _ (by rw [qY];omega) (ajR hC h) (fun y hy=>?_) x hx
  rcases fu.1 hy with rfl | hy
  ·exact acB (h _ (dK ae))
  ·exact h2 y hy
theorem HS.lo {p:List Rat} {t:Rat} (h:HS p t):∀ x∈qx p t,Go.Lg.rl x<=1073741824:=fun x hx=>by
 obtain⟨cc,h1,h2,h3⟩:=h
 have:=akg h1 p.length p rfl h3 x hx
 omega
theorem HS.hi {p:List Rat} {t:Rat} (h:HS p t):∀ x∈nq p t,Go.Lg.rl x<=1073741824:=fun x hx=>by
 obtain⟨cc,h1,h2,h3⟩:=h
 have:=aoX h1 p.length p [] rfl h3 (fun y hy=>by cases hy) x hx
 omega
theorem HS.ev {p:List Rat} {t:Rat} (h:HS p t):Go.Lg.rl (aG p t)<=1073741824:=iG ak h.lo _
theorem akj (a b:Rat):∀ (n:Nat) (f:Nat->Rat),fE a b n f=fE b a n (fun i=>f (n-i))
 | 0,f=>rfl
 | n+1,f=>by
  rw [agW,agW,akj a b n f,akj a b n (fun i=>f (i+1))]
  have e1:fE b a n (fun i=>f (n-i+1))=fE b a n (fun i=>f (n+1-i)):=oD _ _ _ _ _ fun i hi=>by congr 1;omega
  have e2:(fun i=>f (n+1-(i+1)))=fun i=>f (n-i):=by funext i;congr 1;omega
  rw [e1,e2];grind
theorem apn (t:Rat):∀ (k:Nat) (q tl:List Rat),q.length=k->∀ j,j<k->(uZ t k q tl).getD j 0=fE (1-t) t (k-1-j) (fun i=>q.getD (j+i) 0)
 | 0,_,_,_,j,h=>by omega
 | k+1,q,tl,hq,j,hj=>by
  rw [uZ]
  have hs:(jE t q).length=k:=by rw [qY];omega
  rcases gM j k with h | h
  ·rw [apn t k _ _ hs j h,show k+1-1-j=k-1-j+1 by omega,fE]
   exact oD _ _ _ _ _ fun i hi=>by rw [ac0 t q _ ae];rfl
  ·obtain rfl:j=k:=by omega
   rw [show j+1-1-j=0 by omega]
   have hE:∀ (m:Nat) (q' tl':List Rat),q'.length=m->∀ x,(uZ t m q' tl').getD (m+x) 0=tl'.getD x 0:=by
    intro m
    induction m with
    | zero=>intro q' tl' h x;obtain rfl:q'=[]:=m8 h;rw [fw];rfl
    | succ m ih =>
     intro q' tl' h x
     rw [uZ,show m+1+x=m+(x+1) by omega,ih _ _ (by rw [qY];omega)];rfl
   have:=hE j (jE t q) (q.getD j 0 :: tl) hs 0
   rw [mf] at this
   rw [this];rfl
theorem ahP {p:List Rat} {j:Nat} (h:j<p.length) (t:Rat):(nq p t).getD j 0=fE (1-t) t (p.length-1-j) (fun i=>p.getD (j+i) 0):=apn t _ p [] rfl j h
theorem ahZ {p:List Rat} {j:Nat} (h:j<p.length) (t:Rat):(qx p t).getD j 0=fE (1-t) t j (fun i=>p.getD i 0):=aj7 t j p h
def eQ (p:List Rat) (a b:Rat):List Rat:=if a=1 then qx (nq p.reverse 0) ((1-b-0)/(1-0)) else qx (nq p a) ((b-a)/(1-a))
theorem afJ:∀ (n:Nat) (f:Nat->Rat),fE 1 0 n f=f 0
 | 0,f=>rfl
 | n+1,f=>by rw [fE,afJ n];grind
theorem aHf (p:List Rat):nq p 0=p:=by
 refine aj8 (aan p 0) fun j hj=>?_
 rw [aan] at hj
 rw [ahP hj,show (1:Rat)-0=1 from by grind,afJ];rfl
theorem arj (p:List Rat) (a b:Rat):xb p a b=eQ p a b:=by
 unfold xb eQ
 by_cases ha:a=1
 ·subst ha
  rw [if_neg cG,if_pos rfl,aHf]
  have e0:(1-b-0)/(1-0)=1-b:=by rw [show (1:Rat)-0=1 by grind,show (1:Rat)-b-0=1-b by grind,jo,Rat.inv_eq_of_mul_eq_one (show (1:Rat)*1=1 by grind),rj]
  rw [e0]
  have hr:p.reverse.length=p.length:=List.length_reverse
  by_cases hb:b=0
  ·subst hb
   rw [if_neg cG]
   refine aj8 (by rw [zI]) fun j hj=>?_
   rw [ahZ hj,show (1:Rat)-(1-0)=0 by grind,show (1:Rat)-0=1 by grind,agb]
  ·rw [if_pos hb]
   refine aj8 (by rw [aan,zI,zI,hr]) fun j hj=>?_
   rw [aan,zI] at hj
   rw [ahP (by rw [zI];exact hj),zI,ahZ (by rw [hr];exact hj)]
   have e1:fE (1-1/b) (1/b) (p.length-1-j) (fun i=>(qx p b).getD (j+i) 0)=fE (1-1/b) (1/b) (p.length-1-j) (fun k=>fE (1-b) b k (fun i=>fE (1-b) b j (fun x=>p.getD (i+x) 0))):=by
    refine oD _ _ _ _ _ fun i hi=>?_
    rw [ahZ ae]
    have az9:∀ (i j:Nat) (f:Nat->Rat),fE (1-b) b (j+i) f=fE (1-b) b i (fun y=>fE (1-b) b j (fun x=>f (y+x))):=by
     intro i
     induction i with
     | zero=>intro j f;show fE (1-b) b j f=fE (1-b) b j (fun x=>f (0+x));simp only [fw]
     | succ i ih =>
      intro j f
      rw [show j+(i+1)=(j+i)+1 by omega,fE,ih j,fE]
      refine oD _ _ _ _ _ fun y hy=>?_
      have:=xj (1-b) b (1-b) b j (fun x=>f (y+x)) (fun x=>f (y+x+1))
      rw [this]
      congr 3
      funext x;congr 1;omega
    exact az9 i j _
   have hi:=anP _ hb
   rw [e1,alr,show (1-1/b)+(1/b)*(1-b)=0 by rw [jo];grind,show 1/b*b=1 by rw [jo];grind,agb,akj]
   rw [show (1:Rat)-(1-b)=b by grind]
   refine oD _ _ _ _ _ fun i hi=>?_
   rw [aos p ae]
   congr 1;omega
 ·rw [if_pos cG,if_neg ha]
theorem aAa (p:List Rat) (a b:Rat):(xb p a b).length=p.length:=by
 unfold xb
 split
 ·rw [zI,aan]
 ·split
  ·rw [aan,zI]
  ·simp
def iy (a b:Rat):Rat:=if b<a then b else a
def ib (a b:Rat):Rat:=if a<b then b else a
def lJ (s:Rat × Rat) (t:Rat × Rat):Rat × Rat:=(iy s.1 t.1,ib s.2 t.2)
def nL (p:List Rat):Nat->Rat × Rat
 | 0=>(0,0)
 | k+1=>lJ (if k=0 then(p.getD k 0,p.getD k 0) else nL p k) (p.getD k 0,p.getD k 0)
def eF (p:List Rat):Rat × Rat:=nL p p.length
theorem ayf (a:Rat):iy a a=a:=by unfold iy;split<;>rfl
theorem aou (a:Rat):ib a a=a:=by unfold ib;split<;>rfl
theorem aJa (a b:Rat):iy a b<=a/\iy a b<=b/\(iy a b=a\/iy a b=b):=by unfold iy;split<;>grind
theorem aEL (a b:Rat):a<=ib a b/\b<=ib a b/\(ib a b=a\/ib a b=b):=by unfold ib;split<;>grind
theorem aeg (p:List Rat):∀ k,(∀ i,i<k->(nL p k).1<=p.getD i 0/\p.getD i 0<=(nL p k).2)/\(0<k->(∃ i,i<k/\(nL p k).1=p.getD i 0)/\∃ i,i<k/\(nL p k).2=p.getD i 0)
 | 0=>⟨fun i h=>by omega,fun h=>by omega⟩
 | k+1=>by
  obtain⟨h1,h2⟩:=aeg p k
  rw [nL]
  by_cases hk:k=0
  ·subst hk
   rw [if_pos rfl]
   simp only [lJ,ayf,aou]
   refine⟨fun i hi=>?_,fun _=>⟨⟨0,ae,rfl⟩,⟨0,ae,rfl⟩⟩⟩
   obtain rfl:i=0:=by omega
   exact⟨gg,gg⟩
  ·rw [if_neg hk]
   obtain⟨⟨i,hi,ei⟩,⟨j,hj,ej⟩⟩:=h2 ae
   have a:=aJa (nL p k).1 (p.getD k 0)
   have b:=aEL (nL p k).2 (p.getD k 0)
   simp only [lJ]
   refine⟨fun x hx=>?_,fun _=>⟨?_,?_⟩⟩
   ·by_cases ue:x=k
    ·subst ue;exact⟨a.2.1,b.2.1⟩
    ·have:=h1 x ae
     exact⟨fe a.1 this.1,fe this.2 b.1⟩
   ·rcases a.2.2 with e | e
    ·exact⟨i,ae,by rw [e,ei]⟩
    ·exact⟨k,ae,e⟩
   ·rcases b.2.2 with e | e
    ·exact⟨j,ae,by rw [e,ej]⟩
    ·exact⟨k,ae,e⟩
theorem ajv {p:List Rat} {R:Nat} (hR:1<=R) (h:∀ k,rl (p.getD k 0)<=R):∀ k,rl (nL p k).1<=R/\rl (nL p k).2<=R
 | 0=>⟨hR,hR⟩
 | k+1=>by
  obtain⟨⟨i,_,ei⟩,⟨j,_,ej⟩⟩:=(aeg p (k+1)).2 ae
  rw [ei,ej]
  exact⟨h i,h j⟩
theorem alp {p:List Rat} {R:Nat} (hR:1<=R) (h:∀ x∈p,rl x<=R) (k:Nat):rl (p.getD k 0)<=R:=iG hR h k
theorem ae2 {a b:Rat}:gj a b<=0↔a<=b:=by
 unfold gj;split
 ·rename_i h;exact⟨fun _=>gR h,fun _=>by decide⟩
 ·split
  ·rename_i h;exact⟨fun e=>absurd e ak,fun e=>absurd h (arN.2 e)⟩
  ·rename_i h;exact⟨fun _=>arN.1 h,fun _=>by decide⟩
def il (s:Rat × Rat) (x:Rat):Bool:=decide (s.1<=x) && decide (x<=s.2)
theorem aqf {s:Rat × Rat} {x:Rat} (h:decide (gj s.1 x<=0)=true):decide (gj x s.2<=0)=il s x:=by
 unfold il
 rw [decide_eq_true (ae2.1 (of_decide_eq_true h)),Bool.true_and,decide_eq_decide,ae2]
theorem axl {s:Rat × Rat} {x:Rat} (h:decide (gj s.1 x<=0)=false):false=il s x:=by
 unfold il
 rw [decide_eq_false (fun e=>of_decide_eq_false h (ae2.2 e)),Bool.false_and]
def ji (n:Int):Int:=1+(n.tdiv 17) % 12
def nU (n:Int):Rat:=((n % (ji n+1):Int):Rat)/((ji n:Int):Rat)
theorem aii (n:Int):1<=ji n/\ji n<=12:=by
 unfold ji
 have h1:=aag (n.tdiv 17) (show (12:Int)≠0 by decide)
 have h2:=zS (n.tdiv 17) (show (0:Int)<12 by decide)
 omega
theorem ayb {a b:Int} (ha:0<=a) (hb:0<b):(0:Rat)<=(a:Rat)/(b:Rat):=by
 rw [jo]
 exact ix (zK.2 ha) (gR (aio.2 (vw.2 hb)))
theorem aBZ {a b c:Int} (hc:0<c) (h:a+b=c):(a:Rat)/(c:Rat)+(b:Rat)/(c:Rat)=1:=by
 have h1:(c:Rat)≠0:=fun e=>by have:=awI.1 e;omega
 rw [jo,jo,<-Rat.add_mul,<-abj,h,anP _ h1]
theorem aCH {m M a b x y:Rat} (ha:0<=a) (hb:0<=b) (cL:a+b=1) (hx:m<=x/\x<=M) (hy:m<=y/\y<=M):m<=a*x+b*y/\a*x+b*y<=M:=by
 have h1:=ix ha (show 0<=x-m by grind)
 have h2:=ix hb (show 0<=y-m by grind)
 have h3:=ix ha (show 0<=M-x by grind)
 have h4:=ix hb (show 0<=M-y by grind)
 have e1:b=1-a:=by grind
 subst e1
 constructor<;>grind
def inR (m M:Rat) (l:List Rat):Prop:=∀ i,i<l.length->m<=l.getD i 0/\l.getD i 0<=M
theorem azl {t m M:Rat} (h0:0<=t) (h1:t<=1) {p:List Rat} (h:inR m M p):inR m M (jE t p):=fun i hi=>by
 rw [qY] at hi
 rw [ac0 t p i ae]
 exact aCH cG h0 cG (h i ae) (h (i+1) ae)
theorem aEN {m M x:Rat} {l:List Rat} (hx:m<=x/\x<=M) (h:inR m M l):inR m M (x :: l)
 | 0,_=>hx
 | i+1,hi=>h i (by simpa using hi)
theorem auu {t m M:Rat} (h0:0<=t) (h1:t<=1):∀ (k:Nat) (p:List Rat),p.length=k->inR m M p->inR m M (vF t k p)
 | 0,_,_,_=>fun i hi=>by simp [vF] at hi
 | k+1,p,hp,h=>aEN (h 0 ae) (auu h0 h1 k (jE t p) (by rw [qY];omega) (azl h0 h1 h))
theorem ajQ (p:List Rat):inR (eF p).1 (eF p).2 p:=fun i hi=>(aeg p p.length).1 i hi
theorem aIS {p:List Rat} {x:Rat} (h:(eF p).1<=x/\x<=(eF p).2):il (eF p) x=true:=by
 unfold il;rw [decide_eq_true h.1,decide_eq_true h.2];rfl
theorem aE7 (n:Int):0<=nU n/\nU n<=1:=by
 have hd:=aii n
 have h1:=aag n (show ji n+1≠0 by omega)
 have h2:=zS n (show (0:Int)<ji n+1 by omega)
 have h3:=ayb (a:=n % (ji n+1)) (b:=ji n) h1 ae
 have h4:=ayb (a:=ji n-n % (ji n+1)) (b:=ji n) ae ae
 have h5:=aBZ (a:=n % (ji n+1)) (b:=ji n-n % (ji n+1)) (c:=ji n) ae ae
 unfold nU
 exact⟨h3,by grind⟩
theorem anA (n:Int):rl (nU n)<=1:=by
 have hd:=aii n
 have h1:=aag n (show ji n+1≠0 by omega)
 have h2:=zS n (show (0:Int)<ji n+1 by omega)
 exact afu ae ae
theorem aqJ {p:List Rat} {t:Rat} (h0:0<=t) (h1:t<=1) (h:0<p.length):il (eF p) (aG p t)=true :=
 aIS (auu h0 h1 _ p rfl (ajQ p) _ (by rw [alF];omega))
theorem ai7 {p:List Rat} {R:Nat} (hR:1<=R) (h:∀ x∈p,rl x<=R):rl (eF p).1<=R/\rl (eF p).2<=R:=ajv hR (alp hR h) p.length
open H0 in
theorem ab2 (a b:Rat) (h:rl a+rl b<=549755813888):ax al 90 [ah a,ah b] (aH (iy a b,ib a b)):=by
 refine aS Tryz.func90 ?_
 refine bn ?_
 refine a8 7 an ?_
 refine aP ?_
 refine cp au (aja _ _ ae) ?_
 refine aP ?_
 refine cp au (ah6 _ _ ae) ?_
 refine ba ?_
 exact tO
namespace awH
theorem aM {p q:Prop} (k:q) (e:p=q:=by simp only [e1,e2,e3,e4,p1,p2,p3,q1,q2,q3,l1,t0,t1,r1,r2,r3,r4,Nat.zero_add,Nat.reduceMul,Nat.reduceAdd,b1,b2,b3,b4,b5,b6,i1,i2,i3,i4,i5,i6,Nat.reduceBEq,ayf,aou];exact rfl):p:=e.mpr k
end awH
open awH in
theorem sT (a:Rat) (h:rl a+rl a<=549755813888):ax al 181 [ah a] (aH (a,a)):=by
 refine aS Tryz.func181 ?_
 refine bI ?_
 refine cp au (ab2 _ _ ae) ?_
 refine aA ?_
 exact tO
open H0 in
theorem vU (s t:Rat × Rat) (h1:rl s.1+rl t.1<=549755813888) (h2:rl s.2+rl t.2<=549755813888):ax al 182 [aH s,aH t] (aH (lJ s t)):=by
 refine aS Tryz.func182 ?_
 refine bn ?_
 refine a8 11 an ?_
 refine aA ?_
 refine cp au (aja _ _ ae) ?_
 refine aA ?_
 refine cp au (ah6 _ _ ae) ?_
 refine ba ?_
 exact tO
namespace aqa
theorem aM {p q:Prop} (k:q) (e:p=q:=by simp only [e1,e2,e3,e4,p1,p2,p3,q1,q2,q3,l1,t0,t1,r1,r2,r3,r4,Nat.zero_add,Nat.reduceMul,Nat.reduceAdd,b1,b2,b3,b4,b5,b6,i1,i2,i3,i4,i5,i6,Nat.reduceBEq,cN,y7,aV ar,cY,et,LV.kill,b7];exact rfl):p:=e.mpr k
end aqa
open aqa in
theorem aic (p:List Rat) (hl:p.length<=1048576) (nM:∀ x∈p,rl x<=137438953472):ax al 184 [.list 3 (p.map ah)] (aH (eF p)):=by
 refine aS Tryz.func184 ?_
 have y7:True:=trivial
 refine o4 ?_
 refine dU (fun(k:Nat) L=>((((((St.mk L.slot (hp [(2,⟨6,[aH (0,0)],true⟩),(3,⟨6,[aH (nL p k)],true⟩)])).put (some 2) (.aB 2 6 0 0)).put (some 3) (.aB 3 6 0 0)).put (some 6) (.list 3 (p.map ah))).put (some 7) (ai p.length)).put (some 8) (ai k))) (fun k=>k<=p.length) (fun k=>p.length-k) 0 (b8 _) ?_
 rintro k L1 hk
 refine aD ?_
 refine aF rfl ?_ ?_<;>intro wi h9
 ·have mJ:k<p.length:=by omega
  have eW:=alp (R:=137438953472) ak nM
  have py:=eW k
  have hr3:=ajv ak eW k
  have hr4:rl ((p.getD k 0,p.getD k 0):Rat × Rat).1<=137438953472:=py
  have hr5:rl ((p.getD k 0,p.getD k 0):Rat × Rat).2<=137438953472:=py
  have y7:nL p (k+1)=lJ (if k=0 then(p.getD k 0,p.getD k 0) else nL p k) (p.getD k 0,p.getD k 0):=rfl
  refine aaA ?_
  refine aF rfl ?_ ?_<;>intro rA lW
  ·have kZ:k=0:=by omega
   rw [if_pos kZ] at y7
   refine aP ?_
   refine cp aQ (sT _ ae) ?_
   refine aL ?_
   refine a8 4 an ?_
   refine aP ?_
   refine cp aQ (sT _ ae) ?_
   refine cp au (vU _ _ ae ae) ?_
   refine aA ?_
   refine cy (az.kill _ 5) ?_
   refine aA ?_
   exact iD (k+1) ae
  ·have kZ:¬ k=0:=by omega
   rw [if_neg kZ] at y7
   refine aP ?_
   refine a8 4 an ?_
   refine aP ?_
   refine cp aQ (sT _ ae) ?_
   refine cp au (vU _ _ ae ae) ?_
   refine aA ?_
   refine cy (az.kill _ 5) ?_
   refine aA ?_
   exact iD (k+1) ae
 ·obtain rfl:k=p.length:=by omega
  refine bF ?_
  exact tO
open H0 in
theorem aqU (s:Rat × Rat) (x:Rat) (h1:rl s.1+rl x<=34359738368) (h2:rl x+rl s.2<=34359738368):ax al 17 [aH s,ah x] (bL (il s x)):=by
 refine aS Tryz.func17 ?_
 refine bF ?_
 refine cp au (aem _ _ ae) ?_
 refine aP ?_
 refine dg 10 rfl ?_ ?_<;>intro nE qN
 ·refine aL ?_
  refine cp au (aem _ _ ae) ?_
  refine aD ?_
  rw [<-aqf nE]
  exact dW
 ·refine bI ?_
  rw [<-axl nE]
  exact dW
open H0 in
theorem ays (n:Int) (hn:-9223372036854775808<=n/\n<=9223372036854775807):ax al 61 [iL n] (ah (nU n)):=by
 have hd:=aii n
 have hq:(n.tdiv 17).natAbs=n.natAbs/17:=Int.natAbs_tdiv _ _
 have hpd:ji n=1+(n.tdiv 17) % 12:=rfl
 have h1:=aag n (show ji n+1≠0 by omega)
 have h2:=zS n (show (0:Int)<ji n+1 by omega)
 refine aS Tryz.func61 ?_
 refine bn ?_
 refine ao rfl (.bin rfl rfl (aDZ (a:=n) (b:=17) ak ae ae)) ?_
 refine cp au (abM (n.tdiv 17) 12 ak ak) ?_
 refine ao rfl z8 ?_
 refine aY ?_
 refine ao rfl (.bin rfl rfl (sf (a:=ji n) ae ae)) ?_
 refine cp au (abM n (ji n+1) ae ae) ?_
 refine av ?_
 refine cp au (acw (n % (ji n+1)) (ji n) ae ae ae ae ae) ?_
 refine aA ?_
 exact gr
def sC (p q:V3):V3:=⟨p.x+q.x,p.y+q.y,p.z+q.z⟩
def gi (p q:V3):V3:=⟨p.x-q.x,p.y-q.y,p.z-q.z⟩
def jY (r:Rat) (p:V3):V3:=⟨r*p.x,r*p.y,r*p.z⟩
def cJ (p q:V3):Rat:=0+p.x*q.x+p.y*q.y+p.z*q.z
def cB (R:Nat) (p:V3):Prop:=rl p.x<=R/\rl p.y<=R/\rl p.z<=R
theorem cB.le {R S:Nat} {p:V3} (h:cB R p) (hRS:R<=S):cB S p:=⟨a9 h.1 hRS,a9 h.2.1 hRS,a9 h.2.2 hRS⟩
theorem acF {R S:Nat} {p q:V3} (hp:cB R p) (hq:cB S q):rl (cJ p q)<=3*(R+S)+4:=by
 obtain⟨a1,a2,a3⟩:=hp
 obtain⟨b1,b2,b3⟩:=hq
 have h1:=cX p.x q.x
 have h2:=cX p.y q.y
 have h3:=cX p.z q.z
 have h4:=kC 0 (p.x*q.x)
 have h5:=kC (0+p.x*q.x) (p.y*q.y)
 have h6:=kC (0+p.x*q.x+p.y*q.y) (p.z*q.z)
 have h0:rl 0=1:=rfl
 unfold cJ
 omega
def wz (a b p:V3):Rat :=
 if cJ (gi p a) (gi b a)<=0 then cJ (gi p a) (gi p a)
 else if cJ (gi b a) (gi b a)<=cJ (gi p a) (gi b a) then cJ (gi p b) (gi p b)
 else cJ (gi p (sC a (jY (cJ (gi p a) (gi b a)/cJ (gi b a) (gi b a)) (gi b a)))) (gi p (sC a (jY (cJ (gi p a) (gi b a)/cJ (gi b a) (gi b a)) (gi b a))))
def rC (R:Nat) (q:aK):Prop:=cB R q.p/\rl q.w<=R/\0<q.w
theorem eN (q:V3) (b:Nat):(a6 q).kill b=a6 q:=LV.lV b _ (bo.pure q)
theorem fb (q:aK) (b:Nat):(aW q).kill b=aW q:=LV.lV b _ (bH.pure q)
namespace ary
theorem aM {p q:Prop} (k:q) (e:p=q:=by simp only [e1,e2,e3,e4,p1,p2,p3,q1,q2,q3,l1,t0,t1,r1,r2,r3,r4,Nat.zero_add,Nat.reduceMul,Nat.reduceAdd,b1,b2,b3,b4,b5,b6,i1,i2,i3,i4,i5,i6,Nat.reduceBEq,adg];exact rfl):p:=e.mpr k
end ary
open ary in
theorem asz (f:Nat) (g:Rat->Rat->Rat) (p q:V3) (h1:ax al f [ah p.x,ah q.x] (ah (g p.x q.x))) (h2:ax al f [ah p.y,ah q.y] (ah (g p.y q.y))) (h3:ax al f [ah p.z,ah q.z] (ah (g p.z q.z))):ax al 193 [a6 p,a6 q,.dk f []] (a6 ⟨g p.x q.x,g p.y q.y,g p.z q.z⟩):=by
 refine aS Tryz.func193 (ht:=(fun r=>LV.df r _ (bo.pure _))) ?_
 refine o4 ?_
 refine bN ?_
 refine aD ?_
 refine cr (b:=_) rfl ak ?_
 refine bI ?_
 refine a8 10 an ?_
 refine bn ?_
 refine nY [] rfl rfl (.dk (f:=f) (cap:=[]) (args:=[ah p.x,ah q.x]) rfl (.cons fF (.cons fF .nil)) ⟨rfl,fun _ h=>by cases h⟩ h1.1 ak (fun _ h=>by cases h)) (h1.2 _) ?_
 refine bI ?_
 refine bN ?_
 refine aD ?_
 refine cr (b:=_) rfl ak ?_
 refine bI ?_
 refine a8 10 an ?_
 refine bn ?_
 refine nY [] rfl rfl (.dk (f:=f) (cap:=[]) (args:=[ah p.y,ah q.y]) rfl (.cons fF (.cons fF .nil)) ⟨rfl,fun _ h=>by cases h⟩ h2.1 ak (fun _ h=>by cases h)) (h2.2 _) ?_
 refine bI ?_
 refine bN ?_
 refine aD ?_
 refine cr (b:=_) rfl ak ?_
 refine bI ?_
 refine a8 10 an ?_
 refine bn ?_
 refine nY [] rfl rfl (.dk (f:=f) (cap:=[]) (args:=[ah p.z,ah q.z]) rfl (.cons fF (.cons fF .nil)) ⟨rfl,fun _ h=>by cases h⟩ h3.1 ak (fun _ h=>by cases h)) (h3.2 _) ?_
 refine bI ?_
 refine bN ?_
 refine aD ?_
 refine fi (b:=_) rfl ak ?_
 refine bF ?_
 exact tj
open H0 in
theorem aG4 (p q:V3) (R:Nat) (hR:R<=100000000000) (hp:cB R p) (hq:cB R q):ax al 255 [a6 p,a6 q] (a6 (sC p q)):=by
 obtain⟨a1,a2,a3⟩:=hp
 obtain⟨b1,b2,b3⟩:=hq
 refine aS Tryz.func255 (ht:=(fun r=>LV.df r _ (bo.pure _))) ?_
 refine bD ?_
 refine cp gV (asz 95 (·+·) p q (jz _ _ ae) (jz _ _ ae) (jz _ _ ae)) ?_
 refine aA ?_
 exact tj
open H0 in
theorem aeA (r:Rat) (p:V3) (R:Nat) (hR:R<=100000000000) (hr:rl r<=R) (hp:cB R p):ax al 106 [ah r,a6 p] (a6 (jY r p)):=by
 obtain⟨a1,a2,a3⟩:=hp
 refine aS Tryz.func106 (ht:=(fun r=>LV.df r _ (bo.pure _))) ?_
 refine dH ?_
 refine cp gV (asz 191 (·*·) ⟨r,r,r⟩ p (iz r p.x ae) (iz r p.y ae) (iz r p.z ae)) ?_
 refine aA ?_
 exact tj
open H0 in
theorem aeZ (p q:V3) (R:Nat) (hR:R<=1000000000) (hp:cB R p) (hq:cB R q):ax al 254 [a6 p,a6 q] (ah (cJ p q)):=by
 obtain⟨a1,a2,a3⟩:=hp
 obtain⟨b1,b2,b3⟩:=hq
 have m1:=cX p.x q.x
 have m2:=cX p.y q.y
 have m3:=cX p.z q.z
 have s1:=kC 0 (p.x*q.x)
 have s2:=kC (0+p.x*q.x) (p.y*q.y)
 have hz0:rl 0=1:=rfl
 refine aS Tryz.func254 ?_
 refine o4 ?_
 refine bN ?_
 refine aD ?_
 refine cr (b:=_) rfl ak ?_
 refine bI ?_
 refine a8 9 an ?_
 refine aY ?_
 refine cp au (iz p.x q.x ae) ?_
 refine cp au (jz 0 (p.x*q.x) ae) ?_
 refine bE ?_
 refine bN ?_
 refine aD ?_
 refine cr (b:=_) rfl ak ?_
 refine bI ?_
 refine a8 9 an ?_
 refine aY ?_
 refine cp au (iz p.y q.y ae) ?_
 refine cp au (jz (0+p.x*q.x) (p.y*q.y) ae) ?_
 refine bE ?_
 refine bN ?_
 refine aD ?_
 refine cr (b:=_) rfl ak ?_
 refine bI ?_
 refine a8 9 an ?_
 refine aY ?_
 refine cp au (iz p.z q.z ae) ?_
 refine cp au (jz (0+p.x*q.x+p.y*q.y) (p.z*q.z) ae) ?_
 refine bE ?_
 refine bN ?_
 refine aD ?_
 refine fi (b:=_) rfl ak ?_
 refine bF ?_
 exact gr
open H0 in
theorem alv (p q:V3) (R:Nat) (hR:R<=1000000000) (hp:cB R p) (hq:cB R q):ax al 267 [a6 p,a6 q] (ah (cJ p q)):=by
 obtain⟨a1,a2,a3⟩:=hp
 obtain⟨b1,b2,b3⟩:=hq
 have m1:=cX p.x q.x
 have m2:=cX p.y q.y
 have m3:=cX p.z q.z
 have s1:=kC 0 (p.x*q.x)
 have s2:=kC (0+p.x*q.x) (p.y*q.y)
 have hz0:rl 0=1:=rfl
 refine aS Tryz.func267 ?_
 refine o4 ?_
 refine bN ?_
 refine aY ?_
 refine cr (b:=_) rfl ak ?_
 refine aA ?_
 refine a8 9 an ?_
 refine aY ?_
 refine cp au (uD p.x q.x ae) ?_
 refine cp au (pT 0 (p.x*q.x) ae) ?_
 refine bI ?_
 refine bN ?_
 refine aY ?_
 refine cr (b:=_) rfl ak ?_
 refine aA ?_
 refine a8 9 an ?_
 refine aY ?_
 refine cp au (uD p.y q.y ae) ?_
 refine cp au (pT (0+p.x*q.x) (p.y*q.y) ae) ?_
 refine bI ?_
 refine bN ?_
 refine aY ?_
 refine cr (b:=_) rfl ak ?_
 refine aA ?_
 refine a8 9 an ?_
 refine aY ?_
 refine cp au (uD p.z q.z ae) ?_
 refine cp au (pT (0+p.x*q.x+p.y*q.y) (p.z*q.z) ae) ?_
 refine bI ?_
 refine bN ?_
 refine aY ?_
 refine fi (b:=_) rfl ak ?_
 refine bF ?_
 exact gr
open H0 in
theorem aAV (p q:V3) (R:Nat) (hR:R<=1000000000) (hp:cB R p) (hq:cB R q):ax al 72 [a6 p,a6 q] (a6 (gi p q)):=by
 obtain⟨a1,a2,a3⟩:=hp
 obtain⟨b1,b2,b3⟩:=hq
 refine aS Tryz.func72 (ht:=(fun r=>LV.df r _ (bo.pure _))) ?_
 refine dH ?_
 refine bN ?_
 refine aY ?_
 refine cr (b:=_) rfl ak ?_
 refine aA ?_
 refine a8 9 an ?_
 refine aY ?_
 refine cp au (aaU p.x q.x ae) ?_
 refine bD ?_
 refine bN ?_
 refine aY ?_
 refine cr (b:=_) rfl ak ?_
 refine aA ?_
 refine a8 9 an ?_
 refine aY ?_
 refine cp au (aaU p.y q.y ae) ?_
 refine bD ?_
 refine bN ?_
 refine aY ?_
 refine cr (b:=_) rfl ak ?_
 refine aA ?_
 refine a8 9 an ?_
 refine aY ?_
 refine cp au (aaU p.z q.z ae) ?_
 refine bD ?_
 refine bN ?_
 refine aY ?_
 refine fi (b:=_) rfl ak ?_
 refine bF ?_
 exact tj
open H0 in
theorem aGe (p q:V3) (R:Nat) (hR:R<=1000000000) (hp:cB R p) (hq:cB R q):ax al 233 [a6 p,a6 q] (a6 (sC p q)):=by
 obtain⟨a1,a2,a3⟩:=hp
 obtain⟨b1,b2,b3⟩:=hq
 refine aS Tryz.func233 (ht:=(fun r=>LV.df r _ (bo.pure _))) ?_
 refine dH ?_
 refine bN ?_
 refine aY ?_
 refine cr (b:=_) rfl ak ?_
 refine aA ?_
 refine a8 9 an ?_
 refine aY ?_
 refine cp au (pT p.x q.x ae) ?_
 refine bD ?_
 refine bN ?_
 refine aY ?_
 refine cr (b:=_) rfl ak ?_
 refine aA ?_
 refine a8 9 an ?_
 refine aY ?_
 refine cp au (pT p.y q.y ae) ?_
 refine bD ?_
 refine bN ?_
 refine aY ?_
 refine cr (b:=_) rfl ak ?_
 refine aA ?_
 refine a8 9 an ?_
 refine aY ?_
 refine cp au (pT p.z q.z ae) ?_
 refine bD ?_
 refine bN ?_
 refine aY ?_
 refine fi (b:=_) rfl ak ?_
 refine bF ?_
 exact tj
open H0 in
theorem aq1 (r:Rat) (p:V3) (R:Nat) (hR:R<=1000000000) (hr:rl r<=R) (hp:cB R p):ax al 141 [ah r,a6 p] (a6 (jY r p)):=by
 obtain⟨a1,a2,a3⟩:=hp
 refine aS Tryz.func141 (ht:=(fun r=>LV.df r _ (bo.pure _))) ?_
 refine dH ?_
 refine bN ?_
 refine aY ?_
 refine cr (b:=_) rfl ak ?_
 refine aA ?_
 refine a8 7 an ?_
 refine ba ?_
 refine cp au (uD r p.x ae) ?_
 refine bD ?_
 refine bN ?_
 refine aY ?_
 refine cr (b:=_) rfl ak ?_
 refine aA ?_
 refine a8 7 an ?_
 refine ba ?_
 refine cp au (uD r p.y ae) ?_
 refine bD ?_
 refine bN ?_
 refine aY ?_
 refine cr (b:=_) rfl ak ?_
 refine aA ?_
 refine a8 7 an ?_
 refine ba ?_
 refine cp au (uD r p.z ae) ?_
 refine bD ?_
 refine bN ?_
 refine aY ?_
 refine fi (b:=_) rfl ak ?_
 refine bF ?_
 exact tj
end Go.Proofs.YtckppbhafancnaaGreat
namespace Go.Lg
theorem amu {P:Program} {f:FuncId} {args:List LV} {sz n:Nat} {vals:List LV} {mt:Bool} (h:o6 P f args (.ref 1 sz 0 n) [⟨sz,vals,mt⟩]) (hp:aN vals=true) (hn:vals.length=n):ax P f args (.list sz vals):=by
 refine⟨⟨h.1,fun W Z0 vs hz hr=>Calls.mono (h.2 W Z0 vs hz hr) (fun e w'=>?_)⟩,fun g=>LV.df g _ (by simp [LV.pure,hp])⟩
 rintro⟨v,μ,Z,he,hc,hv⟩
 have hle:bW.le (pg [⟨sz,vals,mt⟩]) (pg [⟨sz,vals,false⟩]):=fun b blk hb=>by
  unfold pg at hb ⊢
  by_cases h0:b=0
  ·rw [if_pos h0] at hb;cases hb
  ·rw [if_neg h0] at hb
   rcases gM (b-1) 1 with h1 | h1
   ·have e:b-1=0:=by omega
    rw [e] at hb
    simp only [List.getElem?_cons_zero,fp] at hb
    subst hb
    exact⟨false,by rw [if_neg h0,e];rfl,fun _=>rfl,fun _ _=>h0⟩
   ·rw [xL (by simpa using h1)] at hb;cases hb
 obtain⟨Z1,k1,k2⟩:=hc.xl hle
 have dO:Frame Z μ w' w':=⟨fun _ _=>rfl,fun _ id _ c _ _ hh=>⟨c,hh,rfl⟩⟩
 have hv1:=hv.mono k2 (fun _ _ h=>h) dO
 have hi:cV (pg [⟨sz,vals,false⟩]) (.ref 1 sz 0 n) (.list sz vals):=by
  have:=cV.ref (H:=pg [⟨sz,vals,false⟩]) (b:=1) (off:=0) (len:=n) (blk:=⟨sz,vals,false⟩) rfl rfl hp (by simp [hn]) rfl
  simpa [<-hn] using this
 refine⟨v,ko μ 1,Z1,he,?_,bj.sN (fun l h=>by cases h) (hi.abE k1 hv1)⟩
 have kk:=Core.kill (L:=⟨fun _=>.any,pg [⟨sz,vals,false⟩]⟩) 1 ak k1
 refine kk.ais fun b id hb=>?_
 have hb1:b≠1:=fun e=>by rw [e] at hb;simp [ko] at hb
 have xa:μ b=some id:=by unfold ko at hb;split at hb<;>first | exact hb | cases hb
 obtain⟨blk,g1,_⟩:=k1.heap b id xa
 unfold pg at g1
 split at g1
 ·cases g1
 ·rw [xL bw] at g1;cases g1
end Go.Lg
namespace Go.Proofs.YtckppbhafancnaaGreat
open Go.Lg
theorem ayn (p:List Rat) (hl:p.length<=1048576) (nM:∀ x∈p,rl x<=274877906944):ax al 178 [.list 3 (p.map ah)] (.list 3 (p.map ah)) :=
 amu (aoa p hl nM) (a7 ar _) aT
def aar (p:List Rat) (i:Nat):Rat:=(if 0<i then((i:Int):Rat)/((p.length:Int):Rat)*p.getD (i-1) 0 else 0)+(if i<p.length then(((p.length:Int)-(i:Int):Int):Rat)/((p.length:Int):Rat)*p.getD i 0 else 0)
def ui (p:List Rat):List Rat:=(cW (p.length+1)).map (aar p)
def itL:Nat->List Rat->List Rat
 | 0,p=>p
 | k+1,p=>itL k (ui p)
def kz (p:List Rat) (n:Nat):List Rat:=itL (n+1-p.length) p
theorem qn (p:List Rat):(ui p).length=p.length+1:=by simp [ui]
theorem amF {p:List Rat} {i:Nat} (h:i<p.length+1):(ui p).getD i 0=aar p i:=by
 rw [bz,cq (by rw [qn];exact h)];simp [ui]
theorem avE:∀ (k:Nat) (p:List Rat),(itL k p).length=p.length+k
 | 0,p=>rfl
 | k+1,p=>by rw [itL,avE k,qn];omega
theorem aqg {p:List Rat} {n:Nat} (h:p.length<=n+1):(kz p n).length=n+1:=by rw [kz,avE];omega
theorem aIy {p:List Rat} {i:Nat} (h0:0<i) (h1:i<p.length):aar p i=((i:Int):Rat)/((p.length:Int):Rat)*p.getD (i-1) 0+(((p.length:Int)-(i:Int):Int):Rat)/((p.length:Int):Rat)*p.getD i 0:=by
 rw [aar,if_pos h0,if_pos h1]
theorem aJr {p:List Rat} {i:Nat} (h0:0<i) (h1:¬ i<p.length):aar p i=((i:Int):Rat)/((p.length:Int):Rat)*p.getD (i-1) 0:=by
 rw [aar,if_pos h0,if_neg h1,ks]
theorem aDC {p:List Rat} {i:Nat} (h0:¬ 0<i) (h1:i<p.length):aar p i=(((p.length:Int)-(i:Int):Int):Rat)/((p.length:Int):Rat)*p.getD i 0:=by
 rw [aar,if_neg h0,if_pos h1,Rat.zero_add]
def tP (p:List Rat) (n:Nat):Prop:=(∀ x∈p,rl x<=1073741824)/\∀ k,p.length+k<=n+1->∀ x∈itL k p,rl x<=1073741824
theorem ajp {p:List Rat} {n:Nat} (h:tP p n) (k:Nat):rl (p.getD k 0)<=1073741824:=iG ak h.1 k
theorem awd {p:List Rat} {n:Nat} (hl:p.length<=n) (h:tP p n):tP (ui p) n:=⟨h.2 1 ae,fun k hk=>h.2 (k+1) (by rw [qn] at hk;omega)⟩
theorem aw4 {p:List Rat} {n:Nat} (h:n+1<=p.length):kz p n=p:=by rw [kz,show n+1-p.length=0 by omega];rfl
theorem aG6 {p:List Rat} {n:Nat} (h:p.length<=n):itL (n+1-(ui p).length) (ui p)=itL (n+1-p.length) p:=by
 rw [show n+1-p.length=(n+1-(ui p).length)+1 by rw [qn];omega];rfl
def uO (g:Rat->Rat->Rat) (a b:List Rat):List Rat:=(cW a.length).map fun i=>g (a.getD i 0) (b.getD i 0)
theorem af3 (g:Rat->Rat->Rat) (a b:List Rat):(uO g a b).length=a.length:=by simp [uO]
theorem atA {g:Rat->Rat->Rat} {a b:List Rat} {i:Nat} (h:i<a.length):(uO g a b).getD i 0=g (a.getD i 0) (b.getD i 0):=by
 rw [bz,cq (by rw [af3];exact h)];simp [uO]
namespace asH
theorem aM {p q:Prop} (k:q) (e:p=q:=by simp only [e1,e2,e3,e4,p1,p2,p3,q1,q2,q3,l1,t0,t1,r1,r2,r3,r4,Nat.zero_add,Nat.reduceMul,Nat.reduceAdd,b1,b2,b3,b4,b5,b6,i1,i2,i3,i4,i5,i6,Nat.reduceBEq,cN,List.length_set,List.set_set,egs,egz,eim,Rat.zero_add,aV ar,cY,LV.kill,b7];exact rfl):p:=e.mpr k
end asH
open asH in
theorem apM (p:List Rat) (n:Nat) (oh:0<p.length) (hn:n<=1000) (hl:p.length<=1001) (hs:tP p n):ax al 290 [.list 3 (p.map ah),ai n] (.list 3 ((kz p n).map ah)):=by
 refine aS Tryz.func290 ?_
 have egs:True:=trivial
 have egz:True:=trivial
 have eim:True:=trivial
 refine bn ?_
 refine cp aQ (ayn p ae (fun x hx=>by have:=ajp hs;have h9:=awi hx;obtain⟨k,hk,rfl⟩:=h9;have h8:=this k;rw [bz,cq hk] at h8;exact a9 h8 ak)) ?_
 refine ba ?_
 refine dU (fun(o:List Rat) L=>(((St.mk L.slot (hp [])).put (some 1) (ai n)).put (some 5) (.list 3 (o.map ah)))) (fun o=>0<o.length/\o.length<=1001/\tP o n/\itL (n+1-o.length) o=kz p n) (fun o=>n+1-o.length) p ⟨oh,hl,hs,rfl⟩ ?_
 rintro o L1 ⟨ho0,c9,hos,hit⟩
 refine aY ?_
 refine dg 18 rfl ?_ ?_<;>intro uf ur
 ·refine aY ?_
  refine aF rfl ?_ ?_<;>intro td rD
  ·have hon:o.length<=n:=by omega
   refine dG ?_
   refine ao rfl cM ?_
   refine fG rfl rfl (.mw (n:=(o.length+1)) (m:=(o.length+1)) ml ml om om om) ?_
   refine bF ?_
   refine lG (fun(i:Nat) (w:List Rat) L=>((((((((St.mk L.slot (hp [(28,⟨3,w.map ah,true⟩)])).put (some 1) (ai n)).put (some 5) (.list 3 (o.map ah))).put (some 6) (ai o.length)).put (some 7) (.ref 28 3 0 (o.length+1))).put (some 29) (.ref 28 3 0 (o.length+1))).put (some 30) (ai (o.length+1))).put (some 31) (ai i))) (fun i w=>i<=o.length+1/\w.length=o.length+1/\w.take i=(ui o).take i/\∀ x,i<=x->w.getD x 0=0) (fun i w=>o.length+1-i) 0 (ay (o.length+1) 0) ⟨b8 _,by simp,rfl,fun x _=>by simp [bz,adA];split<;>rfl⟩ ?_
   rintro i w L2 ⟨hi,iZ,kF,hz⟩
   refine aD ?_
   refine aF rfl ?_ ?_<;>intro aep h32
   ·have dR:i<o.length+1:=by omega
    have hf1:=afu (n:=(i:Int)) (d:=(o.length:Int)) ae ae
    have qV:=afu (n:=(o.length:Int)-(i:Int)) (d:=(o.length:Int)) ae ae
    have eW:=ajp hos (i-1)
    have py:=ajp hos i
    have jM:=cX (((i:Int):Rat)/((o.length:Int):Rat)) (o.getD (i-1) 0)
    have eO:=cX ((((o.length:Int)-(i:Int):Int):Rat)/((o.length:Int):Rat)) (o.getD i 0)
    have egs:=fun v=>aHg (o:=w) (i:=i) (v:=v) ae
    have egz:=hz i (bp _)
    have eim:((i:Int)-1).toNat=i-1:=by omega
    have tK:rl 0=1:=rfl
    refine jw ?_
    refine aF rfl ?_ ?_<;>intro zE h35
    ·have pF:0<i:=by omega
     refine aA ?_
     refine cp au (akS (i:Int) (o.length:Int) ae ae ae ae ae) ?_
     refine bn ?_
     refine a8 10 an ?_
     refine bn ?_
     try simp only [t1,cN,eim]
     refine cp au (iz _ _ ae) ?_
     refine bF ?_
     refine aF rfl ?_ ?_<;>intro aAg h55
     ·have s8:i<o.length:=by omega
      refine aA ?_
      refine ao rfl wg ?_
      refine av ?_
      refine cp au (akS ((o.length:Int)-(i:Int)) (o.length:Int) ae ae ae ae ae) ?_
      refine bn ?_
      refine a8 14 an ?_
      refine bD ?_
      try simp only [t1,cN]
      refine cp au (iz _ _ ae) ?_
      try simp only [t1,cN,fw,egs,egz]
      refine cp au (jz _ _ ae) ?_
      refine ba ?_
      refine cy ((az.kill _ 9).trans (az.kill _ 11)) ?_
      refine aA ?_
      exact iW (i+1) (w.set i (((i:Int):Rat)/((o.length:Int):Rat)*o.getD (i-1) 0+(((o.length:Int)-(i:Int):Int):Rat)/((o.length:Int):Rat)*o.getD i 0)) ⟨ae,by simp [iZ],abC (by rw [qn];omega) (by rw [qn];omega) kF (by rw [amF ae,aIy pF s8]),fun x hx=>by rw [aaC _ _ _ _ ae,if_neg ae];exact hz x ae⟩
     ·have s8:¬ i<o.length:=by omega
      refine aL ?_
      refine cy ((az.kill _ 9).trans (az.kill _ 11)) ?_
      refine aA ?_
      exact iW (i+1) (w.set i (((i:Int):Rat)/((o.length:Int):Rat)*o.getD (i-1) 0)) ⟨ae,by simp [iZ],abC (by rw [qn];omega) (by rw [qn];omega) kF (by rw [amF ae,aJr pF s8]),fun x hx=>by rw [aaC _ _ _ _ ae,if_neg ae];exact hz x ae⟩
    ·have pF:¬ 0<i:=by omega
     refine bI ?_
     refine aF rfl ?_ ?_<;>intro aAg h55
     ·have s8:i<o.length:=by omega
      refine aA ?_
      refine ao rfl wg ?_
      refine av ?_
      refine cp au (akS ((o.length:Int)-(i:Int)) (o.length:Int) ae ae ae ae ae) ?_
      refine bn ?_
      refine a8 14 an ?_
      refine bD ?_
      try simp only [t1,cN]
      refine cp au (iz _ _ ae) ?_
      try simp only [t1,cN,fw,egs,egz]
      refine cp au (jz _ _ ae) ?_
      refine ba ?_
      refine cy ((az.kill _ 9).trans (az.kill _ 11)) ?_
      refine aA ?_
      exact iW (i+1) (w.set i ((((o.length:Int)-(i:Int):Int):Rat)/((o.length:Int):Rat)*o.getD i 0)) ⟨ae,by simp [iZ],abC (by rw [qn];omega) (by rw [qn];omega) kF (by rw [amF ae,aDC pF s8]),fun x hx=>by rw [aaC _ _ _ _ ae,if_neg ae];exact hz x ae⟩
     ·have s8:¬ i<o.length:=by omega
      refine aL ?_
      refine cy ((az.kill _ 9).trans (az.kill _ 11)) ?_
      refine aA ?_
      exact iW (i+1) w (False.elim ae)
   ·obtain rfl:i=o.length+1:=by omega
    have hE:w=ui o:=by
     rw [de ae,de (by rw [qn];omega)] at kF
     exact kF
    subst hE
    refine ba ?_
    refine cy ((az.cE (t:=7) [28] rfl rfl (fC ar rfl rfl (by rw [qn]))).trans (az.kill _ 28)) ?_
    refine ba ?_
    exact iD (ui o) ⟨by rw [qn];omega,by rw [qn];omega,awd ae hos,by rw [aG6 ae];exact hit⟩ (hm:=by rw [qn];omega)
  ·refine bF ?_
   have hE:kz p n=o:=by rw [<-hit,show n+1-o.length=0 by omega];rfl
   rw [hE]
   exact dW
 ·refine oz ?_
  have hE:kz p n=o:=by rw [<-hit,show n+1-o.length=0 by omega];rfl
  rw [hE]
  exact dW
theorem apV {n:Nat} (hn:n<=1000):∀ (k:Nat) (p:List Rat),0<p.length->p.length+k<=n+1->tP p n->tP (itL k p) n
 | 0,_,_,_,h=>h
 | k+1,p,h0,hk,h=>apV hn k (ui p) (by rw [qn];omega) (by rw [qn];omega) (awd ae h)
theorem ato {p:List Rat} {n:Nat} (hn:n<=1000) (h0:0<p.length) (hl:p.length<=n+1) (h:tP p n) (k:Nat):rl ((kz p n).getD k 0)<=1073741824 :=
 ajp (apV hn _ p h0 ae h) k
theorem emx {a b n:Nat} (h:0<a) (h1:a<=n+1) (h2:b<=n+1) (h3:a=n+1\/b=n+1):(if ((b:Nat):Int) > ((a:Nat):Int) then((b:Nat):Int) else((a:Nat):Int))-1=(n:Int):=by
 split<;>omega
theorem emn (a:Nat):(if ((a:Nat):Int)<((a:Nat):Int) then((a:Nat):Int) else((a:Nat):Int))=(a:Int):=by split<;>rfl
theorem aEx {a b n:Nat} (h:0<a) (h1:a<=n+1) (h2:b<=n+1) (h3:a=n+1\/b=n+1) (hn:n<=1000):dL .sub .i64 (if ((b:Nat):Int) > ((a:Nat):Int) then((b:Nat):Int) else((a:Nat):Int)) 1=some (.int .i64 ((n:Nat):Int)):=by
 have e:=emx h h1 h2 h3
 rw [aau ae ae,e]
namespace arb
theorem aM {p q:Prop} (k:q) (e:p=q:=by simp only [e1,e2,e3,e4,p1,p2,p3,q1,q2,q3,l1,t0,t1,r1,r2,r3,r4,Nat.zero_add,Nat.reduceMul,Nat.reduceAdd,b1,b2,b3,b4,b5,b6,i1,i2,i3,i4,i5,i6,Nat.reduceBEq,cN,arx,elp,elq,emn,aV ar,cY,et,LV.kill,b7];exact rfl):p:=e.mpr k
end arb
open arb in
theorem ayS (p q:List Rat) (f:Nat) (g:Rat->Rat->Rat) (n:Nat) (oh:0<p.length) (oI:0<q.length) (hn:n<=1000) (hpn:p.length<=n+1) (hqn:q.length<=n+1) (hpq:p.length=n+1\/q.length=n+1) (hps:tP p n) (zT:tP q n) (hf:∀ i,ax al f [ah ((kz p n).getD i 0),ah ((kz q n).getD i 0)] (ah (g ((kz p n).getD i 0) ((kz q n).getD i 0)))):ax al 283 [.list 3 (p.map ah),.list 3 (q.map ah),.dk f []] (.list 3 ((uO g (kz p n) (kz q n)).map ah)):=by
 have arx:=emx oh hpn hqn hpq
 have elp:=aqg hpn
 have elq:=aqg hqn
 have ox:(uO g (kz p n) (kz q n)).length=n+1:=by rw [af3,elp]
 refine aS Tryz.func283 ?_
 have arx:True:=trivial
 have elp:True:=trivial
 have elq:True:=trivial
 have emn:True:=trivial
 refine bF ?_
 refine ao rfl (.bin rfl rfl (aEx oh hpn hqn hpq hn)) ?_
 refine aY ?_
 refine cp au (apM p n oh hn ae hps) ?_
 refine aP ?_
 refine cp au (apM q n oI hn ae zT) ?_
 refine bI ?_
 try simp only [elp,elq]
 refine av ?_
 refine fG rfl rfl (.mw (n:=(n+1)) (m:=(n+1)) ml ml om om om) ?_
 refine bF ?_
 refine lG (fun(i:Nat) (w:List Rat) L=>((((((((St.mk L.slot (hp [(27,⟨3,w.map ah,true⟩)])).put (some 0) (.list 3 ((kz p n).map ah))).put (some 1) (.list 3 ((kz q n).map ah))).put (some 2) (.dk f [])).put (some 8) (.ref 27 3 0 (n+1))).put (some 28) (.ref 27 3 0 (n+1))).put (some 29) (ai (n+1))).put (some 30) (ai i))) (fun i w=>i<=n+1/\w.length=n+1/\w.take i=(uO g (kz p n) (kz q n)).take i) (fun i w=>n+1-i) 0 (ay (n+1) 0) ⟨b8 _,by simp,rfl⟩ ?_
 rintro i w L1 ⟨hi,iZ,kF⟩
 refine aD ?_
 refine aF rfl ?_ ?_<;>intro ams h31
 ·have dR:i<n+1:=by omega
  have hfi:=hf i
  refine bI ?_
  refine a8 13 an ?_
  refine bD ?_
  try simp only [t1,cN]
  refine nY [] rfl rfl (.dk (f:=f) (cap:=[]) (args:=[ah ((kz p n).getD i 0),ah ((kz q n).getD i 0)]) rfl (.cons fF (.cons fF .nil)) ⟨rfl,fun _ h=>by cases h⟩ hfi.1 ak (fun _ h=>by cases h)) (hfi.2 _) ?_
  refine bI ?_
  exact iW (i+1) (w.set i (g ((kz p n).getD i 0) ((kz q n).getD i 0))) ⟨ae,by simp [iZ],abC ae ae kF (by rw [atA ae])⟩
 ·obtain rfl:i=n+1:=by omega
  have hE:w=(uO g (kz p n) (kz q n)):=by
   rw [de ae,de ae] at kF
   exact kF
  subst hE
  refine bF ?_
  exact ow [27] rfl rfl (fC ar rfl rfl ox.symm)
open H0 in
theorem aB1 (p q:List Rat) (n:Nat) (oh:0<p.length) (oI:0<q.length) (hn:n<=1000) (hpn:p.length<=n+1) (hqn:q.length<=n+1) (hpq:p.length=n+1\/q.length=n+1) (hps:tP p n) (zT:tP q n):ax al 251 [.list 3 (p.map ah),.list 3 (q.map ah)] (.list 3 ((uO (·-·) (kz p n) (kz q n)).map ah)):=by
 refine aS Tryz.func251 ?_
 refine bE ?_
 refine cp gV (ayS p q 170 (·-·) n oh oI hn hpn hqn hpq hps zT (fun i=>rN _ _ (by have:=ato hn oh hpn hps i;have:=ato hn oI hqn zT i;omega))) ?_
 refine aA ?_
 exact dW
namespace aqx
theorem aM {p q:Prop} (k:q) (e:p=q:=by simp only [e1,e2,e3,e4,p1,p2,p3,q1,q2,q3,l1,t0,t1,r1,r2,r3,r4,Nat.zero_add,Nat.reduceMul,Nat.reduceAdd,b1,b2,b3,b4,b5,b6,i1,i2,i3,i4,i5,i6,Nat.reduceBEq,cN,List.length_set,aez,aej,zB,kg,elz,ela,aV ar,cY,LV.kill,b7];exact rfl):p:=e.mpr k
end aqx
open aqx in
theorem aAC (p q:List Rat) (R:Nat) (oh:0<p.length) (oI:0<q.length) (h:p.length-1+(q.length-1)<=40) (fB:1<=R) (hR:R<=67108864) (rH:∀ x∈p,rl x<=R) (tq:∀ x∈q,rl x<=R):ax al 284 [.list 3 (p.map ah),.list 3 (q.map ah)] (.bf [.list 3 ((mo p q).map ah),iL 0]):=by
 have gv:p.length<=41:=by omega
 have jK:q.length<=41:=by omega
 refine aS Tryz.func284 ?_
 have kg:True:=trivial
 have elz:True:=trivial
 have ela:True:=trivial
 refine bI ?_
 refine ao rfl kL ?_
 refine aP ?_
 refine ao rfl kL ?_
 refine bE ?_
 refine ao rfl zg ?_
 refine aL ?_
 refine aF rfl ?_ ?_<;>intro aiA h25
 ·omega
 ·refine bn ?_
  refine dg 28 rfl ?_ ?_<;>intro y6 rI
  ·exfalso
   omega
  ·refine ba ?_
   refine aF rfl ?_ ?_<;>intro ams h31
   ·omega
   ·refine ba ?_
    refine cp aQ (amD _ ae) ?_
    refine av ?_
    refine cp aQ (amD _ ae) ?_
    refine aP ?_
    refine ao rfl zg ?_
    refine cp aQ (amD _ ae) ?_
    refine bE ?_
    refine ao rfl zg ?_
    refine ao rfl cM ?_
    refine fG rfl rfl (.mw (n:=(p.length-1+(q.length-1)+1)) (m:=(p.length-1+(q.length-1)+1)) ml ml om om om) ?_
    refine bF ?_
    refine dU (fun(i:Nat) L=>((((((((((St.mk L.slot (hp [(44,⟨3,(allM p q i).map ah,true⟩)])).put (some 0) (.list 3 (p.map ah))).put (some 1) (.list 3 (q.map ah))).put (some 8) (.list 3 ((iN (p.length-1)).map ah))).put (some 9) (.list 3 ((iN (q.length-1)).map ah))).put (some 10) (.list 3 ((iN (p.length-1+(q.length-1))).map ah))).put (some 11) (.ref 44 3 0 (p.length-1+(q.length-1)+1))).put (some 45) (.list 3 (p.map ah))).put (some 46) (ai p.length)).put (some 47) (ai i))) (fun i=>i<=p.length) (fun i=>p.length-i) 0 (b8 _) ?_
    rintro i L1 hi
    refine aD ?_
    refine aF rfl ?_ ?_<;>intro aIQ h48
    ·have hip:i<p.length:=by omega
     have fN:=abd (n:=p.length-1) ae _ (dK (i:=i) (by rw [zB];omega))
     have oO:=rH _ (dK (i:=i) hip)
     have hx3:=cX ((iN (p.length-1)).getD i 0) (p.getD i 0)
     refine bD ?_
     refine a8 10 an ?_
     refine bn ?_
     try simp only [t1,cN]
     refine cp au (iz _ _ ae) ?_
     refine bF ?_
     refine dU (fun(j:Nat) L=>(((((((((((((((St.mk L.slot (hp [(44,⟨3,(vD ((iN (p.length-1)).getD i 0*p.getD i 0) i (iN (q.length-1)) q (allM p q i) j).map ah,true⟩),(13,⟨3,[ah ((iN (p.length-1)).getD i 0*p.getD i 0)],true⟩)])).put (some 0) (.list 3 (p.map ah))).put (some 1) (.list 3 (q.map ah))).put (some 8) (.list 3 ((iN (p.length-1)).map ah))).put (some 9) (.list 3 ((iN (q.length-1)).map ah))).put (some 10) (.list 3 ((iN (p.length-1+(q.length-1))).map ah))).put (some 11) (.ref 44 3 0 (p.length-1+(q.length-1)+1))).put (some 45) (.list 3 (p.map ah))).put (some 46) (ai p.length)).put (some 47) (ai i)).put (some 12) (ai i)).put (some 13) (.aB 13 3 0 0)).put (some 59) (.list 3 (q.map ah))).put (some 60) (ai q.length)).put (some 61) (ai j))) (fun j=>j<=q.length) (fun j=>q.length-j) 0 (b8 _) ?_
     rintro j L2 hj
     refine aD ?_
     refine aF rfl ?_ ?_<;>intro apg h62
     ·have hjq:j<q.length:=by omega
      have kg:((i:Int)+(j:Int)).toNat=i+j:=by omega
      have hlr:(vD ((iN (p.length-1)).getD i 0*p.getD i 0) i (iN (q.length-1)) q (allM p q i) j).length=(p.length-1+(q.length-1)+1):=by rw [aez,aej]
      have hS:=ae0 gv jK fB rH tq i
      have ho:=amM (i:=i) ae hS (show rl ((iN (p.length-1)).getD i 0*p.getD i 0)<=R+2 by omega) (abd (n:=q.length-1) ae) tq fB j
      have ga:=ax8 (i:=i) (j:=j) ae jK hj hR
      have nN:=iG ae ho (i+j)
      have hg2:=abd (n:=q.length-1) ae _ (dK (i:=j) (by rw [zB];omega))
      have zc:=tq _ (dK (i:=j) hjq)
      have hg4:=cX ((iN (q.length-1)).getD j 0) (q.getD j 0)
      have hg5:=cX ((iN (p.length-1)).getD i 0*p.getD i 0) ((iN (q.length-1)).getD j 0*q.getD j 0)
      refine bI ?_
      refine a8 23 an ?_
      refine aL ?_
      refine ao rfl zg ?_
      refine aL ?_
      refine ao rfl zg ?_
      refine bD ?_
      try simp only [t1,cN,fw]
      refine cp au (iz _ _ ae) ?_
      try simp only [t1,cN,fw]
      refine cp au (iz _ _ ae) ?_
      try simp only [t1,cN,fw]
      refine cp au (jz _ _ ae) ?_
      refine bI ?_
      exact yC
     ·obtain rfl:j=q.length:=by omega
      refine aD ?_
      refine cy (az.kill _ 13) ?_
      refine aA ?_
      exact lR
    ·obtain rfl:i=p.length:=by omega
     refine dH ?_
     refine lG (fun(k:Nat) (w:List Rat) L=>((((((St.mk L.slot (hp [(44,⟨3,w.map ah,true⟩)])).put (some 10) (.list 3 ((iN (p.length-1+(q.length-1))).map ah))).put (some 11) (.ref 44 3 0 (p.length-1+(q.length-1)+1))).put (some 89) (.ref 44 3 0 (p.length-1+(q.length-1)+1))).put (some 90) (ai (p.length-1+(q.length-1)+1))).put (some 91) (ai k))) (fun k w=>k<=(p.length-1+(q.length-1)+1)/\w.length=(p.length-1+(q.length-1)+1)/\w.take k=(mo p q).take k/\∀ x,k<=x->w.getD x 0=(allM p q p.length).getD x 0) (fun k w=>(p.length-1+(q.length-1)+1)-k) 0 (allM p q p.length) ⟨b8 _,aej _ _ _,rfl,fun x _=>rfl⟩ ?_
     rintro k w L3 ⟨hk,iZ,kF,hz⟩
     refine aD ?_
     refine aF rfl ?_ ?_<;>intro aJL h92
     ·have k6:k<(p.length-1+(q.length-1)+1):=by omega
      have hS:=ae0 gv jK fB rH tq p.length
      have ga:=ax8 (i:=p.length) (j:=0) gv jK ae hR
      have nN:=iG ae hS k
      have hg2:=abd (n:=p.length-1+(q.length-1)) h _ (dK (i:=k) (by rw [zB];omega))
      have hzk:=hz k (bp _)
      rw [<-hzk] at nN
      refine bI ?_
      refine a8 12 an ?_
      refine bI ?_
      try simp only [t1,cN,fw]
      refine cp au (anG _ _ ae) ?_
      refine bI ?_
      exact iW (k+1) (w.set k (w.getD k 0/(iN (p.length-1+(q.length-1))).getD k 0)) ⟨ae,by simp [iZ],abC (by rw [yk];omega) (by rw [yk,iZ]) kF (by rw [apA ae,hz k (bp _)]),fun x hx=>by rw [aaC _ _ _ _ ae,if_neg ae];exact hz x ae⟩
     ·obtain rfl:k=(p.length-1+(q.length-1)+1):=by omega
      have hE:w=mo p q:=by
       rw [de ae,de (by rw [yk];omega)] at kF
       exact kF
      refine dG ?_
      rw [<-hE]
      exact ajP [44] rfl rfl (fC ar rfl rfl ae) rfl (.pure rfl)
def gH (a b:Rat):Nat->(Nat->Rat)->Rat
 | 0,f=>f 0
 | n+1,f=>f 0*a ^ (n+1)+b*gH a b n (fun k=>f (k+1))
theorem ale (a b:Rat):∀ (n:Nat) (f g:Nat->Rat),gH a b n (fun k=>f k+g k)=gH a b n f+gH a b n g
 | 0,f,g=>rfl
 | n+1,f,g=>by rw [gH,gH,gH,ale a b n];grind
theorem anN (a b c:Rat):∀ (n:Nat) (f:Nat->Rat),gH a b n (fun k=>c*f k)=c*gH a b n f
 | 0,f=>rfl
 | n+1,f=>by rw [gH,gH,anN a b c n];grind
theorem ak8 (a b:Rat):∀ (n:Nat) (f:Nat->Rat),f (n+1)=0->gH a b (n+1) f=a*gH a b n f
 | 0,f,h=>by
  show f 0*a ^ 1+b*f 1=a*f 0
  rw [h];grind
 | n+1,f,h=>by
  rw [gH,ak8 a b n (fun k=>f (k+1)) h,gH]
  grind
theorem axZ (a b:Rat) (f:Nat->Rat) (m:Nat) (h:∀ k,m<k->f k=0):∀ n,gH a b (m+n) f=a ^ n*gH a b m f
 | 0=>by simp
 | n+1=>by
  rw [<-ph,ak8 a b (m+n) f (h _ ae),axZ a b f m h n];grind
theorem awc (a b:Rat) (n:Nat) (f:Nat->Rat):gH a b (n+1) (fun k=>if k=0 then 0 else f (k-1))=b*gH a b n f:=by
 rw [gH,if_pos rfl]
 have:(fun k=>if k+1=0 then 0 else f (k+1-1))=f:=by funext k;rw [if_neg ae];rfl
 rw [this];grind
def cR (n k:Nat):Rat:=((l5 n k:Nat):Int)
theorem aA6 (n k:Nat):cR (n+1) k=cR n k+(if k=0 then 0 else cR n (k-1)):=by
 unfold cR
 cases k with
 | zero=>rw [ad4,ad4,if_pos rfl,ks]
 | succ k =>
  rw [if_neg ae,l5,<-abj]
  congr 1
  rw [show k+1-1=k from rfl];omega
theorem anh (a b:Rat):∀ (n:Nat) (f:Nat->Rat),fE a b n f=gH a b n (fun k=>cR n k*f k)
 | 0,f=>by
  show f 0=cR 0 0*f 0
  rw [show cR 0 0=1 from rfl,oB]
 | n+1,f=>by
  have e:(fun k=>cR (n+1) k*f k)=fun k=>(fun k=>cR n k*f k) k+(fun k=>if k=0 then 0 else(fun j=>cR n j*f (j+1)) (k-1)) k:=by
   funext k
   show cR (n+1) k*f k=cR n k*f k+(if k=0 then 0 else cR n (k-1)*f (k-1+1))
   rw [aA6]
   by_cases h:k=0
   ·rw [if_pos h,if_pos h];grind
   ·rw [if_neg h,if_neg h,show k-1+1=k by omega];grind
  have hz:cR n (n+1)=0:=by unfold cR;rw [aje ae];rfl
  have h2:=awc a b n (fun j=>cR n j*f (j+1))
  rw [e,ale,h2,ak8 _ _ _ _ (by show cR n (n+1)*f (n+1)=0;rw [hz,vr]),agW,anh a b n f,anh a b n (fun i=>f (i+1))]
def sq (p:List Rat) (k:Nat):Rat:=cR (p.length-1) k*p.getD k 0
theorem abx {p:List Rat} {k:Nat} (h:p.length<=k):sq p k=0:=by unfold sq;rw [aBv h,wH]
theorem amd {p:List Rat} {t:Rat} (h:0<p.length):aG p t=gH (1-t) t (p.length-1) (sq p):=by rw [mn h,anh];rfl
theorem aHZ {n k:Nat} (h:k<=n):cR n k≠0:=by
 have:=aoZ h
 exact fun e=>by have:=awI.1 e;omega
def sm:Nat->(Nat->Rat)->Rat
 | 0,_=>0
 | n+1,f=>sm n f+f n
theorem wP:∀ (n:Nat) (f g:Nat->Rat),(∀ i,i<n->f i=g i)->sm n f=sm n g
 | 0,_,_,_=>rfl
 | n+1,f,g,h=>by rw [sm,sm,wP n f g (fun i hi=>h i ae),h n ae]
theorem ag9:∀ (n:Nat) (f g:Nat->Rat),sm n (fun i=>f i+g i)=sm n f+sm n g
 | 0,_,_=>by show (0:Rat)=0+0;grind
 | n+1,f,g=>by rw [sm,sm,sm,ag9 n];grind
theorem aoC (c:Rat):∀ (n:Nat) (f:Nat->Rat),sm n (fun i=>c*f i)=c*sm n f
 | 0,_=>by show (0:Rat)=c*0;grind
 | n+1,f=>by rw [sm,sm,aoC c n];grind
theorem ah3:∀ (n:Nat) (f:Nat->Rat),sm (n+1) f=f 0+sm n (fun i=>f (i+1))
 | 0,f=>by show 0+f 0=f 0+0;grind
 | n+1,f=>by rw [sm,ah3 n f,sm];grind
theorem anR (n:Nat) (f:Nat->Rat) (h:∀ i,i<n->f i=0):sm n f=0:=by
 induction n with
 | zero=>rfl
 | succ n ih=>rw [sm,ih (fun i hi=>h i ae),h n ae];exact ks 0
theorem alC (n:Nat) (f:Nat->Rat) (h:∀ i,n<=i->f i=0):∀ m,sm (n+m) f=sm n f
 | 0=>rfl
 | m+1=>by rw [<-ph,sm,alC n f h m,h _ ae];grind
def cf (f g:Nat->Rat) (k:Nat):Rat:=sm (k+1) fun i=>f i*g (k-i)
theorem aAH (f g:Nat->Rat) (k:Nat):cf f g k=f 0*g k+(if k=0 then 0 else cf (fun i=>f (i+1)) g (k-1)):=by
 unfold cf
 rw [ah3,ack]
 cases k with
 | zero=>rfl
 | succ k =>
  rw [if_neg ae]
  congr 1
  refine wP _ _ _ fun i hi=>?_
  rw [show k+1-(i+1)=k+1-1-i by omega]
theorem avu (a b:Rat) (g:Nat->Rat) (m:Nat) (hg:∀ k,m<k->g k=0):∀ (n:Nat) (f:Nat->Rat),(∀ k,n<k->f k=0)->gH a b (m+n) (cf f g)=gH a b n f*gH a b m g
 | 0,f,hf=>by
  have e:cf f g=fun k=>f 0*g k:=by
   funext k
   rw [cf,ah3,anR _ _ (fun i _=>by rw [hf (i+1) ae,vr]),ks,ack]
  rw [e,anN];rfl
 | n+1,f,hf=>by
  have e:cf f g=fun k=>(fun k=>f 0*g k) k+(fun k=>if k=0 then 0 else cf (fun i=>f (i+1)) g (k-1)) k:=by funext k;exact aAH f g k
  rw [e,ale,anN,<-ph,awc,avu a b g m hg n _ (fun k hk=>hf _ ae),ph,axZ a b g m hg (n+1),gH]
  grind
theorem aiL (x:Rat) (i:Nat) (y q o:List Rat) (k:Nat):∀ j,i+j<=o.length->(vD x i y q o j).getD k 0=o.getD k 0+(if i<=k/\k<i+j then x*(y.getD (k-i) 0*q.getD (k-i) 0) else 0)
 | 0,_=>by rw [vD,if_neg ae,ks]
 | j+1,h=>by
  have ih:=fun k=>aiL x i y q o k j ae
  rw [vD,aFB _ _ _ _ (by rw [aez];omega)]
  by_cases h1:i+j=k
  ·subst h1
   rw [if_pos rfl,aiL x i y q o _ j ae,if_neg ae,if_pos ae,aon]
   grind
  ·rw [if_neg h1,aiL x i y q o k j ae]
   by_cases h2:i<=k/\k<i+j
   ·rw [if_pos h2,if_pos ae]
   ·rw [if_neg h2,if_neg ae]
theorem alU {n k:Nat} (h:k<=n):(iN n).getD k 0=cR n k:=aqz h
theorem aqY {p q:List Rat} (h0:0<p.length) (h1:0<q.length) (k:Nat):∀ i,i<=p.length->(allM p q i).getD k 0=sm i (fun j=>if j<=k then sq p j*sq q (k-j) else 0)
 | 0,_=>aH6 _ _
 | i+1,hi=>by
  rw [allM,aiL _ _ _ _ _ _ _ (by rw [aej];omega),aqY h0 h1 k i ae,sm,alU ae]
  congr 1
  by_cases h2:i<=k
  ·rw [if_pos h2]
   by_cases h3:k<i+q.length
   ·rw [if_pos ⟨h2,h3⟩,alU ae];rfl
   ·rw [if_neg ae,abx (p:=q) ae,wH]
  ·rw [if_neg h2,if_neg ae]
theorem aBa {p q:List Rat} (h0:0<p.length) (h1:0<q.length) (k:Nat):sq (mo p q) k=cf (sq p) (sq q) k:=by
 have hl:=yk p q
 rcases gM k (p.length-1+(q.length-1)+1) with hk | hk
 ·have hc:=aHZ (n:=p.length-1+(q.length-1)) (k:=k) ae
  have e:sq (mo p q) k=(allM p q p.length).getD k 0:=by
   unfold sq
   rw [hl,apA hk,alU ae,lP,jo,qB,vP,aki _ hc,rj]
  rw [e,aqY h0 h1 k _ (bp _)]
  have hF1:∀ i,p.length<=i->(fun j=>if j<=k then sq p j*sq q (k-j) else 0) i=0:=fun i hi=>by
   show (if i<=k then sq p i*sq q (k-i) else 0)=0
   split
   ·rw [abx hi,vr]
   ·rfl
  have hF2:∀ i,k+1<=i->(fun j=>if j<=k then sq p j*sq q (k-j) else 0) i=0:=fun i hi=>if_neg ae
  rw [<-alC _ _ hF1 (k+1),pM,alC _ _ hF2]
  exact wP _ _ _ fun i hi=>if_pos ae
 ·rw [abx ae]
  refine(anR _ _ fun i hi=>?_).symm
  rcases gM i p.length with h2 | h2
  ·rw [abx (p:=q) ae,wH]
  ·rw [abx h2,vr]
theorem axB {p q:List Rat} (h0:0<p.length) (h1:0<q.length) (t:Rat):aG (mo p q) t=aG p t*aG q t:=by
 have hl:=yk p q
 rw [amd ae,amd h0,amd h1,hl,lP,pM (p.length-1),show sq (mo p q)=cf (sq p) (sq q) from funext (aBa h0 h1)]
 exact avu _ _ _ _ (fun k hk=>abx ae) _ _ (fun k hk=>abx ae)
end Go.Proofs.YtckppbhafancnaaGreat
namespace Go.Lg
theorem az.cell {L:St} (b:Nat) {sz:Nat} {x y:LV} {mt:Bool} (hb:L.heap b=some ⟨sz,[x],mt⟩) (h:∀ Z μ w cs,aC Z μ w x cs->aC Z μ w y cs):az L (L.bO b (some ⟨sz,[y],mt⟩)):=by
 rintro n W X Z0 a w ⟨ec,bJ,μ,Z,hc,hr⟩
 refine⟨ec,bJ,μ,Z,?_,hr⟩
 have hs:∀ c,(L.bO b (some ⟨sz,[y],mt⟩)).heap c=if c=b then some ⟨sz,[y],mt⟩ else L.heap c:=fun c=>rfl
 refine⟨hc.cC,hc.lI,hc.jG,hc.lK,hc.inj,hc.own,hc.x0,hc.ov,hc.x1,fun c id blk g1 g2=>?_,fun c id blk g1 g2=>?_,fun c id g1=>?_⟩
 ·rw [hs] at g2
  split at g2
  ·rename_i e;subst e;cases g2;exact hc.jx c id ⟨sz,[x],mt⟩ g1 hb
  ·exact hc.jx c id blk g1 g2
 ·rw [hs] at g2
  split at g2
  ·rename_i e;subst e;cases g2;exact hc.b9 c id ⟨sz,[x],mt⟩ g1 hb
  ·exact hc.b9 c id blk g1 g2
 ·obtain⟨blk,k1,k2⟩:=hc.heap c id g1
  rw [hs]
  by_cases e:c=b
  ·subst e
   rw [if_pos rfl]
   rw [hb] at k1
   cases k1
   refine⟨_,rfl,?_⟩
   obtain⟨cs,T,part,rest,e1,e2,e3⟩:=k2
   refine⟨cs,T,part,rest,e1,e2,?_⟩
   simp only [aR] at e3 ⊢
   obtain⟨c1,c2,q1,q2,q3,q4⟩:=e3
   exact⟨c1,c2,q1,q2,h _ _ _ _ q3,q4⟩
  ·rw [if_neg e];exact⟨blk,k1,k2⟩
theorem az.wG (L:St) (d sz:Nat) (hd:L.heap d=none):az L (L.bO d (some ⟨sz,[],true⟩)):=by
 rintro n W X Z0 a w ⟨ec,bJ,μ,Z,hc,hr⟩
 refine⟨ec,bJ,μ,Z,?_,hr⟩
 refine hc.ais fun c id xZ=>?_
 have:c≠d:=by rintro rfl;rw [uw hc hd] at xZ;cases xZ
 simp [St.bO,this]
theorem afX (d sz:Nat) (x y:LV) (Z:Nat->Prop) (μ:Nat->Option Nat) (w:World) (cs:List Value) (h:aC Z μ w (.agg [x,y,.v (.slice none 0 0)]) cs):aC Z μ w (.agg [x,y,.ref d sz 0 0]) cs:=by
 simp only [aC,cA] at h ⊢
 obtain⟨c1,c2,e1,e2,e3,c3,c4,e4,e5,e6,c5,c6,e7,e8,e9,e10⟩:=h
 exact⟨c1,c2,e1,e2,e3,c3,c4,e4,e5,e6,c5,c6,e7,e8,.inl ⟨e9.1,trivial⟩,e10⟩
end Go.Lg
namespace Go.Proofs.YtckppbhafancnaaGreat
open Go.Lg
def _root_.Go.Lg.V3.at (p:V3):Nat->Rat
 | 0=>p.x
 | 1=>p.y
 | _=>p.z
def bc (po:List aK) (k:Nat):List Rat:=po.map fun q=>q.w*q.p.at k
def aO (po:List aK):List Rat:=po.map fun q=>q.w
theorem nS (po:List aK) (k:Nat):(bc po k).length=po.length:=by simp [bc]
theorem ni (po:List aK):(aO po).length=po.length:=by simp [aO]
theorem acT {R:Nat} {p:V3} (h:cB R p):∀ k,rl (p.at k)<=R
 | 0=>h.1
 | 1=>h.2.1
 | _+2=>h.2.2
theorem ahS {R:Nat} {po:List aK} (h:∀ q∈po,rC R q) (k:Nat):∀ x∈bc po k,rl x<=2*R:=fun x hx=>by
 obtain⟨q,hq,rfl⟩:=da.1 hx
 obtain⟨h1,h2,_⟩:=h q hq
 have h3:=acT h1 k
 have h4:=cX q.w (q.p.at k)
 show rl (q.w*q.p.at k)<=_
 omega
theorem ahB {R:Nat} {po:List aK} (h:∀ q∈po,rC R q):∀ x∈aO po,rl x<=R:=fun x hx=>by
 obtain⟨q,hq,rfl⟩:=da.1 hx
 exact(h q hq).2.1
def fA (po:List aK) (k:Nat):List Rat:=uO (·-·) (mo (dD (bc po k)) (aO po)) (mo (bc po k) (dD (aO po)))
theorem aym {p:List Rat} {n:Nat} (hp:p.length=n+1) (h:∀ x∈p,rl x<=1073741824):tP p n:=⟨h,fun k hk=>by
 obtain rfl:k=0:=by omega
 exact h⟩
theorem amh (p q:List Rat) (n:Nat) (hn:n<=40) (hp:p.length=n+1) (hq:q.length=n+1) (rH:∀ x∈p,rl x<=1073741824) (tq:∀ x∈q,rl x<=1073741824):ax al 251 [.list 3 (p.map ah),.list 3 (q.map ah)] (.list 3 ((uO (·-·) p q).map ah)):=by
 have:=aB1 p q n ae ae ae ae ae (.inl hp) (aym hp rH) (aym hq tq)
 rwa [aw4 ae,aw4 ae] at this
theorem apb {p q:List Rat} {R:Nat} (h:p.length-1+(q.length-1)<=40) (gv:p.length<=41) (jK:q.length<=41) (fB:1<=R) (hR:R<=100) (rH:∀ x∈p,rl x<=R) (tq:∀ x∈q,rl x<=R):∀ x∈mo p q,rl x<=344700:=fun x hx=>by
 obtain⟨k,hk,rfl⟩:=da.1 hx
 have hS:=ae0 gv jK fB rH tq p.length
 have ga:p.length*(q.length*(2*R+5))<=41*(41*205):=nz gv (nz jK ae)
 have nN:=iG ae hS k
 have hg2:=iG (S:=2) ak (abd (n:=p.length-1+(q.length-1)) h) k
 have h3:=rG ((allM p q p.length).getD k 0) ((iN (p.length-1+(q.length-1))).getD k 0)
 omega
theorem arQ {R:Nat} {p q:List Rat} {g:Rat->Rat->Rat} (hg:∀ a b,rl (g a b)<=rl a+rl b+1) (hR:1<=R) (hp:∀ x∈p,rl x<=R) (hq:∀ x∈q,rl x<=R):∀ x∈uO g p q,rl x<=2*R+1:=fun x hx=>by
 obtain⟨i,_,rfl⟩:=da.1 hx
 have h1:=iG hR hp i
 have h2:=iG hR hq i
 have h3:=hg (p.getD i 0) (q.getD i 0)
 omega
structure nR (po:List aK) (d:Nat):Prop where
 hl:po.length=d+1
 hd:1<=d
 h6:d<=6
 ok:∀ q∈po,rC 1 q
section
variable {po:List aK} {d:Nat} (h:nR po d)
theorem nR.n (h:nR po d) (k:Nat):(bc po k).length=d+1/\∀ x∈bc po k,rl x<=2:=⟨by rw [nS,h.hl],ahS h.ok k⟩
theorem nR.w (h:nR po d):(aO po).length=d+1/\∀ x∈aO po,rl x<=2:=⟨by rw [ni,h.hl],fun x hx=>a9 (ahB h.ok x hx) ak⟩
theorem nR.dn (h:nR po d) (k:Nat):(dD (bc po k)).length=d/\∀ x∈dD (bc po k),rl x<=8:=by
 obtain⟨h1,h2⟩:=h.n k
 have:=h.hd
 have:=h.h6
 exact⟨by rw [zr,h1,if_neg ae];omega,ahC ak ae h2⟩
theorem nR.dw (h:nR po d):(dD (aO po)).length=d/\∀ x∈dD (aO po),rl x<=8:=by
 obtain⟨h1,h2⟩:=h.w
 have:=h.hd
 have:=h.h6
 exact⟨by rw [zr,h1,if_neg ae];omega,ahC ak ae h2⟩
theorem nR.m1 (h:nR po d) (k:Nat):(mo (dD (bc po k)) (aO po)).length=2*d-1+1/\∀ x∈mo (dD (bc po k)) (aO po),rl x<=344700:=by
 obtain⟨h1,h2⟩:=h.dn k
 obtain⟨h3,h4⟩:=h.w
 have:=h.hd
 have:=h.h6
 exact⟨by rw [yk,h1,h3];omega,apb (R:=8) ae ae ae ak ak h2 (fun x hx=>a9 (h4 x hx) ak)⟩
theorem nR.m2 (h:nR po d) (k:Nat):(mo (bc po k) (dD (aO po))).length=2*d-1+1/\∀ x∈mo (bc po k) (dD (aO po)),rl x<=344700:=by
 obtain⟨h1,h2⟩:=h.n k
 obtain⟨h3,h4⟩:=h.dw
 have:=h.hd
 have:=h.h6
 exact⟨by rw [yk,h1,h3];omega,apb (R:=8) ae ae ae ak ak (fun x hx=>a9 (h2 x hx) ak) h4⟩
theorem nR.t (h:nR po d) (k:Nat):(fA po k).length=2*d-1+1/\∀ x∈fA po k,rl x<=689401:=by
 obtain⟨h1,h2⟩:=h.m1 k
 obtain⟨_,h4⟩:=h.m2 k
 exact⟨by rw [fA,af3,h1],fun x hx=>arQ jm ak h2 h4 x hx⟩
end
theorem ahF {Z:Nat->Prop} {μ:Nat->Option Nat} {w:World} {cs:List Value} (d sz:Nat) (h:aC Z μ w (.v (.slice none 0 0)) cs):aC Z μ w (.ref d sz 0 0) cs:=by
 simp only [aC] at h ⊢
 exact .inl ⟨h.1,trivial⟩
theorem aFl (a b c d:Nat) (sz:Nat) (Z:Nat->Prop) (μ:Nat->Option Nat) (w:World) (cs:List Value) (h:aC Z μ w (.agg [.v (.slice none 0 0),.v (.slice none 0 0),.v (.slice none 0 0),.v (.slice none 0 0)]) cs) :
  aC Z μ w (.agg [.ref a sz 0 0,.ref b sz 0 0,.ref c sz 0 0,.ref d sz 0 0]) cs:=by
 simp only [aC.eq_4,cA] at h ⊢
 obtain⟨c1,c2,e1,e2,e3,c3,c4,e4,e5,e6,c5,c6,e7,e8,e9,c7,c8,e10,e11,e12,e13⟩:=h
 exact⟨c1,c2,e1,e2,ahF _ _ e3,c3,c4,e4,e5,ahF _ _ e6,c5,c6,e7,e8,ahF _ _ e9,c7,c8,e10,e11,ahF _ _ e12,e13⟩
theorem aci {α β:Type} [Inhabited α] (f:α->β) (l:List α) {j:Nat} (h:j<l.length):(l.map f).take j++[f (l.getD j default)]=(l.map f).take (j+1):=by
 rw [zb,iV,cq h,bz,cq h];rfl
theorem rX {po:List aK} {j:Nat} (h:j<po.length):po.getD j default∈po:=by
 rw [bz,cq h];exact p6 h
open H0 in
theorem acS (p q:List Rat) (R:Nat) (oh:0<p.length) (oI:0<q.length) (h:p.length-1+(q.length-1)<=40) (fB:1<=R) (hR:R<=67108864) (rH:∀ x∈p,rl x<=R) (tq:∀ x∈q,rl x<=R):ax al 252 [.list 3 (p.map ah),.list 3 (q.map ah)] (.list 3 ((mo p q).map ah)):=by
 refine aS Tryz.func252 ?_
 refine bE ?_
 refine cp au (aAC p q R oh oI h fB hR rH tq) ?_
 refine dH ?_
 exact dW
theorem vY {a b:Rat}:0<=gj a b↔b<=a:=by
 unfold gj
 constructor
 ·intro h
  split at h
  ·exact absurd h ak
  ·grind
 ·intro h
  split
  ·exfalso;grind
  ·split<;>decide
theorem akD {a:Rat} (h:cT a=0):a=0:=by
 rcases aFw a with⟨g,e⟩ | ⟨_,e⟩ | ⟨_,e⟩
 ·exact g
 ·rw [e] at h;cases h
 ·rw [e] at h;cases h
namespace axy
theorem aM {p q:Prop} (k:q) (e:p=q:=by simp only [e1,e2,e3,e4,p1,p2,p3,q1,q2,q3,l1,t0,t1,r1,r2,r3,r4,Nat.zero_add,Nat.reduceMul,Nat.reduceAdd,b1,b2,b3,b4,b5,b6,i1,i2,i3,i4,i5,i6,Nat.reduceBEq,cN,ejm,List.length_set];exact rfl):p:=e.mpr k
end axy
open axy in
theorem azn (p:List Rat) (n:Nat) (gv:p.length=n) (jb:0<n) (hn:n<=1048576):nc al 179 ⟨3,p.map ah,true⟩ [.ref 0 3 0 n] (.bf []) ⟨3,p.reverse.map ah,true⟩:=by
 refine xn Tryz.func179 ?_
 have ejm:True:=trivial
 refine aA ?_
 refine ao rfl kL ?_
 refine ba ?_
 refine tV (fun(i j:Nat) (o:List Rat) L=>((((St.mk L.slot (hp [(0,⟨3,o.map ah,true⟩)])).put (some 0) (.ref 0 3 0 n)).put (some 2) (ai i)).put (some 3) (ai j))) (fun i j o=>j+i+1=n/\o.length=n/\∀ x,x<n->o.getD x 0=if x<i\/n<=x+i then p.getD (n-1-x) 0 else p.getD x 0) (fun i j o=>j) 0 (n-1) p ⟨ae,gv,fun x hx=>by rw [if_neg ae]⟩ ?_
 rintro i j o L1 ⟨rM,c9,hg⟩
 refine bn ?_
 refine aF rfl ?_ ?_<;>intro wi h9
 ·have ejm:((j:Int)-1)=((j-1:Nat):Int):=by omega
  refine aA ?_
  refine ie 13 [2,3] an ?_
  refine amp ?_
  exact tD (i+1) (j-1) ((o.set i (o.getD j 0)).set j (o.getD i 0)) ⟨ae,by simp [c9],aFz gv c9 ae rM hg⟩
 ·refine aA ?_
  have hE:=aD7 gv c9 ae hg
  rw [<-hE]
  exact aD8 rfl rfl (a7 ar _)
namespace as4
theorem aM {p q:Prop} (k:q) (e:p=q:=by simp only [e1,e2,e3,e4,p1,p2,p3,q1,q2,q3,l1,t0,t1,r1,r2,r3,r4,Nat.zero_add,Nat.reduceMul,Nat.reduceAdd,b1,b2,b3,b4,b5,b6,i1,i2,i3,i4,i5,i6,Nat.reduceBEq,cN,r1r,aV ar,cY,et,LV.kill,b7];exact rfl):p:=e.mpr k
end as4
open as4 in
theorem aD3 (p:List Rat) (a b:Rat) (oh:0<p.length) (hl:p.length<=1048576) (nM:∀ x∈p,rl x<=274877906944) (cL:rl a+rl b<=1073741824) (g1:1-a≠0->HS p a/\HS (nq p a) ((b-a)/(1-a))) (g2:1-a=0->b≠0->HS p b/\HS (qx p b) (1/b)):ax al 94 [.list 3 (p.map ah),ah a,ah b] (.list 3 ((xb p a b).map ah)):=by
 have eW:=jm 1 a
 have py:=jm b a
 have th:rl 1=1:=rfl
 refine aS Tryz.func94 ?_
 refine bE ?_
 refine cp aQ (wV 1 ak ak) ?_
 refine bE ?_
 refine cp au (rN 1 a ae) ?_
 refine aY ?_
 refine cp aQ (xX (1-a) ae) ?_
 refine aL ?_
 refine aF rfl ?_ ?_<;>intro tc wN
 ·have aX:1-a≠0:=aoG wN
  obtain⟨gA,gB⟩:=g1 aX
  have hE:xb p a b=qx (nq p a) ((b-a)/(1-a)):=by rw [xb,if_pos aX]
  refine aA ?_
  refine cp au (afg p a gA) ?_
  refine bn ?_
  refine a8 12 an ?_
  refine aL ?_
  refine cp au (rN b a ae) ?_
  refine av ?_
  refine cp au (anG (b-a) (1-a) ae) ?_
  refine cp au (afg (nq p a) ((b-a)/(1-a)) gB) ?_
  refine iI ?_
  rw [hE]
  exact dW
 ·have aX:1-a=0:=akD ae
  refine aD ?_
  refine cp aQ (xX b ae) ?_
  refine aL ?_
  refine aF rfl ?_ ?_<;>intro aFR h44
  ·have hnb:b≠0:=aoG h44
   obtain⟨gA,gB⟩:=g2 aX hnb
   have hE:xb p a b=nq (qx p b) (1/b):=by rw [xb,if_neg (by rw [aX];simp),if_pos hnb]
   refine aA ?_
   refine cp au (afg p b gA) ?_
   refine bF ?_
   refine cp au (anG 1 b ae) ?_
   refine cp au (afg (qx p b) (1/b) gB) ?_
   refine iI ?_
   rw [hE]
   exact dW
  ·have hnb:b=0:=akD ae
   have hE:xb p a b=p.reverse:=by rw [xb,if_neg (by rw [aX];simp),if_neg (by rw [hnb];simp)]
   refine ba ?_
   refine aaV [] rfl rfl (.cons (.pure (fh ar _ _)) .nil) (aoa p hl nM) (a7 ar _) rfl ?_
   refine aD ?_
   refine xD 1000977 rfl rfl rfl (a7 ar _) (.cons .ref .nil) (.ref oh) (azn p p.length rfl oh hl) rfl (a7 ar _) ?_
   refine bE ?_
   rw [hE]
   exact ow [1000977] rfl rfl (fC ar rfl rfl aT)
def lin (α β:Rat):Rat->List Rat->List Rat
 | c,[]=>[β*c]
 | c,x :: l=>(β*c+α*x) :: lin α β x l
inductive KS:Nat->List Rat->Prop
 | z {s:Int} {l:List Rat}:l≠[]->s=1\/s=-1->(∀ x∈l,cT x=s)->KS 0 l
 | r {n:Nat} {l:List Rat} {a b:Rat}:KS n l->0<a->0<b->KS (n+1) (lin (-a) b 0 l)
theorem adE {a b:Rat}:gj a b<0↔a<b:=by
 unfold gj;split
 ·simp [*]
 ·split<;>simp [*]
theorem amW {P:Program} {L:St} {a u:Nat} {T U:TypeId} {b c sz sy:Nat} {x y x' y':LV} {m m':Bool} {n n':Nat} {ag ag':Bool} (bs:List Nat) (h0:bs.contains 0=false) (h:L.slot a=.aB b sz 0 0) (hb:L.heap b=some ⟨sz,[x],m⟩)
  (hx:x.aw=sz) (cj:x.at 0 n ag=some x) (hT:bC P T n ag) (hi:cV (L.b9 bs).heap x y) (h':L.slot u=.aB c sy 0 0) (hc:L.heap c=some ⟨sy,[x'],m'⟩)
  (hx':x'.aw=sy) (aky:x'.at 0 n' ag'=some x') (hT':bC P U n' ag') (nw:cV (L.b9 bs).heap x' y'):pn P [.cell a T,.cell u U] L (.bf [y,y']) [] :=
 ⟨[x,x'],[y,y'],(L.b9 bs).heap,[],.cons ⟨b,sz,0,0,_,x,n,ag,h,hb,rfl,rfl,hx,cj,hT⟩ (.cons ⟨c,sy,0,0,_,x',n',ag',h',hc,rfl,rfl,hx',aky,hT'⟩ .nil),sw bs h0,.cons (.cE hi) (.cons (.cE nw) .nil),zq,rfl,fun k b h=>by simp at h,rfl⟩
section
variable {P:Program} {H:bW} {ρ:Operand->LV} {T E:TypeId}
end
theorem ayy (po:List aK) (i:Nat):(po.map (·.p)).getD i default=(po.getD i default).p:=by
 rw [bz,bz,iV]
 cases po[i]?<;>rfl
def acW {α:Type} (pr:α->Bool) (l:List α):Int:=if l.any pr then(l.findIdx pr:Nat) else -1
theorem af8 {α:Type} [Inhabited α] {pr:α->Bool} {l:List α} {i:Nat} (hi:i<l.length) (h0:∀ j,j<i->pr (l.getD j default)=false) (h:pr (l.getD i default)=true):acW pr l=(i:Int):=by
 have hg:∀ j (hj:j<l.length),l.getD j default=l[j]:=fun j hj=>by rw [bz,cq hj];rfl
 have e:l.findIdx pr=i:=by
  rw [List.findIdx_eq hi]
  refine⟨by rw [<-hg i hi];exact h,fun j hj=>?_⟩
  rw [<-hg j ae];exact h0 j hj
 have ha:l.any pr=true:=List.any_eq_true.2 ⟨l[i],p6 hi,by rw [<-hg i hi];exact h⟩
 unfold acW
 rw [if_pos ha,e]
theorem aH7 {α:Type} [Inhabited α] {pr:α->Bool} {l:List α} (h0:∀ j,j<l.length->pr (l.getD j default)=false):acW pr l=-1:=by
 have ha:l.any pr=false:=by
  rw [List.any_eq_false]
  intro x hx
  obtain⟨i,hi,rfl⟩:=List.mem_iff_getElem.1 hx
  have:=h0 i hi
  rw [bz,cq hi] at this
  simpa using this
 unfold acW
 rw [if_neg (by rw [ha];decide)]
theorem at8 {α:Type} [Inhabited α] {l:List α} {i:Nat} (h:i<l.length):l.getD i default∈l:=by
 rw [bz,cq h];exact p6 h
theorem awx {a b:Nat} (h:aq a=aq b):a=b:=by rw [<-ck a,h,ck]
section
variable {a b:Rat}
theorem aEt (h2:decide (aq a.num.natAbs=aq b.num.natAbs)=false):false=decide (a=b):=by
 symm;rw [decide_eq_false_iff_not];rintro rfl;simp at h2
theorem aHG (h:(decide (a<0)==decide (b<0))=true) (h2:decide (aq a.num.natAbs=aq b.num.natAbs)=true):decide (aq (jH a)=aq (jH b))=decide (a=b):=by
 rw [decide_eq_decide,aiH]
 exact⟨fun h3=>⟨eq_of_beq h,awx (of_decide_eq_true h2),awx h3⟩,fun h3=>by rw [h3.2.2]⟩
end
def gu (k:List Rat) (t:Rat):Nat->Nat
 | 0=>0
 | i+1=>gu k t i+(if k.getD i 0=t then 1 else 0)
theorem afV (k:List Rat) (t:Rat):∀ i,gu k t i<=i
 | 0=>bp _
 | i+1=>by have:=afV k t i;rw [gu];split<;>omega
def di (k:List Rat):Nat->List Rat
 | 0=>[]
 | i+1=>if i=0\/k.getD i 0≠k.getD (i-1) 0 then di k i++[k.getD i 0] else di k i
theorem awm (k:List Rat):∀ i,(di k i).length<=i
 | 0=>bp _
 | i+1=>by
  have:=awm k i
  rw [di];split
  ·simp;omega
  ·omega
theorem akq (k:List Rat):∀ i,i<=k.length->∀ x∈di k i,x∈k
 | 0,_,x,h=>by cases h
 | i+1,hi,x,h=>by
  rw [di] at h
  split at h
  ·rcases List.mem_append.1 h with h | h
   ·exact akq k i ae x h
   ·rw [List.mem_singleton.1 h];exact dK ae
  ·exact akq k i ae x h
structure kOK (k:List Rat) (d:Nat):Prop where
 d1:1<=d
 d6:d<=6
 len:2*d+2<=k.length
 max:k.length<=d+41
 srt:∀ i,i+1<k.length->k.getD i 0<=k.getD (i+1) 0
 ne:k.getD 0 0≠k.getD (k.length-1) 0
 aGc:∀ t∈k,(t=k.getD 0 0\/t=k.getD (k.length-1) 0)->gu k t k.length=d+1
 ink:∀ t∈k,t≠k.getD 0 0->t≠k.getD (k.length-1) 0->gu k t k.length<=d
 sz:∀ x∈k,rl x<=64
theorem aiI {k:List Rat}:∀ i,i<=k.length->(∀ j,1<=j->j<i->k.getD j 0≠k.getD (j-1) 0)->di k i=k.take i
 | 0,_,_=>rfl
 | i+1,hi,h=>by
  rw [di,aiI i ae (fun j h1 h2=>h j h1 ae),if_pos (by
   by_cases e:i=0
   ·exact .inl e
   ·exact .inr (h i ae ae)),zb,bz,cq ae];rfl
theorem ajn {k:List Rat} {i:Nat} (h0:0<i) (h:k.getD i 0≠k.getD (i-1) 0):di k (i+1)=di k i++[k.getD i 0]:=by rw [di,if_pos (.inr h)]
theorem adt {k:List Rat} {i:Nat} (h0:0<i) (h:k.getD i 0=k.getD (i-1) 0):di k (i+1)=di k i:=by rw [di,if_neg (fun e=>e.elim (fun e=>by omega) (fun e=>e h))]
theorem ayB {w:List Rat} {m n:Nat} (hm:m<=n) (hw:w.length=n):(w.map ah).take m++ay (n-m) (ah 0)++(w.map ah).drop (m+(n-m))=(w.take m++ay (n-m) 0).map ah:=by
 rw [jQ bw]
 simp [xg]
theorem abU {l:List Rat} {k:Nat} (h:k<l.length):l.take k++[l.getD k 0]=l.take (k+1):=by
 rw [zb,cq h,bz,cq h];rfl
theorem aHF {α:Type} {e:α->LV} {ag:Bool} {bs:List Nat} {L:St} {b sz len:Nat} {l m:List α} {t:Bool} (he:iJ e sz ag) (hb:L.heap b=some ⟨sz,(l++m).map e,t⟩) (rP:bs.contains b=true) (hl:len=l.length):cV (L.b9 bs).heap (.ref b sz 0 len) (.list sz (l.map e)):=by
 have:=afv (off:=0) (len:=len) hb rP (a7 he _) bw
 subst hl
 rwa [List.drop_zero,<-xg,List.take_left] at this
open H0 in
theorem zM (a b:Rat) (h:rl a+rl b<=1099511627776):ax al 156 [ah a,ah b] (bL (decide (a=b))):=by
 have a1:=mr a
 have a3:=nB a
 have c1:=mr b
 have c3:=nB b
 refine aS Tryz.func156 ?_
 refine iI ?_
 refine dg 10 rfl ?_ ?_<;>intro nE qN
 ·refine aA ?_
  refine cp au (ahg _ _ ae ae) ?_
  refine aP ?_
  refine dg 17 rfl ?_ ?_<;>intro abD wS
  ·refine aA ?_
   refine cp au (ahg _ _ ae ae) ?_
   refine ba ?_
   rw [<-aHG nE abD]
   exact dW
  ·refine bI ?_
   rw [<-aEt abD]
   exact dW
 ·refine jw ?_
  rw [<-awD nE]
  exact dW
namespace ax7
theorem aM {p q:Prop} (k:q) (e:p=q:=by simp only [e1,e2,e3,e4,p1,p2,p3,q1,q2,q3,l1,t0,t1,r1,r2,r3,r4,Nat.zero_add,Nat.reduceMul,Nat.reduceAdd,b1,b2,b3,b4,b5,b6,i1,i2,i3,i4,i5,i6,Nat.reduceBEq,cN,kg,xY,List.set_cons_zero,List.set_cons_succ,Nat.reduceEqDiff,reduceIte,if_true,if_false,eN,fb,aV bo,aV bH,aV ar,cY,et,LV.kill,b7];exact rfl):p:=e.mpr k
end ax7
open ax7 in
theorem aC6 (f:Nat) (k:List Rat) (h0:0<k.length) (hl:k.length<=1048576) (hs:∀ i,i+1<k.length->k.getD i 0<=k.getD (i+1) 0) (hf:∀ x∈k,∀ y∈k,ax al f [ah x,ah y] (iL (gj x y))):ax al 239 [.list 3 (k.map ah),.dk f []] (bL true):=by
 refine aS Tryz.func239 ?_
 have kg:True:=trivial
 have xY:True:=trivial
 refine bI ?_
 refine ao rfl kL ?_
 refine aA ?_
 refine dU (fun(i:Nat) L=>((((St.mk L.slot (hp [])).put (some 0) (.list 3 (k.map ah))).put (some 1) (.dk f [])).put (some 5) (ai i))) (fun i=>i<k.length) (fun i=>i) (k.length-1) ae ?_
 rintro i L1 hi
 refine aY ?_
 refine aF rfl ?_ ?_<;>intro nE qN
 ·have dR:0<i:=by omega
  have kg:((i:Int)-1).toNat=i-1:=by omega
  have xY:((i:Int)).toNat=i:=by omega
  have hc:=hf _ (dK (p:=k) (i:=i) hi) _ (dK (p:=k) (i:=i-1) ae)
  have kj:=hs (i-1) ae
  rw [Nat.sub_add_cancel ae] at kj
  have hcg:0<=gj (k.getD i 0) (k.getD (i-1) 0):=vY.2 kj
  refine ba ?_
  refine a8 12 an ?_
  refine aY ?_
  refine ao rfl kL ?_
  refine aP ?_
  refine nY [] rfl rfl (.dk (f:=f) (cap:=[]) (args:=[ah (k.getD i 0),ah (k.getD (i-1) 0)]) rfl (.cons fF (.cons fF .nil)) ⟨rfl,fun _ h=>by cases h⟩ hc.1 ak (fun _ h=>by cases h)) (hc.2 _) ?_
  refine aL ?_
  refine aF rfl ?_ ?_<;>intro tc wN
  ·omega
  ·refine ba ?_
   refine ao rfl kL ?_
   refine aL ?_
   exact iD (i-1) ae
 ·refine bD ?_
  exact nH
namespace anf
theorem aM {p q:Prop} (k:q) (e:p=q:=by simp only [e1,e2,e3,e4,p1,p2,p3,q1,q2,q3,l1,t0,t1,r1,r2,r3,r4,Nat.zero_add,Nat.reduceMul,Nat.reduceAdd,b1,b2,b3,b4,b5,b6,i1,i2,i3,i4,i5,i6,Nat.reduceBEq,cN,List.set_cons_zero,List.set_cons_succ,Nat.reduceEqDiff,reduceIte,if_true,if_false,eN,fb,aV bo,aV bH,aV ar,cY,et,LV.kill,b7];exact rfl):p:=e.mpr k
end anf
open anf in
theorem aie (k:List Rat) (hl:k.length<=1048576) (hr:∀ x∈k,rl x<=549755813888) (t:Rat) (ht:rl t<=549755813888):ax al 158 [.list 3 (k.map ah),ah t] (ai (gu k t k.length)):=by
 refine aS Tryz.func158 ?_
 refine oz ?_
 refine dU (fun(i:Nat) L=>((((((St.mk L.slot (hp [(3,⟨3,[ah t],true⟩)])).put (some 3) (.aB 3 3 0 0)).put (some 5) (ai (gu k t i))).put (some 8) (.list 3 (k.map ah))).put (some 9) (ai k.length)).put (some 10) (ai i))) (fun i=>i<=k.length) (fun i=>k.length-i) 0 (b8 _) ?_
 rintro i L1 hi
 refine aD ?_
 refine aF rfl ?_ ?_<;>intro ajl h11
 ·have dR:i<k.length:=by omega
  have hx:=hr _ (dK (i:=i) ae)
  have htl:=afV k t i
  refine nZ ?_
  refine cp au (zM (k.getD i 0) t ae) ?_
  refine aP ?_
  refine aF rfl ?_ ?_<;>intro abi yL
  ·have hT:gu k t (i+1)=gu k t i+1:=by rw [gu,if_pos yL]
   refine aP ?_
   refine ao rfl cM ?_
   refine aA ?_
   refine cy (az.kill _ 7) ?_
   refine ao rfl cM ?_
   refine aL ?_
   exact lR
  ·have hT:gu k t (i+1)=gu k t i:=by rw [gu,if_neg yL];rfl
   refine aL ?_
   refine cy (az.kill _ 7) ?_
   refine ao rfl cM ?_
   refine aL ?_
   exact lR
 ·obtain rfl:i=k.length:=by omega
  refine bF ?_
  exact nH
namespace ark
theorem aM {p q:Prop} (k:q) (e:p=q:=by simp only [e1,e2,e3,e4,p1,p2,p3,q1,q2,q3,l1,t0,t1,r1,r2,r3,r4,Nat.zero_add,Nat.reduceMul,Nat.reduceAdd,b1,b2,b3,b4,b5,b6,i1,i2,i3,i4,i5,i6,Nat.reduceBEq,cN,kg,xY,eik,eia,w6,eyl,ewa,ewb,Nat.zero_add,Nat.add_zero,List.length_set,List.length_map,List.set_cons_zero,List.set_cons_succ,Nat.reduceEqDiff,reduceIte,if_true,if_false,eN,fb,aV bo,aV bH,aV ar,cY,et,LV.kill,b7];exact rfl):p:=e.mpr k
end ark
open ark in
theorem aE0 (f:Nat) (l:List Rat) (h0:0<l.length) (hl:l.length<=1048576) (hf:∀ x∈l,∀ y∈l,ax al f [ah x,ah y] (bL (decide (x=y)))):nc al 154 ⟨3,l.map ah,true⟩ [.ref 0 3 0 l.length,.dk f []] (.ref 0 3 0 (di l l.length).length) ⟨3,((di l l.length)++ay (l.length-(di l l.length).length) 0).map ah,true⟩:=by
 refine xn Tryz.func154 ?_
 have kg:True:=trivial
 have xY:True:=trivial
 have eik:True:=trivial
 have eia:True:=trivial
 have w6:True:=trivial
 have eyl:True:=trivial
 have ewa:True:=trivial
 have ewb:True:=trivial
 refine dG ?_
 refine aF rfl ?_ ?_<;>intro nE qN
 ·obtain aJD:l.length=1:=by omega
  have hE:(di l l.length)=l:=by rw [aiI _ (bp _) (fun j h1 h2=>by omega),nn]
  refine bn ?_
  first | (rw [hE,pB,acD,mV];exact vK rfl .ref rfl rfl (a7 ar _)) | (exact vK rfl .ref (by first | rfl | (simp;done)) rfl (a7 ar _))
 ·refine bE ?_
  refine dU (fun(i:Nat) L=>((((St.mk L.slot (hp [(0,⟨3,l.map ah,true⟩)])).put (some 0) (.ref 0 3 0 l.length)).put (some 1) (.dk f [])).put (some 5) (ai i))) (fun i=>1<=i/\i<=l.length/\∀ j,1<=j->j<i->l.getD j 0≠l.getD (j-1) 0) (fun i=>l.length-i) 1 ⟨bp _,ae,fun j h1 h2=>by omega⟩ ?_
  rintro i L1 ⟨s8,hil,aX⟩
  refine bE ?_
  refine aF rfl ?_ ?_<;>intro pR mT
  ·have dR:i<l.length:=by omega
   have kg:((i:Int)-1).toNat=i-1:=by omega
   have xY:((i:Int)).toNat=i:=by omega
   have hc:=hf _ (dK (p:=l) (i:=i) dR) _ (dK (p:=l) (i:=i-1) ae)
   refine ba ?_
   refine a8 11 an ?_
   refine aY ?_
   refine ao rfl kL ?_
   refine aP ?_
   try simp only [t1,cN,kg,xY,fw]
   refine nY [] rfl rfl (.dk (f:=f) (cap:=[]) (args:=[ah (l.getD i 0),ah (l.getD (i-1) 0)]) rfl (.cons fF (.cons fF .nil)) ⟨rfl,fun _ h=>by cases h⟩ hc.1 ak (fun _ h=>by cases h)) (hc.2 _) ?_
   refine aP ?_
   refine aF rfl ?_ ?_<;>intro y6 rI
   ·have hdi:di l (i+1)=di l i:=adt ae rI
    have kJ:di l i=l.take i:=aiI i hil aX
    have hln:(l.take i).length=i:=by rw [eG];omega
    have dC:1<=1/\i+1<=l.length/\l.length=l.length/\(di l (i+1)).length+1<=i+1/\l.take (di l (i+1)).length=di l (i+1)/\∀ x,i+1-1<=x->l.getD x 0=l.getD x 0:=⟨bp _,ae,rfl,by rw [hdi,kJ,hln];omega,by rw [hdi,kJ,hln],fun _ _=>rfl⟩
    have eia:(di l (i+1)).length=i:=by rw [hdi,kJ,hln]
    refine aA ?_
    refine ao rfl (.wk (a:=i) (h:=l.length) rfl dE cZ (fun y hy=>by cases hy;exact⟨_,rfl⟩) (fun h=>by cases h) (fun y hy=>by cases hy) (fun _=>rfl) om om om) ?_
    refine bI ?_
    refine lG (fun(j:Nat) (w:List Rat) L=>((((((St.mk L.slot (hp [(0,⟨3,w.map ah,true⟩)])).put (some 0) (.ref 0 3 0 l.length)).put (some 1) (.dk f [])).put (some 5) (ai (di l (i+j)).length)).put (some 6) (.ref 0 3 i (l.length-i))).put (some 7) (ai j))) (fun j w=>1<=j/\i+j<=l.length/\w.length=l.length/\(di l (i+j)).length+1<=i+j/\w.take (di l (i+j)).length=(di l (i+j))/\∀ x,i+j-1<=x->w.getD x 0=l.getD x 0) (fun j w=>l.length-(i+j)) 1 l dC ?_
    rintro j w L2 ⟨hj1,rM,iZ,mM,kF,xC⟩
    refine bE ?_
    refine aF rfl ?_ ?_<;>intro zE h35
    ·have hi3:i+j<l.length:=by omega
     have ewa:w.getD (i+j) 0=l.getD (i+j) 0:=xC _ ae
     have ewb:w.getD (i+(j-1)) 0=l.getD (i+j-1) 0:=by rw [show i+(j-1)=i+j-1 by omega];exact xC _ ae
     have eik:((j:Int)-1).toNat=j-1:=by omega
     have hc:=hf _ (dK (p:=l) (i:=i+j) hi3) _ (dK (p:=l) (i:=i+j-1) ae)
     have xo:(di l (i+j)).length<l.length:=by omega
     refine ba ?_
     refine a8 12 an ?_
     refine aY ?_
     refine ao rfl kL ?_
     refine aP ?_
     try simp only [t1,cN,eik,ewa,ewb]
     refine nY [] rfl rfl (.dk (f:=f) (cap:=[]) (args:=[ah (l.getD (i+j) 0),ah (l.getD (i+j-1) 0)]) rfl (.cons fF (.cons fF .nil)) ⟨rfl,fun _ h=>by cases h⟩ hc.1 ak (fun _ h=>by cases h)) (hc.2 _) ?_
     refine aL ?_
     refine aF rfl ?_ ?_<;>intro acx h49
     ·have hy:=ajn (k:=l) (i:=i+j) ae h49
      have eyl:(di l (i+(j+1))).length=(di l (i+j)).length+1:=by rw [<-ph,hy];simp
      have zx:(di l (i+j+1)).length=(di l (i+j)).length+1:=by rw [hy];simp
      have hnA:1<=j+1/\i+(j+1)<=l.length/\(w.set (di l (i+j)).length (l.getD (i+j) 0)).length=l.length/\(di l (i+(j+1))).length+1<=i+(j+1)/\(w.set (di l (i+j)).length (l.getD (i+j) 0)).take (di l (i+(j+1))).length=di l (i+(j+1))/\∀ x,i+(j+1)-1<=x->(w.set (di l (i+j)).length (l.getD (i+j) 0)).getD x 0=l.getD x 0:=⟨ae,ae,by simp [iZ],by rw [<-ph,zx];omega,by rw [<-ph,zx,hy,zb,as2 (bp _),kF,List.getElem?_set_self ae];rfl,fun x hx=>by rw [aaC _ _ _ _ ae,if_neg ae];exact xC x ae⟩
      refine bE ?_
      try simp only [t1,cN,ewa,fw]
      refine ba ?_
      refine ao rfl cM ?_
      refine aD ?_
      refine ao rfl cM ?_
      refine aL ?_
      exact iW (j+1) (w.set (di l (i+j)).length (l.getD (i+j) 0)) hnA
     ·have hy:=adt (k:=l) (i:=i+j) ae h49
      have eyl:(di l (i+(j+1))).length=(di l (i+j)).length:=by rw [<-ph,hy]
      have hnB:1<=j+1/\i+(j+1)<=l.length/\w.length=l.length/\(di l (i+(j+1))).length+1<=i+(j+1)/\w.take (di l (i+(j+1))).length=di l (i+(j+1))/\∀ x,i+(j+1)-1<=x->w.getD x 0=l.getD x 0:=⟨ae,ae,iZ,by rw [<-ph,hy];omega,by rw [<-ph,hy];exact kF,fun x hx=>xC x ae⟩
      refine ba ?_
      refine ao rfl cM ?_
      refine aL ?_
      exact iW (j+1) w hnB
    ·obtain rfl:j=l.length-i:=by omega
     have eia:i+(l.length-i)=l.length:=by omega
     have gX:=mM
     rw [eia] at mM kF
     have w6:=ayB (w:=w) (m:=(di l l.length).length) (n:=l.length) ae iZ
     rw [kF] at w6
     refine bE ?_
     refine ao rfl (.wk (a:=(di l (i+(l.length-i))).length) (h:=l.length) rfl dE cZ (fun y hy=>by cases hy;exact⟨_,rfl⟩) (fun h=>by cases h) (fun y hy=>by cases hy) (fun _=>rfl) om om om) ?_
     refine bU rfl (.clr (n:=l.length-(di l (i+(l.length-i))).length) (off:=0+(di l (i+(l.length-i))).length) (z:=ah 0) (blk:=⟨3,w.map ah,true⟩) rfl rfl rfl rfl ma dE (qi ▸ lU) (ar.aw 0)) ?_
     refine aD ?_
     refine ao rfl (.ah2 rfl dE cZ rfl om om) ?_
     refine bE ?_
     first | (rw [hE,pB,acD,mV];exact vK rfl .ref rfl rfl (a7 ar _)) | (exact vK rfl .ref (by first | rfl | (simp;done)) rfl (a7 ar _))
   ·have hnx:∀ j,1<=j->j<i+1->l.getD j 0≠l.getD (j-1) 0:=fun j h1 h2=>by
     rcases Nat.lt_succ_iff_lt_or_eq.1 h2 with e | rfl
     ·exact aX j h1 e
     ·exact rI
    refine ba ?_
    refine ao rfl cM ?_
    refine aL ?_
    exact iD (i+1) ⟨ae,ae,hnx⟩
  ·obtain rfl:i=l.length:=by omega
   have hE:(di l l.length)=l:=by rw [aiI _ (bp _) aX,nn]
   refine bF ?_
   first | (rw [hE,pB,acD,mV];exact vK rfl .ref rfl rfl (a7 ar _)) | (exact vK rfl .ref (by first | rfl | (simp;done)) rfl (a7 ar _))
namespace am7
theorem aM {p q:Prop} (k:q) (e:p=q:=by simp only [e1,e2,e3,e4,p1,p2,p3,q1,q2,q3,l1,t0,t1,r1,r2,r3,r4,Nat.zero_add,Nat.reduceMul,Nat.reduceAdd,b1,b2,b3,b4,b5,b6,i1,i2,i3,i4,i5,i6,Nat.reduceBEq,cN,Rat.add_zero,iA,gL,Nat.zero_add,mG,mB,jB,List.length_cons,List.length_nil,List.nil_append,List.map_nil,List.take_nil,List.append_nil,List.set_cons_zero,List.set_cons_succ,Nat.reduceEqDiff,reduceIte,if_true,if_false,eN,fb,aV bo,aV bH,aV ar,cY,et,LV.kill,b7];exact rfl):p:=e.mpr k
end am7
open am7 in
theorem apH (p:List Rat) (hl:p.length<=1048576) (nM:∀ x∈p,rl x<=274877906944):o6 al 155 [.list 3 (p.map ah)] (.ref 1 3 0 p.length) [⟨3,p.map ah,true⟩]:=by
 refine fnO Tryz.func155 ?_
 have iA:True:=trivial
 have gL:True:=trivial
 refine bE ?_
 refine fG rfl rfl (.mw (n:=0) (m:=p.length) ml ml om om om) ?_
 refine bF ?_
 refine dU (fun(k:Nat) L=>(((((St.mk L.slot (hp [(8,⟨3,(p.take k).map ah,true⟩)])).put (some 3) (.ref 8 3 0 k)).put (some 9) (.list 3 (p.map ah))).put (some 10) (ai p.length)).put (some 11) (ai k))) (fun k=>k<=p.length) (fun k=>p.length-k) 0 (b8 _) ?_
 rintro k L1 hk
 refine aD ?_
 refine aF rfl ?_ ?_<;>intro ads h12
 ·have mJ:k<p.length:=by omega
  have hrk:=nM _ (dK mJ)
  have hA:=jz (p.getD k 0) 0 (by rw [show rl 0=1 from rfl];omega)
  rw [ks] at hA
  have iA:=abU (l:=p) mJ
  have gL:((p.take k).map ah).take k=(p.take k).map ah:=de z9
  refine iI ?_
  refine ao rfl qc ?_
  refine cp au (hA) ?_
  refine av ?_
  refine bU rfl avp ?_
  refine aA ?_
  refine cy ((az.kill _ 5).trans (az.kill _ 19)) ?_
  refine ao rfl cM ?_
  refine aL ?_
  exact iD (k+1) ae
 ·obtain rfl:k=p.length:=by omega
  have hE:p.take p.length=p:=nn
  refine bF ?_
  rw [hE]
  exact age rfl rfl (a7 ar _)
namespace gQ
theorem aM {p q:Prop} (k:q) (e:p=q:=by simp only [e1,e2,e3,e4,p1,p2,p3,q1,q2,q3,l1,t0,t1,r1,r2,r3,r4,Nat.zero_add,Nat.reduceMul,Nat.reduceAdd,b1,b2,b3,b4,b5,b6,i1,i2,i3,i4,i5,i6,Nat.reduceBEq,List.set_cons_zero,List.set_cons_succ,Nat.reduceEqDiff,reduceIte,if_true,if_false,eN,fb,aV bo,aV bH,aV ar,cY,et,LV.kill,b7];exact rfl):p:=e.mpr k
end gQ
open gQ in
theorem atI (k:List Rat) (h0:0<k.length) (hl:k.length<=1048576) (hr:∀ x∈k,rl x<=274877906944):ax al 84 [.list 3 (k.map ah)] (.list 3 ((di k k.length).map ah)):=by
 refine aS Tryz.func84 ?_
 refine bn ?_
 refine aaV [] rfl rfl (.cons (.pure (fh ar _ _)) .nil) (apH k hl hr) (a7 ar _) rfl ?_
 refine xD 1000065 rfl rfl rfl (a7 ar _) (.cons .ref (.cons (.cE (.pure rfl)) .nil)) (.ref h0) (aE0 156 k h0 hl (fun x hx y hy=>zM x y (by have:=hr x hx;have:=hr y hy;omega))) rfl (a7 ar _) ?_
 refine aA ?_
 exact ow [1000065] rfl rfl (aHF ar rfl rfl rfl)
open H0 in
theorem ajJ (k:List Rat) (d:Nat) (h:d+1<=k.length) (hl:k.length<=1048576):ax al 152 [.list 3 (k.map ah),ai d] (ai (k.length-d-1)):=by
 refine aS Tryz.func152 ?_
 refine bI ?_
 refine ao rfl wg ?_
 refine ao rfl wg ?_
 refine aA ?_
 refine dT ?_ (.pure rfl)
 simp only [e1,e2,e3,e4,p1,p2,p3,q1,q2,q3,Nat.reduceBEq]
 congr 2
 omega
namespace aqL
theorem aM {p q:Prop} (k:q) (e:p=q:=by simp only [e1,e2,e3,e4,p1,p2,p3,q1,q2,q3,l1,t0,t1,r1,r2,r3,r4,Nat.zero_add,Nat.reduceMul,Nat.reduceAdd,b1,b2,b3,b4,b5,b6,i1,i2,i3,i4,i5,i6,Nat.reduceBEq,cN,ub,List.set_cons_zero,List.set_cons_succ,Nat.reduceEqDiff,reduceIte,if_true,if_false,eN,fb,aV bo,aV bH,aV ar,cY,et,LV.kill,b7];exact rfl):p:=e.mpr k
end aqL
open aqL in
theorem aDM (k:List Rat) (d:Nat) (h:kOK k d):ax al 151 [.list 3 (k.map ah),ai d] (iL 0):=by
 have jS:=h.d1
 have hd6:=h.d6
 have hlen:=h.len
 have aJ2:=h.max
 have hr:∀ x∈k,rl x<=274877906944:=fun x hx=>a9 (h.sz x hx) ak
 have ub:((k.length:Int)-1).toNat=k.length-1:=by omega
 have tK:=h.sz _ (dK (p:=k) (i:=0) ae)
 have eW:=h.sz _ (dK (p:=k) (i:=k.length-1) ae)
 have hS:ax al 239 [.list 3 (k.map ah),.dk 92 []] (bL true):=aC6 92 k ae ae h.srt (fun x hx y hy=>nA x y (by have:=h.sz x hx;have:=h.sz y hy;omega))
 refine aS Tryz.func151 ?_
 refine bD ?_
 refine ao rfl wg ?_
 refine ao rfl wg ?_
 refine bE ?_
 refine dg 18 rfl ?_ ?_<;>intro uf ur
 ·omega
 ·refine aD ?_
  refine aF rfl ?_ ?_<;>intro pR mT
  ·omega
  ·refine ba ?_
   refine ao rfl (.bin rfl rfl (ah4 ae ae)) ?_
   refine ao rfl z8 ?_
   refine aA ?_
   refine aF rfl ?_ ?_<;>intro aeq h22
   ·omega
   ·refine aY ?_
    refine aF rfl ?_ ?_<;>intro abw h29
    ·omega
    ·refine ba ?_
     refine a8 15 an ?_
     refine av ?_
     refine cp au (hS) ?_
     refine bn ?_
     refine ao (bg (v:=false) rfl rfl (rfl) rfl) (.bin rfl rfl (aau ae ae)) ?_
     refine aP ?_
     try simp only [t1,cN,ub]
     refine cp au (zM (k.getD 0 0) (k.getD (k.length-1) 0) ae) ?_
     refine aL ?_
     refine fi (b:=_) rfl (decide_eq_false h.ne) ?_
     refine aD ?_
     refine cp aQ (atI k ae ae hr) ?_
     refine ba ?_
     refine dU (fun(i:Nat) L=>((((((St.mk L.slot (hp [])).put (some 0) (.list 3 (k.map ah))).put (some 1) (ai d)).put (some 48) (.list 3 ((di k k.length).map ah))).put (some 49) (ai (di k k.length).length)).put (some 50) (ai i))) (fun i=>i<=(di k k.length).length) (fun i=>(di k k.length).length-i) 0 (b8 _) ?_
     rintro i L1 hi
     refine aD ?_
     refine aF rfl ?_ ?_<;>intro aKz h51
     ·have mM:=awm k k.length
      have dR:i<(di k k.length).length:=by omega
      have hm:=akq k k.length (bp _) _ (dK dR)
      have hrt:=h.sz _ hm
      have he1:=h.aGc _ hm
      have he2:=h.ink _ hm
      refine nZ ?_
      refine cp au (aie k ae (fun x hx=>a9 (hr x hx) ak) ((di k k.length).getD i 0) ae) ?_
      refine aA ?_
      refine a8 16 an ?_
      refine aA ?_
      refine cp au (zM ((di k k.length).getD i 0) (k.getD 0 0) ae) ?_
      refine av ?_
      refine dg 62 rfl ?_ ?_<;>intro apg h62
      ·refine aY ?_
       try simp only [t1,cN,ub]
       refine bD ?_
       refine ao (bg (v:=true) rfl rfl (rfl) rfl) (.bin rfl rfl (sf ae ae)) ?_
       refine aL ?_
       refine dg 79 rfl ?_ ?_<;>intro an4 h79
       ·have:=he1 (by first | exact .inl h62 | exact .inr h73)
        omega
       ·refine aL ?_
        refine yM (bg (v:=false) rfl rfl (vd) rfl) ?_
        refine yM (bg (v:=false) rfl rfl (vd) rfl) ?_
        refine yM (bg (v:=false) rfl rfl (vd) rfl) ?_
        refine ao (bg (v:=false) rfl rfl (an4) rfl) (.sv rfl (vd)) ?_
        refine aY ?_
        refine cy (az.kill _ 7) ?_
        refine ao rfl cM ?_
        refine aL ?_
        exact lR
      ·refine aA ?_
       refine ao (bg (v:=false) rfl rfl (apg) rfl) (.bin rfl rfl (aau ae ae)) ?_
       refine aP ?_
       try simp only [t1,cN,ub]
       refine cp au (zM ((di k k.length).getD i 0) (k.getD (k.length-1) 0) ae) ?_
       refine bn ?_
       refine dg 73 rfl ?_ ?_<;>intro auz h73
       ·refine aP ?_
        refine ao (bg (v:=true) rfl rfl (auz) rfl) (.bin rfl rfl (sf ae ae)) ?_
        refine aL ?_
        refine dg 79 rfl ?_ ?_<;>intro an4 h79
        ·have:=he1 (by first | exact .inl h62 | exact .inr h73)
         omega
        ·refine aL ?_
         refine yM (bg (v:=false) rfl rfl (vd) rfl) ?_
         refine yM (bg (v:=false) rfl rfl (vd) rfl) ?_
         refine yM (bg (v:=false) rfl rfl (vd) rfl) ?_
         refine ao (bg (v:=false) rfl rfl (an4) rfl) (.sv rfl (vd)) ?_
         refine aY ?_
         refine cy (az.kill _ 7) ?_
         refine ao rfl cM ?_
         refine aL ?_
         exact lR
       ·refine bE ?_
        refine ao (bg (v:=true) rfl rfl (vd) rfl) (.move _) ?_
        refine ao (bg (v:=true) rfl rfl (vd) rfl) (.move _) ?_
        refine ao (bg (v:=true) rfl rfl (vd) rfl) (.bin rfl rfl rfl) ?_
        refine ao (bg (v:=false) rfl rfl (rfl) rfl) (.qh rfl (vd)) ?_
        refine aL ?_
        refine aF rfl ?_ ?_<;>intro aJY h87
        ·have:=he2 h62 h73
         omega
        ·refine aL ?_
         refine cy (az.kill _ 7) ?_
         refine ao rfl cM ?_
         refine aL ?_
         exact lR
     ·refine bD ?_
      exact nH
def l9 (s:Rat × Rat):Rat × Rat:=if il s 0=true then(0,ib (s.1*s.1) (s.2*s.2)) else(iy (s.1*s.1) (s.2*s.2),ib (s.1*s.1) (s.2*s.2))
def w9 (a b:Rat × Rat):Rat × Rat:=lJ (lJ (lJ (a.1*b.1,a.1*b.1) (a.1*b.2,a.1*b.2)) (a.2*b.1,a.2*b.1)) (a.2*b.2,a.2*b.2)
def rcS (b:Rat × Rat):Rat × Rat:=(iy (1/b.1) (1/b.2),ib (1/b.1) (1/b.2))
def uM (a b:Rat × Rat):Rat × Rat:=w9 a (rcS b)
def dy (R:Nat) (s:Rat × Rat):Prop:=rl s.1<=R/\rl s.2<=R
theorem dy.le {R S:Nat} {s:Rat × Rat} (h:dy R s) (k:R<=S):dy S s:=⟨a9 h.1 k,a9 h.2 k⟩
theorem anr {a b:Rat} {R:Nat} (ha:rl a<=R) (hb:rl b<=R):rl (iy a b)<=R:=by unfold iy;split<;>assumption
theorem ajo {a b:Rat} {R:Nat} (ha:rl a<=R) (hb:rl b<=R):rl (ib a b)<=R:=by unfold ib;split<;>assumption
theorem ad0 {R:Nat} {s t:Rat × Rat} (hs:dy R s) (ht:dy R t):dy R (lJ s t):=⟨anr hs.1 ht.1,ajo hs.2 ht.2⟩
theorem ae4 {R S:Nat} {a b:Rat × Rat} (ha:dy R a) (hb:dy S b):dy (R+S) (w9 a b):=by
 obtain⟨a1,a2⟩:=ha
 obtain⟨b1,b2⟩:=hb
 have h:∀ x y:Rat,rl x<=R->rl y<=S->dy (R+S) (x*y,x*y):=fun x y hx hy=>by
  have:=cX x y
  exact⟨by show rl (x*y)<=_;omega,by show rl (x*y)<=_;omega⟩
 exact ad0 (ad0 (ad0 (h _ _ a1 b1) (h _ _ a1 b2)) (h _ _ a2 b1)) (h _ _ a2 b2)
theorem avr {R:Nat} {b:Rat × Rat} (hb:dy R b):dy (R+1) (rcS b):=by
 have h:∀ x:Rat,rl x<=R->rl (1/x)<=R+1:=fun x hx=>by
  have:=rG 1 x
  have:rl 1=1:=rfl
  omega
 exact⟨anr (h _ hb.1) (h _ hb.2),ajo (h _ hb.1) (h _ hb.2)⟩
theorem asJ {R S:Nat} {a b:Rat × Rat} (ha:dy R a) (hb:dy S b):dy (R+(S+1)) (uM a b):=ae4 ha (avr hb)
theorem aD5 {R:Nat} {s:Rat × Rat} (hs:dy R s) (hR:1<=R):dy (2*R) (l9 s):=by
 have h1:=cX s.1 s.1
 have h2:=cX s.2 s.2
 have h3:=hs.1
 have h4:=hs.2
 have h0:rl 0=1:=rfl
 unfold l9
 split
 ·exact⟨by show rl 0<=_;omega,ajo ae ae⟩
 ·exact⟨anr ae ae,ajo ae ae⟩
structure _root_.Go.Lg.qt where
 x:Rat × Rat
 y:Rat × Rat
 z:Rat × Rat
abbrev nF (b:qt):LV:=.agg [aH b.x,aH b.y,aH b.z]
theorem zp:iJ nF 18 true:=by
 refine⟨fun b=>?_,fun b=>rfl,fun b=>?_⟩
 ·simp [nF,LV.aw,cU,cg.aw]
 ·simp [nF,LV.pure,aN,cg.pure]
def pv (R:Nat) (b:qt):Prop:=dy R b.x/\dy R b.y/\dy R b.z
open gQ in
theorem anO (a b:Rat × Rat) (R:Nat) (hR:R<=1000000000) (ha:dy R a) (hb:dy R b):ax al 188 [aH a,aH b] (aH (w9 a b)):=by
 obtain⟨a1,a2⟩:=ha
 obtain⟨y1,y2⟩:=hb
 have m11:=cX a.1 b.1
 have m12:=cX a.1 b.2
 have m21:=cX a.2 b.1
 have m22:=cX a.2 b.2
 have hP:∀ x:Rat,rl x<=2*R->dy (2*R) (x,x):=fun x hx=>⟨hx,hx⟩
 have c0:=hP (a.1*b.1) ae
 have c1:=ad0 c0 (hP (a.1*b.2) ae)
 have c2:=ad0 c1 (hP (a.2*b.1) ae)
 obtain⟨d1,d2⟩:=c1
 obtain⟨f1,f2⟩:=c2
 refine aS Tryz.func188 ?_
 refine dG ?_
 refine cp au (iz a.1 b.1 ae) ?_
 refine cp aQ (sT (a.1*b.1) ae) ?_
 refine aqN ?_
 refine bN ?_
 refine aD ?_
 refine cr (b:=_) rfl ak ?_
 refine bD ?_
 refine a8 8 an ?_
 refine ba ?_
 refine cp au (iz a.1 b.2 ae) ?_
 refine cp aQ (sT (a.1*b.2) ae) ?_
 refine cp au (vU ((a.1*b.1),(a.1*b.1)) ((a.1*b.2),(a.1*b.2)) (by show rl (a.1*b.1)+rl (a.1*b.2)<=_;omega) (by show rl (a.1*b.1)+rl (a.1*b.2)<=_;omega)) ?_
 refine aA ?_
 refine cy (az.kill _ 7) ?_
 refine aA ?_
 refine bN ?_
 refine aD ?_
 refine cr (b:=_) rfl ak ?_
 refine bD ?_
 refine a8 8 an ?_
 refine ba ?_
 refine cp au (iz a.2 b.1 ae) ?_
 refine cp aQ (sT (a.2*b.1) ae) ?_
 refine cp au (vU (lJ ((a.1*b.1),(a.1*b.1)) ((a.1*b.2),(a.1*b.2))) ((a.2*b.1),(a.2*b.1)) (by show _+rl (a.2*b.1)<=_;omega) (by show _+rl (a.2*b.1)<=_;omega)) ?_
 refine aA ?_
 refine cy (az.kill _ 7) ?_
 refine aA ?_
 refine bN ?_
 refine aD ?_
 refine cr (b:=_) rfl ak ?_
 refine bD ?_
 refine a8 8 an ?_
 refine ba ?_
 refine cp au (iz a.2 b.2 ae) ?_
 refine cp aQ (sT (a.2*b.2) ae) ?_
 refine cp au (vU (lJ (lJ ((a.1*b.1),(a.1*b.1)) ((a.1*b.2),(a.1*b.2))) ((a.2*b.1),(a.2*b.1))) ((a.2*b.2),(a.2*b.2)) (by show _+rl (a.2*b.2)<=_;omega) (by show _+rl (a.2*b.2)<=_;omega)) ?_
 refine aA ?_
 refine cy (az.kill _ 7) ?_
 refine aA ?_
 refine bN ?_
 refine aD ?_
 refine fi (b:=_) rfl ak ?_
 refine bF ?_
 exact tO
open H0 in
theorem ai9 (s:Rat × Rat) (x:Rat) (h1:rl s.1+rl x<=549755813888) (h2:rl x+rl s.2<=549755813888):ax al 103 [aH s,ah x] (bL (il s x)):=by
 refine aS Tryz.func103 ?_
 refine bF ?_
 refine cp au (nA _ _ ae) ?_
 refine aP ?_
 refine dg 10 rfl ?_ ?_<;>intro nE qN
 ·refine aL ?_
  refine cp au (nA _ _ ae) ?_
  refine aD ?_
  rw [<-aqf nE]
  exact dW
 ·refine bI ?_
  rw [<-axl nE]
  exact dW
open gQ in
theorem aI7 (s:Rat × Rat) (R:Nat) (hR:R<=1000000000) (ha:dy R s):ax al 183 [aH s] (aH (l9 s)):=by
 obtain⟨a1,a2⟩:=ha
 have m1:=cX s.1 s.1
 have m2:=cX s.2 s.2
 have h0:rl 0=1:=rfl
 refine aS Tryz.func183 ?_
 refine aY ?_
 refine a8 12 an ?_
 refine aA ?_
 refine cp au (iz s.1 s.1 ae) ?_
 refine aA ?_
 refine cp au (iz s.2 s.2 ae) ?_
 refine cp au (ab2 (s.1*s.1) (s.2*s.2) ae) ?_
 refine bn ?_
 refine ao rfl qc ?_
 refine cp au (ai9 s 0 ae ae) ?_
 refine aP ?_
 refine aF rfl ?_ ?_<;>intro abD wS
 ·have hS:l9 s=(0,ib (s.1*s.1) (s.2*s.2)):=if_pos wS
  refine av ?_
  refine ao rfl qc ?_
  refine bD ?_
  rw [hS]
  exact tO
 ·have hS:l9 s=(iy (s.1*s.1) (s.2*s.2),ib (s.1*s.1) (s.2*s.2)):=if_neg (by rw [wS];decide)
  refine bE ?_
  rw [hS]
  exact tO
open gQ in
theorem ac5 (a b:Rat × Rat) (R:Nat) (hR:R<=100000000) (ha:dy R a) (hb:dy R b) (hz:il b 0=false):ax al 186 [aH a,aH b] (.bf [aH (uM a b),iL 0]):=by
 have ha2:=ha.le (Nat.le_succ R)
 have hrc:=avr hb
 obtain⟨y1,y2⟩:=hb
 have h0:rl 0=1:=rfl
 have eW:rl 1=1:=rfl
 have qd1:=rG 1 b.1
 have qd2:=rG 1 b.2
 have uo:ax al 107 [iL 1] (ah 1):=wV 1 ak ak
 have ri:=wu 1 b.1 ae
 have hq2:=wu 1 b.2 ae
 refine aS Tryz.func186 (ht:=(ki (cg.pure _) rfl)) ?_
 refine bF ?_
 refine ao rfl qc ?_
 refine cp au (ai9 b 0 ae ae) ?_
 refine aP ?_
 refine aF rfl ?_ ?_<;>intro ahp h13
 ·rw [hz] at ahp
  cases ahp
 ·refine aA ?_
  refine cp aQ (uo) ?_
  refine bE ?_
  refine cp au (ri) ?_
  refine dG ?_
  refine cp au (hq2) ?_
  refine bE ?_
  refine a8 5 an ?_
  refine aL ?_
  refine cp au (ab2 (1/b.1) (1/b.2) ae) ?_
  refine cp au (anO a (rcS b) (R+1) ae ha2 hrc) ?_
  refine ba ?_
  exact vA [] rfl rfl rfl (cg.aw _) (aaD _) nm (.pure (cg.pure _)) rfl (.pure rfl)
def xt (l:List Int) (k:Nat):V3:=⟨(nV l k).1,(nV l (nV l k).2).1,(nV l (nV l (nV l k).2).2).1⟩
def uN (l:List Int) (k:Nat):Nat:=(nV l (nV l (nV l k).2).2).2
theorem aqm {l:List Int} {k:Nat} (hl:l.length<=500) (hk:k<=500):uN l k<=500:=aef hl (aef hl (aef hl hk))
def dwV (l:List Int) (k:Nat):Rat:=((1+(eA l k 3).tmod 3:Int):Rat)
def dpK (l:List Int) (k:Nat):Nat:=bK l (uN l k)
theorem ajU (l:List Int) (k:Nat):1<=1+(eA l k 3).tmod 3/\1+(eA l k 3).tmod 3<=3:=by
 have h:=oT (l:=l) (k:=k) (n:=3) ak
 rw [Int.tmod_eq_emod_of_nonneg h.1]
 omega
theorem aGU (l:List Int) (k:Nat):0<dwV l k:=by
 have:=ajU l k
 exact vw.2 ae
theorem aw7 {l:List Int} {k:Nat} (hl:l.length<=500) (hk:k<=500):dpK l k<=500:=nJ hl (aqm hl hk)
def dqK (l:List Int):Nat->Nat->Nat
 | k,0=>k
 | k,c+1=>dqK l (dpK l k) c
theorem aq6 {l:List Int} (hl:l.length<=500):∀ (k c:Nat),k<=500->dqK l k c<=500
 | k,0,h=>h
 | k,c+1,h=>aq6 hl _ c (aw7 hl h)
def mA (l:List Int) (k:Nat):Rat:=((eA l k 4-2:Int):Rat)
theorem awQ (l:List Int) (k:Nat):rl (mA l k)<=1/\rl (mA l k+1)<=1:=by
 have h:=oT (l:=l) (k:=k) (n:=4) ak
 refine⟨adQ ae,?_⟩
 have e:mA l k+1=((eA l k 4-1:Int):Rat):=by
  unfold mA
  rw [show eA l k 4-1=(eA l k 4-2)+1 by omega,abj];rfl
 rw [e]
 exact adQ ae
def cD (l:List Int) (k:Nat) (n:Nat):Nat:=(1+eA l k (n:Int)).toNat
theorem akK (l:List Int) (k:Nat) {n:Nat} (hn:0<n):1<=cD l k n/\cD l k n<=n/\(cD l k n:Int)=1+eA l k (n:Int):=by
 have h:=oT (l:=l) (k:=k) (n:=(n:Int)) ae
 unfold cD
 omega
theorem avU {P:Program} {ops:Array Oper} {D:Array Bool} {L:St} {K:St->Prop} {fuel:Nat} (i j k:Nat) (o o2 o3:Oper) (hr:Region.ready .any ops D=[i,j,k]) (ho:ops[i]?=some o) (ho2:ops[j]?=some o2) (ho3:ops[k]?=some o3)
  (h:opsL P false ops [o] L (fun L'=>jl P ops fuel (D.setIfInBounds i true) L' K)) (h2:opsL P false ops [o2] L (fun L'=>jl P ops fuel (D.setIfInBounds j true) L' K)) (h3:opsL P false ops [o3] L (fun L'=>jl P ops fuel (D.setIfInBounds k true) L' K)):jl P ops (fuel+1) D L K:=by
 simp only [opsL] at h h2 h3
 refine⟨fun e=>(by rw [hr] at e;cases e),fun x hx=>?_⟩
 rw [hr] at hx
 simp only [fu,jn,or_false] at hx
 rcases hx with rfl | rfl | rfl
 ·obtain⟨L',h1,h4⟩:=h
  exact⟨o,L',ho,h1,h4⟩
 ·obtain⟨L',h1,h4⟩:=h2
  exact⟨o2,L',ho2,h1,h4⟩
 ·obtain⟨L',h1,h4⟩:=h3
  exact⟨o3,L',ho3,h1,h4⟩
theorem avk {α:Type} (n:Nat) (t:α):ay n t++[t]=ay (n+1) t:=by
 rw [List.replicate_succ']
section
variable {P:Program} {H:bW} {ρ:Operand->LV} {T:TypeId}
theorem aaW {o0 o1:Operand} {p:V3} {r:Rat} [z:ZI P T (.agg [.agg [ah 0,ah 0,ah 0],ah 0])] [s:SI P T [(9,true),(3,true)]] (h0:ρ o0=a6 p) (h1:ρ o1=ah r) :
  aE P H ρ (.build T #[(0,o0),(1,o1)]) (aW ⟨p,r⟩):=by
 have:=aE.bd (H:=H) (ρ:=ρ) (ps:=#[(0,o0),(1,o1)]) (z:=z) (s:=s) (by simp [lay,LV.aw,cU,ar.aw,ar.isAgg,tw]) (by
  intro q hq
  simp only [fu,jn,or_false] at hq
  rcases hq with rfl | rfl
  ·exact⟨_,rfl,by rw [h0];simp [lay,bo.aw,LV.aw,cU,ar.aw];rfl,by rw [h0];exact LV.fk (bo.pure _),by rw [h0];exact LV.eP (bo.pure _)⟩
  ·exact⟨_,rfl,by rw [h1];simp [lay,ar.aw,ar.isAgg],by rw [h1];exact LV.fk (ar.pure _),by rw [h1];exact LV.eP (ar.pure _)⟩)
 simp only [jR,sW,tn,uY,h0,h1] at this
 exact this
end
theorem aIg {P:Program} {L:St} {a:Nat} {T:TypeId} {b sz:Nat} {x y:LV} {m:Bool} {n:Nat} {ag:Bool} {blk:bh} (bs:List Nat) (h0:bs.contains 0=false) (h:L.slot a=.aB b sz 0 0) (hb:L.heap b=some ⟨sz,[x],m⟩)
  (hx:x.aw=sz) (cj:x.at 0 n ag=some x) (hT:bC P T n ag) (hi:cV (L.b9 bs).heap x y) (hc:(L.b9 bs).heap 0=some blk) (hm:blk.mt=true) (hp:aN blk.vals=true):yQ P [.cell a T] L y blk :=
 ⟨[x],[y],(L.b9 bs).heap,.cons ⟨b,sz,0,0,_,x,n,ag,h,hb,rfl,rfl,hx,cj,hT⟩ .nil,sw bs h0,.cons (.cE hi) .nil,hc,hm,hp,rfl⟩
namespace ak7
theorem aM {p q:Prop} (k:q) (e:p=q:=by simp only [e1,e2,e3,e4,p1,p2,p3,q1,q2,q3,l1,t0,t1,r1,r2,r3,r4,Nat.zero_add,Nat.reduceMul,Nat.reduceAdd,b1,b2,b3,b4,b5,b6,i1,i2,i3,i4,i5,i6,Nat.reduceBEq,l1,List.set_cons_zero,List.set_cons_succ,Nat.reduceEqDiff,reduceIte,if_true,if_false,eN,fb,aV bH,aV ar,cY,et,LV.kill,b7,af7];exact rfl):p:=e.mpr k
end ak7
open ak7 in
theorem aFd (l:List Int) (k:Nat) (hl:l.length<=500) (hk:k<=500):nc al 145 ⟨2,[jv l k],true⟩ [.aB 0 2 0 0] (a6 (xt l k)) ⟨2,[jv l (uN l k)],true⟩:=by
 have k1:=aef (l:=l) hl hk
 have k2:=aef (l:=l) hl k1
 refine xn Tryz.func145 ?_
 refine bn ?_
 refine lE 0 rfl rfl rfl (dv l _) (.cons .ptr .nil) .ptr (akB l k ae ae) rfl (dv l _) (ar.pure _) ?_
 refine av ?_
 refine lE 0 rfl rfl rfl (dv l _) (.cons .ptr .nil) .ptr (akB l (nV l k).2 ae ae) rfl (dv l _) (ar.pure _) ?_
 refine av ?_
 refine lE 0 rfl rfl rfl (dv l _) (.cons .ptr .nil) .ptr (akB l (nV l (nV l k).2).2 ae ae) rfl (dv l _) (ar.pure _) ?_
 refine ba ?_
 exact ag0 rfl rfl cs (dS cs rfl) ju (.pure pu) rfl rfl (dv l _)
theorem x8 {a b:List Rat} {i:Nat} (h:i<a.length):(a++b).getD i 0=a.getD i 0:=by
 rw [bz,bz,aaz h]
theorem yK {a b:List Rat} {i:Nat} (h:a.length<=i):(a++b).getD i 0=b.getD (i-a.length) 0:=by
 rw [bz,bz,aeM h]
theorem u5 {n i:Nat} {T:Rat} (h:i<n):(ay n T).getD i 0=T:=by
 rw [bz,cq mW];simp
theorem aoN (a b:List Rat) (t:Rat):∀ i,i<=a.length->gu (a++b) t i=gu a t i
 | 0,_=>rfl
 | i+1,h=>by rw [gu,gu,aoN a b t i ae,x8 ae]
theorem agw (a b:List Rat) (t:Rat):∀ i,gu (a++b) t (a.length+i)=gu a t a.length+gu b t i
 | 0=>by rw [mf,aoN _ _ _ _ (bp _)];rfl
 | i+1=>by
  rw [<-ph,gu,agw a b t i,gu,yK ae,aon];omega
theorem afr (n:Nat) (T t:Rat):∀ i,i<=n->gu (ay n T) t i=if T=t then i else 0
 | 0,_=>by split<;>rfl
 | i+1,h=>by
  rw [gu,afr n T t i ae,u5 ae]
  split<;>rfl
theorem aCQ {P:Program} {L:St} {a u v:Nat} {T U:TypeId} {b c sz sy:Nat} {x y x' y' z z':LV} {m m':Bool} {n n':Nat} {ag ag':Bool} (bs:List Nat) (h0:bs.contains 0=false) (h:L.slot a=.aB b sz 0 0) (hb:L.heap b=some ⟨sz,[x],m⟩)
  (hx:x.aw=sz) (cj:x.at 0 n ag=some x) (hT:bC P T n ag) (hi:cV (L.b9 bs).heap x y) (h':L.slot u=.aB c sy 0 0) (hc:L.heap c=some ⟨sy,[x'],m'⟩)
  (hx':x'.aw=sy) (aky:x'.at 0 n' ag'=some x') (hT':bC P U n' ag') (nw:cV (L.b9 bs).heap x' y') (hz:L.slot v=z) (hiz:cV (L.b9 bs).heap z z'):pn P [.cell a T,.cell u U,.tmp v] L (.bf [y,y',z']) [] :=
 ⟨[x,x',z],[y,y',z'],(L.b9 bs).heap,[],.cons ⟨b,sz,0,0,_,x,n,ag,h,hb,rfl,rfl,hx,cj,hT⟩ (.cons ⟨c,sy,0,0,_,x',n',ag',h',hc,rfl,rfl,hx',aky,hT'⟩ (.cons hz .nil)),sw bs h0,.cons (.cE hi) (.cons (.cE nw) (.cons (.cE hiz) .nil)),zq,rfl,fun k b h=>by simp at h,rfl⟩
theorem ahx {p:List Rat} {x:Rat} (hl:p.length<=10) (hp:∀ y∈p,rl y<=700000) (hx:rl x<=100000):HS p x:=by
 have h1:=jm 1 x
 have h0:rl 1=1:=rfl
 refine⟨rl (1-x)+rl x+1,bp _,ae,fun y hy=>?_⟩
 have h2:=hp y hy
 have h3:2 ^ p.length<=2 ^ 10:=lO ak hl
 have h4:(rl y+(rl (1-x)+rl x+1))*2 ^ p.length<=1000000*2 ^ 10:=nz ae h3
 omega
open H0 in
theorem alZ (s:Rat × Rat) (h:rl s.2+rl s.1<=549755813888):ax al 164 [aH s] (ah (s.2-s.1)):=by
 refine aS Tryz.func164 ?_
 refine bF ?_
 refine cp au (rN s.2 s.1 h) ?_
 refine aA ?_
 exact gr
section
variable {P:Program} {H:bW} {ρ:Operand->LV} {T E:TypeId}
theorem bdW {o1:Operand} {r:Rat} [z:ZI P T (.agg [.agg [ah 0,ah 0,ah 0],ah 0])] [s:SI P T [(9,true),(3,true)]] (h1:ρ o1=ah r) :
  aE P H ρ (.build T #[(1,o1)]) (aW ⟨⟨0,0,0⟩,r⟩):=by
 have:=aE.bd (H:=H) (ρ:=ρ) (ps:=#[(1,o1)]) (z:=z) (s:=s) (by simp [lay,LV.aw,cU,ar.aw,ar.isAgg,tw]) (by
  intro q hq
  simp only [fu,jn,or_false] at hq
  subst hq
  exact⟨_,rfl,by rw [h1];simp [lay,ar.aw,ar.isAgg],by rw [h1];exact LV.fk (ar.pure _),by rw [h1];exact LV.eP (ar.pure _)⟩)
 simp only [jR,sW,tn,uY,h1] at this
 exact this
theorem anZ {o0 o1:Operand} {a b:Rat} [u:UN P T (.array 3 E)] [t:TI P E 3 true] [z:ZI P T (.agg [ah 0,ah 0,ah 0])] (h0:ρ o0=ah a) (h1:ρ o1=ah b):aE P H ρ (.build T #[(0,o0),(1,o1)]) (a6 ⟨a,b,0⟩):=by
 have:=aE.yR (H:=H) (ρ:=ρ) (ps:=#[(0,o0),(1,o1)]) (u:=u) (t:=t) (z:=z) (by simp [lay,ar.aw,ar.isAgg]) (by
  intro q hq
  simp only [fu,jn,or_false] at hq
  rcases hq with rfl | rfl
  ·exact ai1
  ·exact⟨_,rfl,by rw [h1];simp [lay,ar.aw,ar.isAgg],by rw [h1];exact LV.fk (ar.pure _),by rw [h1];exact LV.eP (ar.pure _)⟩)
 simp only [jR,sW,tn,uY,h0,h1] at this
 exact this
end
open gQ in
theorem aAf :ax al 73 [iL 0] (a6 ⟨1,0,0⟩):=by
 have h1:ax al 13 [iL 1] (ah 1):=rF 1 ak ak
 refine aS aoh (ht:=(fun r=>LV.df r _ (bo.pure _))) ?_
 refine dG ?_
 refine cp aQ (h1) ?_
 refine bD ?_
 exact tj
open gQ in
theorem azA :ax al 73 [iL 1] (a6 ⟨0,1,0⟩):=by
 have h1:ax al 13 [iL 1] (ah 1):=rF 1 ak ak
 refine aS aoh (ht:=(fun r=>LV.df r _ (bo.pure _))) ?_
 refine dG ?_
 refine cp aQ (h1) ?_
 refine bD ?_
 exact tj
theorem aBi {P:Program} {H:bW} {ρ:Operand->LV} {T E:TypeId} [u:UN P T (.array 3 E)] [t:TI P E 3 true] [z:ZI P T (.agg [ah 0,ah 0,ah 0])]:aE P H ρ (.build T #[]) (a6 ⟨0,0,0⟩) :=
 aE.yR (H:=H) (ρ:=ρ) (ps:=#[]) (u:=u) (t:=t) (z:=z) (by simp [lay,ar.aw,ar.isAgg]) (fun q hq=>by simp at hq)
theorem aDX {p:List Rat} (h:0<p.length):(eF p).1<=(eF p).2:=by
 have:=(aeg p p.length).1 0 h
 exact fe this.1 this.2
theorem sq_pos {s:Rat × Rat} (h:0<s.1) (h2:s.1<=s.2):l9 s=(s.1*s.1,s.2*s.2)/\il (l9 s) 0=false:=by
 have hn:il s 0=false:=by unfold il;rw [decide_eq_false cG];rfl
 have hm:s.1*s.1<=s.2*s.2:=fe (ux h2 (gR h)) (oA h2 cG)
 have hp:=aaa h h
 have e:l9 s=(s.1*s.1,s.2*s.2):=by
  unfold l9
  rw [if_neg (by rw [hn];decide)]
  unfold iy ib
  rw [if_neg cG]
  split
  ·rfl
  ·have:s.1*s.1=s.2*s.2:=by grind
   rw [this]
 refine⟨e,?_⟩
 rw [e]
 unfold il
 rw [decide_eq_false (by show ¬(s.1*s.1<=0);grind)];rfl
def spK (po:List aK) (k:Nat):Rat × Rat:=w9 (uM (eF (fA po k)) (l9 (eF (aO po)))) (1,1)
def spd (po:List aK):qt:=⟨spK po 0,spK po 1,spK po 2⟩
section
variable {po:List aK} {d:Nat} (h:nR po d)
include h
end
def ia (s:Rat × Rat) (n:Int):Rat:=s.1+nU n*(s.2-s.1)
open gQ in
theorem ahR (s:Rat × Rat) (n:Int) (R:Nat) (hR:R<=1000000) (hs:dy R s) (hn:-9223372036854775808<=n/\n<=9223372036854775807):ax al 18 [aH s,iL n] (ah (ia s n)):=by
 obtain⟨a1,a2⟩:=hs
 have hp:=anA n
 have m1:=jm s.2 s.1
 have m2:=cX (nU n) (s.2-s.1)
 refine aS Tryz.func18 ?_
 refine aY ?_
 refine a8 11 an ?_
 refine aL ?_
 refine cp aQ (ays n hn) ?_
 refine aA ?_
 refine cp au (aaU s.2 s.1 ae) ?_
 refine cp au (uD (nU n) (s.2-s.1) ae) ?_
 refine cp au (pT s.1 (nU n*(s.2-s.1)) ae) ?_
 refine aA ?_
 exact gr
def fv (k:List Rat) (at_:Nat) (t:Rat):Nat->Nat->Rat
 | 0,i=>if i=at_ then 1 else 0
 | d+1,i=>if at_<i\/i+(d+1)<at_ then 0 else
   (t-k.getD i 0)/(k.getD (i+(d+1)) 0-k.getD i 0)*fv k at_ t d i+(k.getD (i+(d+1)+1) 0-t)/(k.getD (i+(d+1)+1) 0-k.getD (i+1) 0)*fv k at_ t d (i+1)
theorem ai3 {a b c d:Rat} {R:Nat} (ha:rl a<=R) (hb:rl b<=R) (hc:rl c<=R) (hd:rl d<=R):rl (a-b)<=2*R+1/\rl (c-d)<=2*R+1/\rl ((a-b)/(c-d))<=4*R+2:=by
 have h1:=jm a b
 have h2:=jm c d
 have h3:=rG (a-b) (c-d)
 exact⟨ae,ae,ae⟩
theorem aeR {k:List Rat} {at_:Nat} {t:Rat} {R:Nat} (hR:3<=R) (hk:∀ x∈k,rl x<=R) (ht:rl t<=R):∀ d i,rl (fv k at_ t d i)<=(10*R)*2 ^ d-(8*R+5)
 | 0,i=>by
  rw [fv];split
  ·show 1<=_;rw [acg];omega
  ·show 1<=_;rw [acg];omega
 | d+1,i=>by
  have g:∀ j,rl (k.getD j 0)<=R:=iG ae hk
  have a1:=aeR (at_:=at_) hR hk ht d i
  have a2:=aeR (at_:=at_) hR hk ht d (i+1)
  have p1:=(ai3 ht (g i) (g (i+(d+1))) (g i)).2.2
  have p2:=(ai3 (g (i+(d+1)+1)) ht (g (i+(d+1)+1)) (g (i+1))).2.2
  have h2:2 ^ (d+1)=2*2 ^ d:=by rw [jg];omega
  have h1:1<=2 ^ d:=Nat.one_le_two_pow
  have hm:(10*R)*2 ^ (d+1)=2*((10*R)*2 ^ d):=by rw [h2];rw [Nat.mul_left_comm]
  have eO:10*R<=(10*R)*2 ^ d:=arM _ ae
  rw [fv]
  split
  ·show 1<=_;rw [hm];omega
  ·have m1:=cX ((t-k.getD i 0)/(k.getD (i+(d+1)) 0-k.getD i 0)) (fv k at_ t d i)
   have m2:=cX ((k.getD (i+(d+1)+1) 0-t)/(k.getD (i+(d+1)+1) 0-k.getD (i+1) 0)) (fv k at_ t d (i+1))
   have s1:=kC ((t-k.getD i 0)/(k.getD (i+(d+1)) 0-k.getD i 0)*fv k at_ t d i) ((k.getD (i+(d+1)+1) 0-t)/(k.getD (i+(d+1)+1) 0-k.getD (i+1) 0)*fv k at_ t d (i+1))
   rw [hm]
   omega
def jd (po:List aK) (x:Rat):V3:=jY (1/aG (aO po) x) ⟨aG (bc po 0) x,aG (bc po 1) x,aG (bc po 2) x⟩
theorem zR {po:List aK} {k i:Nat} (h:i<po.length):(bc po k).getD i 0=(po.getD i default).w*(po.getD i default).p.at k:=by
 unfold bc
 rw [bz,iV,cq h,bz,cq h];rfl
theorem abl {po:List aK} {i:Nat} (h:i<po.length):(aO po).getD i 0=(po.getD i default).w:=by
 unfold aO
 rw [bz,iV,cq h,bz,cq h];rfl
theorem aac {a b c:Nat} (h:a=b+c) (h2:a<=9223372036854775807):dL .sub .i64 (a:Nat) (b:Nat)=some (.int .i64 ((c:Nat):Int)):=by
 rw [aau ae ae];congr 2;omega
theorem apD {f:Nat->Rat} {R:Nat} (hR:1<=R):∀ n,(∀ i,i<n->rl (f i)<=R)->rl (sm n f)<=1+n*(R+1)
 | 0,_=>by show 1<=_;omega
 | n+1,h=>by
  have h1:=apD hR n (fun i hi=>h i ae)
  have h2:=h n ae
  have h3:=kC (sm n f) (f n)
  rw [sm,vH];omega
open H0 in
theorem apc (a b:Rat) (h:rl a+rl b<=1000000):ax al 274 [ah a,ah b] (ah (a/b)):=by
 refine aS Tryz.func274 ?_
 refine bD ?_
 refine cp au (awM a b ae) ?_
 refine iI ?_
 exact gr
open anf in
theorem aAu (k:List Rat) (at_:Nat) (t:Rat) (hl:k.length<=1000) (cj:at_<=1000) (hk:∀ x∈k,rl x<=1000) (ht:rl t<=1000) (i:Nat):ax al 232 [.list 3 (k.map ah),ai i,iL 0,ai at_,ah t] (ah (fv k at_ t 0 i)):=by
 have uo:ax al 13 [iL 1] (ah 1):=rF 1 ak ak
 refine aS are ?_
 refine dG ?_
 refine aF rfl ?_ ?_<;>intro rA lW
 ·refine bn ?_
  refine aF rfl ?_ ?_<;>intro abD wS
  ·have hV:fv k at_ t 0 i=1:=by rw [fv,if_pos ae]
   refine aP ?_
   refine cp aQ (uo) ?_
   refine aD ?_
   rw [hV]
   exact gr
  ·have hV:fv k at_ t 0 i=0:=by rw [fv,if_neg ae]
   refine aA ?_
   refine ao rfl qc ?_
   refine ba ?_
   rw [hV]
   exact gr
 ·first | exact absurd rA ak | cases rA | exact absurd rfl lW
namespace apa
theorem aM {p q:Prop} (k:q) (e:p=q:=by simp only [e1,e2,e3,e4,p1,p2,p3,q1,q2,q3,l1,t0,t1,r1,r2,r3,r4,Nat.zero_add,Nat.reduceMul,Nat.reduceAdd,b1,b2,b3,b4,b5,b6,i1,i2,i3,i4,i5,i6,Nat.reduceBEq,cN,eia,eib,eic,List.set_cons_zero,List.set_cons_succ,Nat.reduceEqDiff,reduceIte,if_true,if_false,eN,fb,aV bo,aV bH,aV ar,cY,et,LV.kill,b7];exact rfl):p:=e.mpr k
end apa
open apa in
theorem aBP (k:List Rat) (at_:Nat) (t:Rat) (hl:k.length<=1000) (cj:at_<=1000) (hk:∀ x∈k,rl x<=1000) (ht:rl t<=1000) (d:Nat) (hd:d+1<=7) (ih:∀ i,i+d+1<k.length->ax al 232 [.list 3 (k.map ah),ai i,ai d,ai at_,ah t] (ah (fv k at_ t d i))) (i:Nat) (hi:i+(d+1)+1<k.length):ax al 232 [.list 3 (k.map ah),ai i,ai (d+1),ai at_,ah t] (ah (fv k at_ t (d+1) i)):=by
 have g:∀ j,rl (k.getD j 0)<=1000:=iG ak hk
 have pp1:=ai3 ht (g i) (g (i+(d+1))) (g i)
 have pp2:=ai3 (g (i+(d+1)+1)) ht (g (i+(d+1)+1)) (g (i+1))
 have nq1:=aeR (at_:=at_) ak hk ht d i
 have nq2:=aeR (at_:=at_) ak hk ht d (i+1)
 have hpw:2 ^ d<=2 ^ 6:=lO ak ae
 have m1:=cX ((t-k.getD i 0)/(k.getD (i+(d+1)) 0-k.getD i 0)) (fv k at_ t d i)
 have m2:=cX ((k.getD (i+(d+1)+1) 0-t)/(k.getD (i+(d+1)+1) 0-k.getD (i+1) 0)) (fv k at_ t d (i+1))
 have uL:=ih i ae
 have mJ:=ih (i+1) ae
 refine aS are ?_
 have eia:True:=trivial
 have eib:True:=trivial
 have eic:True:=trivial
 refine dG ?_
 refine aF rfl ?_ ?_<;>intro rA lW
 ·omega
 ·refine bE ?_
  refine dg 23 rfl ?_ ?_<;>intro td rD
  ·have hV:fv k at_ t (d+1) i=0:=by rw [fv,if_pos ae]
   refine bD ?_
   refine ao rfl qc ?_
   refine ba ?_
   rw [hV]
   exact gr
  ·refine aL ?_
   refine ao (bg (v:=false) rfl rfl (td) rfl) (.bin rfl rfl (wI ae)) ?_
   refine aA ?_
   refine aF rfl ?_ ?_<;>intro abw h29
   ·have hV:fv k at_ t (d+1) i=0:=by rw [fv,if_pos ae]
    refine aP ?_
    refine ao rfl qc ?_
    refine ba ?_
    rw [hV]
    exact gr
   ·have hV:fv k at_ t (d+1) i=(t-k.getD i 0)/(k.getD (i+(d+1)) 0-k.getD i 0)*fv k at_ t d i+(k.getD (i+(d+1)+1) 0-t)/(k.getD (i+(d+1)+1) 0-k.getD (i+1) 0)*fv k at_ t d (i+1):=by rw [fv,if_neg ae]
    refine aL ?_
    refine a8 19 an ?_
    refine ba ?_
    refine cp au (aaU t (k.getD i 0) (by have:=g i;omega)) ?_
    refine aL ?_
    refine ao rfl zg ?_
    refine aD ?_
    refine cp au (aaU (k.getD (i+(d+1)) 0) (k.getD i 0) (by have:=g i;have:=g (i+(d+1));omega)) ?_
    refine cp au (apc (t-k.getD i 0) (k.getD (i+(d+1)) 0-k.getD i 0) ae) ?_
    refine ba ?_
    refine a8 24 an ?_
    refine aL ?_
    refine ao rfl zg ?_
    refine ao rfl cM ?_
    refine aL ?_
    refine cp au (aaU (k.getD (i+(d+1)+1) 0) t (by have:=g (i+(d+1)+1);omega)) ?_
    refine aL ?_
    refine ao rfl zg ?_
    refine ao rfl cM ?_
    refine aA ?_
    refine ao rfl cM ?_
    refine aP ?_
    refine cp au (aaU (k.getD (i+(d+1)+1) 0) (k.getD (i+1) 0) (by have:=g (i+1);have:=g (i+(d+1)+1);omega)) ?_
    refine cp au (apc (k.getD (i+(d+1)+1) 0-t) (k.getD (i+(d+1)+1) 0-k.getD (i+1) 0) ae) ?_
    refine ba ?_
    refine a8 20 an ?_
    refine aA ?_
    refine ao rfl kL ?_
    refine aP ?_
    refine cp am5 (uL) ?_
    refine cp au (uD _ (fv k at_ t d i) ae) ?_
    refine aL ?_
    refine ao rfl cM ?_
    refine av ?_
    refine ao rfl kL ?_
    refine aP ?_
    refine cp am5 (mJ) ?_
    refine cp au (uD _ (fv k at_ t d (i+1)) ae) ?_
    refine cp au (pT _ _ ae) ?_
    refine aA ?_
    rw [hV]
    exact gr
theorem awP (k:List Rat) (at_:Nat) (t:Rat) (hl:k.length<=1000) (cj:at_<=1000) (hk:∀ x∈k,rl x<=1000) (ht:rl t<=1000):∀ (d:Nat) (hd:d<=7) (i:Nat) (hi:i+d+1<k.length),ax al 232 [.list 3 (k.map ah),ai i,ai d,ai at_,ah t] (ah (fv k at_ t d i))
 | 0,_,i,_=>aAu k at_ t hl cj hk ht i
 | d+1,hd,i,hi=>aBP k at_ t hl cj hk ht d hd (fun i hi=>awP k at_ t hl cj hk ht d ae i hi) i ae
namespace asQ
theorem aM {p q:Prop} (k:q) (e:p=q:=by simp only [e1,e2,e3,e4,p1,p2,p3,q1,q2,q3,l1,t0,t1,r1,r2,r3,r4,Nat.zero_add,Nat.reduceMul,Nat.reduceAdd,b1,b2,b3,b4,b5,b6,i1,i2,i3,i4,i5,i6,Nat.reduceBEq,Nat.sub_zero,Nat.add_zero,hln,hls,hcA,hcB,hcC,hcD,Nat.reduceEqDiff,reduceIte,if_true,if_false,aV ar,cY,LV.kill,b7];exact rfl):p:=e.mpr k
end asQ
open asQ in
theorem aIe (k:List Rat) (i:Nat) (t:Rat) (cp:Nat) (hi:i<k.length) (gJ:k.length<=cp) (hl:k.length<=1000):aaE al 240 ⟨3,[ah t],true⟩ ⟨3,(k.map ah),true⟩ [.ka 1 3 0 k.length cp,ai i,.ref 0 3 0 1] (.ref 1 3 0 (k.length+1)) ⟨3,[ah t],true⟩ [⟨3,((k.take i++t :: k.drop i).map ah),true⟩]:=by
 have zW:(k.map ah).length=k.length:=List.length_map _
 have hln:i+(k.length+1-i)=k.length+1:=by omega
 have hls:k.length+1-(i+1)=k.length-i:=by omega
 have wE:(ay (k.length+1-i) (ah 0))=ah 0 :: ay (k.length-i) (ah 0):=by rw [show k.length+1-i=(k.length-i)+1 by omega,List.replicate_succ]
 have hti:((k.map ah).take i).length=i:=by rw [eG,zW];omega
 have hcA:((k.map ah).take i++(ay (k.length+1-i) (ah 0))).take i++[ah t]++((k.map ah).take i++(ay (k.length+1-i) (ah 0))).drop (i+[ah t].length)=((k.map ah).take i++ah t :: ay (k.length-i) (ah 0)):=by
  rw [wE,afO hti,<-qy,acb hti]
  simp
 have mM:((k.map ah).drop i).length=k.length-i:=by rw [List.length_drop,zW]
 have hcB:((k.map ah).take i++ah t :: ay (k.length-i) (ah 0)).take (i+1)++((k.map ah).drop i)++((k.map ah).take i++ah t :: ay (k.length-i) (ah 0)).drop (i+1+((k.map ah).drop i).length)=((k.take i++t :: k.drop i).map ah):=by
  have e1x:((k.map ah).take i++ah t :: ay (k.length-i) (ah 0))=((k.map ah).take i++[ah t])++ay (k.length-i) (ah 0):=by simp
  have h1:((k.map ah).take i++[ah t]).length=i+1:=by simp [hti]
  rw [e1x,afO h1,<-qy,acb h1,mM,jQ (l:=ay (k.length-i) (ah 0)) aT]
  simp
 have hdE:(k.map ah).drop (i+1+((k.map ah).drop i).length)=[]:=jQ (by rw [mM,zW];omega)
 have hcC:(k.map ah).take (i+1)++((k.map ah).drop i)++(k.map ah).drop (i+1+((k.map ah).drop i).length)=(k.map ah).take (i+1)++((k.map ah).drop i):=by rw [hdE,mV]
 have hcD:((k.map ah).take (i+1)++((k.map ah).drop i)).take i++[ah t]++((k.map ah).take (i+1)++((k.map ah).drop i)).drop (i+[ah t].length)=((k.take i++t :: k.drop i).map ah):=by
  have h1:((k.map ah).take (i+1)).length=i+1:=by rw [eG,zW];omega
  rw [List.take_append_of_le_length ae,List.take_take,lL ae]
  rw [show i+[ah t].length=i+1 from rfl,acb h1]
  simp
 have rH:aN ((k.take i++t :: k.drop i).map ah)=true:=a7 ar _
 refine fnC Tryz.func240 ?_
 refine bE ?_
 refine ao rfl (.adV (a:=i) (h:=k.length) rfl dE cZ (fun y hy=>by cases hy;exact⟨_,rfl⟩) (fun h=>by cases h) (fun y hy=>by cases hy) (fun _=>rfl) ae ae ae) ?_
 refine nZ ?_
 refine fi (b:=_) rfl (rfl) ?_
 refine jw ?_
 refine fi (b:=_) rfl (beq_eq_false_iff_ne.2 ae) ?_
 refine aY ?_
 refine ao rfl (.bin rfl rfl (wI (a:=k.length) (b:=1) ae)) ?_
 refine av ?_
 refine ao rfl (.aeb rfl rfl UN.h) ?_
 refine aL ?_
 refine aF rfl ?_ ?_<;>intro ams h31
 ·refine aA ?_
  refine ao rfl (.adV (a:=0) (h:=i) rfl dE cZ (fun y hy=>by cases hy) (fun _=>rfl) (fun y hy=>by cases hy;exact⟨_,rfl⟩) (fun h=>by cases h) ae ae ae) ?_
  refine aP ?_
  refine ao rfl (.bin rfl rfl (wI (a:=k.length) (b:=1) ae)) ?_
  refine av ?_
  refine ao rfl (.bin rfl rfl (aac (a:=k.length+1) (b:=i) (c:=k.length+1-i) ae ae)) ?_
  refine at4 rfl rfl (.af6 (d:=40) (n:=k.length+1-i) (len:=i) (cp:=cp) (b:=1) (sz:=3) (z:=ah 0) (blk:=⟨3,(k.map ah),true⟩) dE Tryz.underlying3 (qi ▸ lU) (by rw [ar.isAgg];exact cZ) (ar.aw 0) mj rfl rfl rfl (by rw [zW];omega) rfl rfl ae ak ae ae) ?_
  refine aY ?_
  try refine aM ?_
  refine ao rfl ajL ?_
  refine av ?_
  try refine aM ?_
  refine bU rfl (.ac3 (b:=40) (sz:=3) (off:=i) (n1:=k.length+1-i) (c:=0) (off2:=0) (n2:=1) (news:=[ah t]) rfl rfl rfl rfl (by rw [k5,hti];omega) dE dE cZ rfl rfl rfl (by show 1=min _ _;rw [lL ae]) (auB) (bp 1) rfl) ?_
  refine aL ?_
  refine aCb 8 an (az.aol (t:=0) rfl) ?_
  try refine aM ?_
  refine aL ?_
  refine ao rfl (.bin rfl rfl (wI (a:=i) (b:=1) ae)) ?_
  refine ao rfl ajV ?_
  refine aP ?_
  refine ao rfl (.wk (a:=i) (h:=k.length) rfl dE cZ (fun y hy=>by cases hy;exact⟨_,rfl⟩) (fun h=>by cases h) (fun y hy=>by cases hy) (fun _=>rfl) om om om) ?_
  try refine aM ?_
  refine bU rfl (.ac3 (b:=40) (sz:=3) (off:=i+1) (n1:=k.length-i) (c:=1) (off2:=i) (n2:=k.length-i) (news:=((k.map ah).drop i)) rfl rfl rfl rfl (by rw [k5,hti,List.length_cons,List.length_replicate];omega) dE dE cZ rfl rfl rfl (by show _=min _ _;rw [mM,Nat.min_self]) (by rw [mM];omega) (by rw [mM,zW];omega) (nn).symm) ?_
  refine bI ?_
  refine⟨_,az.kill _ 1,?_⟩
  try refine aM ?_
  exact ao9 rfl rfl rfl (by simp [aN,ar.pure]) ak aT rfl rH
 ·refine aY ?_
  refine ao rfl (.bin rfl rfl (wI (a:=k.length) (b:=1) ae)) ?_
  refine ao rfl (.adV (a:=0) (h:=k.length+1) rfl dE cZ (fun y hy=>by cases hy) (fun _=>rfl) (fun y hy=>by cases hy;exact⟨_,rfl⟩) (fun h=>by cases h) ae ae ae) ?_
  refine ba ?_
  refine cy (az.aol (t:=0) rfl) ?_
  try refine aM ?_
  refine aA ?_
  refine ao rfl (.bin rfl rfl (wI (a:=i) (b:=1) ae)) ?_
  refine ao rfl ajV ?_
  try refine aM ?_
  refine at4 rfl rfl (.ovl (ag:=true) Tryz.func278 rfl rfl rfl rfl dE cZ rfl rfl ak ak ae ak) ?_
  refine aL ?_
  refine cr (b:=_) rfl (rfl) ?_
  refine av ?_
  refine a8 8 an ?_
  refine aL ?_
  refine ao rfl (.bin rfl rfl (wI (a:=i) (b:=1) ae)) ?_
  refine ao rfl ajV ?_
  refine aP ?_
  refine ao rfl ajL ?_
  try refine aM ?_
  refine bU rfl (.ac3 (b:=1) (sz:=3) (off:=i+1) (n1:=k.length-i) (c:=1) (off2:=i) (n2:=k.length+1-i) (news:=((k.map ah).drop i)) rfl rfl rfl rfl (by rw [zW];omega) dE dE cZ rfl rfl rfl (by show _=min _ _;rw [mM,Nat.min_eq_right ae]) (by rw [mM];omega) (by rw [mM,zW];omega) (nn).symm) ?_
  refine aD ?_
  refine ao rfl ajL ?_
  refine av ?_
  try refine aM ?_
  refine bU rfl (.ac3 (b:=1) (sz:=3) (off:=i) (n1:=k.length+1-i) (c:=0) (off2:=0) (n2:=1) (news:=[ah t]) rfl rfl rfl rfl (by rw [k5,eG,zW,mM];omega) dE dE cZ rfl rfl rfl (by show 1=min _ _;rw [lL ae]) (auB) (bp 1) rfl) ?_
  refine bI ?_
  refine⟨_,az.refl _,?_⟩
  try refine aM ?_
  exact ao9 rfl rfl rfl (by simp [aN,ar.pure]) ak aT rfl rH
theorem aFJ (k:List Rat) (i:Nat) (t:Rat) (hi:i<k.length) (hl:k.length<=1000) :
  aaE al 240 ⟨3,[ah t],true⟩ ⟨3,(k.map ah),true⟩ [.ref 1 3 0 k.length,ai i,.ref 0 3 0 1] (.ref 1 3 0 (k.length+1)) ⟨3,[ah t],true⟩ [⟨3,((k.take i++t :: k.drop i).map ah),true⟩] :=
 ayV ae fun cp h=>aIe k i t cp hi h hl
theorem fy0 (bs:List Nat):yq bs []=[]:=rfl
theorem fyc (bs:List Nat) (c:Nat) (y:bh) (l:List (Nat × bh)):yq bs ((c,y) :: l)=(c,⟨y.sz,y.vals,y.mt && !bs.contains c⟩) :: yq bs l:=rfl
theorem aIa {l:List (Nat × bh)} {c:Nat} (h:∀ x∈l.map (·.1),x≠c):hp l c=none:=by
 induction l with
 | nil=>rfl
 | cons q t ih =>
  obtain⟨d,y⟩:=q
  have e:Nat.beq c d=false:=by
   rw [<-Bool.not_eq_true,Nat.beq_eq]
   exact fun e=>h d aT e.symm
  simp only [hp,e,cond_false]
  exact ih fun x hx=>h x (by simp only [List.map_cons,fu];exact .inr hx)
theorem aCi (x:Rat):∃ n:Nat,x<((n:Int):Rat):=by
 refine⟨(x.floor+1).toNat,?_⟩
 have h:=Rat.lt_floor_add_one x
 have h2:x.floor+1<=(((x.floor+1).toNat:Nat):Int):=by omega
 have h3:((x.floor+1:Int):Rat)<=((((x.floor+1).toNat:Nat):Int):Rat):=adk.2 h2
 have h4:((x.floor+1:Int):Rat)=(x.floor:Rat)+1:=by rw [abj];rfl
 grind
theorem mvi {g:Rat->Rat} {a b m C:Rat} (cL:a<=b) (h:∀ s d,a<=s->0<=d->s+d<=b->g s+(m*d-C*(d*d))<=g (s+d)):g a+m*(b-a)<=g b:=by
 have steps:∀ n:Nat,0<n->g a+m*(b-a)-C*((b-a)*(b-a))/((n:Int):Rat)<=g b:=by
  intro n hn
  have hn':(0:Rat)<((n:Int):Rat):=vw.2 ae
  obtain⟨N,hN⟩:∃ N:Rat,N=((n:Int):Rat):=⟨_,rfl⟩
  rw [<-hN] at hn' ⊢
  obtain⟨d,hd⟩:∃ d:Rat,d=(b-a)/N:=⟨_,rfl⟩
  have hdN:N*d=b-a:=by rw [hd];grind
  have jD:0<=d:=by
   rw [hd,jo]
   exact ix cG (gR (aio.2 hn'))
  have key:∀ k:Nat,k<=n->g a+((k:Int):Rat)*(m*d-C*(d*d))<=g (a+((k:Int):Rat)*d):=by
   intro k
   induction k with
   | zero =>
    intro _
    have e1:g a+(((0:Nat):Int):Rat)*(m*d-C*(d*d))=g a:=by simp [ks,vr]
    have e2:a+(((0:Nat):Int):Rat)*d=a:=by simp [ks,vr]
    rw [e1,e2];exact gg
   | succ k ih =>
    intro hk
    have h1:=ih ae
    have hkc:(((k+1:Nat):Int):Rat)=((k:Int):Rat)+1:=by push_cast;rfl
    have kZ:(0:Rat)<=((k:Int):Rat):=zK.2 ae
    have hkn:(((k+1:Nat):Int):Rat)<=N:=by rw [hN];exact adk.2 ae
    have h2:=h (a+((k:Int):Rat)*d) d (by have:=ix kZ jD;grind) jD (by
     have:=oA hkn jD
     rw [hkc] at this;grind)
    rw [hkc]
    have e:a+((k:Int):Rat)*d+d=a+(((k:Int):Rat)+1)*d:=by grind
    rw [e] at h2
    grind
  have:=key n (bp _)
  rw [<-hN] at this
  have e1:a+N*d=b:=by grind
  rw [e1] at this
  have e2:C*((b-a)*(b-a))/N=N*(C*(d*d)):=by
   rw [<-hdN]
   grind
  rw [e2]
  have e3:N*(m*d-C*(d*d))=m*(b-a)-N*(C*(d*d)):=by rw [<-hdN];grind
  grind
 refine o8 fun hc=>?_
 obtain⟨X,hX⟩:∃ X:Rat,X=g a+m*(b-a)-g b:=⟨_,rfl⟩
 have hX0:0<X:=by grind
 obtain⟨n,hn⟩:=aCi (C*((b-a)*(b-a))/X)
 have nh:=steps (n+1) ae
 obtain⟨K,hK⟩:∃ K:Rat,K=C*((b-a)*(b-a)):=⟨_,rfl⟩
 rw [<-hK] at hn nh
 obtain⟨N,hN⟩:∃ N:Rat,N=((((n+1:Nat)):Int):Rat):=⟨_,rfl⟩
 have hN0:0<N:=by rw [hN];exact vw.2 ae
 have hnN:((n:Int):Rat)<=N:=by rw [hN];exact adk.2 ae
 rw [<-hN] at nh
 have h1:K<N*X:=by
  have h2:K/X<N:=by grind
  have h3:=Rat.mul_lt_mul_of_pos_right h2 hX0
  have h4:K/X*X=K:=by grind
  grind
 have h2:K/N<X:=by
  have h3:K/N*N=K:=by grind
  refine o8 fun hc=>?_
  have h4:X<=K/N:=by grind
  have h5:=oA h4 (gR hN0)
  grind
 grind
def dq (x y:Rat):Prop:=-y<=x/\x<=y
theorem aa4 {x y a b:Rat} (h:dq x a) (k:dq y b):dq (x+y) (a+b):=by unfold dq at *;grind
theorem oY {x y a b:Rat} (h:dq x a) (k:dq y b):dq (x*y) (a*b):=by
 have ha:0<=a:=by unfold dq at h;grind
 have hb:0<=b:=by unfold dq at k;grind
 obtain⟨h1,h2⟩:=h
 obtain⟨k1,k2⟩:=k
 constructor
 ·rcases ac7 (a:=0) (b:=y) with hy | hy
  ·have:=oA h1 hy
   have:=ux k2 ha
   grind
  ·have:=oA h2 (by grind:0<=-y)
   have:=ux k1 ha
   grind
 ·rcases ac7 (a:=0) (b:=y) with hy | hy
  ·have:=oA h2 hy
   have:=ux k2 ha
   grind
  ·have:=oA h1 (by grind:0<=-y)
   have:=ux k1 ha
   grind
theorem wc {x a b:Rat} (h:dq x a) (cL:a<=b):dq x b:=by unfold dq at *;grind
theorem atf {x a:Rat} (h:dq x a):0<=a:=by unfold dq at h;grind
theorem alf {x a:Rat} (h:dq x a):dq (-x) a:=by unfold dq at *;grind
theorem ajI {M t:Rat} (h0:0<=t) (h1:t<=1):∀ (n:Nat) (f:Nat->Rat),(∀ i,i<=n->dq (f i) M)->dq (fE (1-t) t n f) M
 | 0,f,h=>h 0 (bp _)
 | n+1,f,h=>ajI h0 h1 n _ fun i hi=>by
  have a1:=h i ae
  have a2:=h (i+1) ae
  have b1:dq ((1-t)*f i) ((1-t)*M):=oY (by unfold dq;grind) a1
  have b2:dq (t*f (i+1)) (t*M):=oY (by unfold dq;grind) a2
  exact wc (aa4 b1 b2) cG
def dF (f:Nat->Rat) (i:Nat):Rat:=f (i+1)-f i
def fD (t:Rat) (n:Nat) (f:Nat->Rat):Rat:=((n:Int):Rat)*fE (1-t) t (n-1) (dF f)
theorem ayP (t:Rat) (n:Nat) (f:Nat->Rat):fD t (n+1) f=fD t n (fun i=>(1-t)*f i+t*f (i+1))+fE (1-t) t n (dF f):=by
 unfold fD
 rw [lP]
 have hc:(((n+1:Nat):Int):Rat)=((n:Int):Rat)+1:=by push_cast;rfl
 cases n with
 | zero=>simp;grind
 | succ m =>
  rw [lP]
  have e:fE (1-t) t m (dF fun i=>(1-t)*f i+t*f (i+1))=fE (1-t) t (m+1) (dF f):=by
   rw [fE]
   refine oD _ _ _ _ _ fun i _=>?_
   unfold dF;grind
  rw [e,hc];grind
theorem azu {M t:Rat} (h0:0<=t) (h1:t<=1) (n:Nat) (f:Nat->Rat) (h:∀ i,i<=n->dq (f i) M) (hM:0<=M):dq (fD t n f) (((n:Int):Rat)*(2*M)):=by
 unfold fD
 have hn:(0:Rat)<=((n:Int):Rat):=zK.2 ae
 cases n with
 | zero=>simp;unfold dq;grind
 | succ m =>
  refine oY (by unfold dq;grind) (ajI h0 h1 _ _ fun i hi=>?_)
  have a1:=h i ae
  have a2:=h (i+1) ae
  unfold dF
  unfold dq at *;grind
theorem asq:∀ n:Nat,∃ C:Rat,0<=C/\∀ (f:Nat->Rat) (M t d:Rat),0<=M->(∀ i,i<=n->dq (f i) M)->0<=t->0<=d->t+d<=1 ->
  dq (fE (1-(t+d)) (t+d) n f-fE (1-t) t n f-d*fD t n f) (C*M*(d*d))
 | 0=>⟨0,gg,fun f M t d _ _ _ _ _=>by
   show dq (f 0-f 0-d*(((0:Nat):Int)*_)) _
   unfold dq;simp;grind⟩
 | n+1=>by
  obtain⟨C,hC,ih⟩:=asq n
  obtain⟨N,hN⟩:∃ N:Rat,N=((n:Int):Rat):=⟨_,rfl⟩
  have hN0:0<=N:=by rw [hN];exact zK.2 ae
  refine⟨C+(N*4+C*2),by grind,fun f M t d hM hf ht hd htd=>?_⟩
  have yj:t<=1:=by grind
  have jS:d<=1:=by grind
  have s1:∀ i,i<=n->dq ((1-t)*f i+t*f (i+1)) M:=fun i hi=>by
   have b1:dq ((1-t)*f i) ((1-t)*M):=oY (by unfold dq;grind) (hf i ae)
   have b2:dq (t*f (i+1)) (t*M):=oY (by unfold dq;grind) (hf (i+1) ae)
   exact wc (aa4 b1 b2) cG
  have s2:∀ i,i<=n->dq (dF f i) (2*M):=fun i hi=>by
   have a1:=hf i ae
   have a2:=hf (i+1) ae
   unfold dF;unfold dq at *;grind
  have r1:=ih _ M t d hM s1 ht hd htd
  have r2:=ih _ (2*M) t d cG s2 ht hd htd
  have r3:=azu ht yj n (dF f) s2 cG
  rw [<-hN] at r3
  have e:fE (1-(t+d)) (t+d) (n+1) f=fE (1-(t+d)) (t+d) n (fun i=>(1-t)*f i+t*f (i+1))+d*fE (1-(t+d)) (t+d) n (dF f):=by
   rw [fE]
   have:=xj (1-(t+d)) (t+d) 1 d n (fun i=>(1-t)*f i+t*f (i+1)) (dF f)
   rw [oB] at this
   rw [<-this]
   refine oD _ _ _ _ _ fun i _=>?_
   unfold dF;grind
  have e0:fE (1-t) t (n+1) f=fE (1-t) t n (fun i=>(1-t)*f i+t*f (i+1)):=rfl
  rw [e,ayP,e0]
  obtain⟨A,hA⟩:∃ A,A=fE (1-(t+d)) (t+d) n (fun i=>(1-t)*f i+t*f (i+1)):=⟨_,rfl⟩
  obtain⟨A0,hA0⟩:∃ A,A=fE (1-t) t n (fun i=>(1-t)*f i+t*f (i+1)):=⟨_,rfl⟩
  obtain⟨B,hB⟩:∃ A,A=fE (1-(t+d)) (t+d) n (dF f):=⟨_,rfl⟩
  obtain⟨B0,zX⟩:∃ A,A=fE (1-t) t n (dF f):=⟨_,rfl⟩
  obtain⟨D1,hD1⟩:∃ A,A=fD t n (fun i=>(1-t)*f i+t*f (i+1)):=⟨_,rfl⟩
  obtain⟨D2,hD2⟩:∃ A,A=fD t n (dF f):=⟨_,rfl⟩
  rw [<-hA,<-hA0,<-hD1] at r1
  rw [<-hB,<-zX,<-hD2] at r2
  rw [<-hD2] at r3
  rw [<-hA,<-hA0,<-hB,<-zX,<-hD1]
  have qC:0<=d*d:=ix hd hd
  have q1:dq (d*(B-B0-d*D2)) (1*(C*(2*M)*(d*d))):=oY (by unfold dq;grind) r2
  have q2:dq (d*d*D2) (d*d*(N*(2*(2*M)))):=oY (by unfold dq;grind) r3
  have q3:=aa4 (aa4 r1 q1) q2
  refine wc (x:=A+d*B-A0-d*(D1+B0)) ?_ (gg)
  have e2:A+d*B-A0-d*(D1+B0)=A-A0-d*D1+d*(B-B0-d*D2)+d*d*D2:=by grind
  have e3:(C+(N*4+C*2))*M*(d*d)=C*M*(d*d)+1*(C*(2*M)*(d*d))+d*d*(N*(2*(2*M))):=by grind
  rw [e2,e3];exact q3
theorem adC:∀ p:List Rat,∃ M:Rat,0<=M/\∀ i,dq (p.getD i 0) M
 | []=>⟨0,gg,fun i=>by simp [dq]⟩
 | x :: l=>by
  obtain⟨M,h0,h⟩:=adC l
  refine⟨M+(if 0<=x then x else -x),by split<;>grind,fun i=>?_⟩
  cases i with
  | zero=>rw [auv];unfold dq;split<;>grind
  | succ i =>
   rw [asP]
   refine wc (h i) ?_
   split<;>grind
theorem aBW {p:List Rat} (h:0<p.length) (t:Rat):aG (dD p) t=fD t (p.length-1) (fun i=>p.getD i 0):=by
 have hl:=zr (p:=p)
 unfold fD
 rcases gM p.length 2 with h2 | h2
 ·have h1:p.length-1=0:=by omega
  rw [h1]
  unfold dD
  rw [if_pos h2,mn aT]
  simp [fE]
 ·rw [if_neg ae] at hl
  rw [mn ae,hl]
  obtain⟨N,hN⟩:∃ N:Rat,N=(((p.length-1:Nat):Int):Rat):=⟨_,rfl⟩
  have e:=xj (1-t) t N 0 (p.length-1-1) (dF fun i=>p.getD i 0) (dF fun i=>p.getD i 0)
  rw [<-hN]
  have e2:N*fE (1-t) t (p.length-1-1) (dF fun i=>p.getD i 0)=N*fE (1-t) t (p.length-1-1) (dF fun i=>p.getD i 0)+0*fE (1-t) t (p.length-1-1) (dF fun i=>p.getD i 0):=by grind
  rw [e2,<-e]
  refine oD _ _ _ _ _ fun i hi=>?_
  rw [anH ae,<-hN]
  unfold dF;grind
theorem aiM {p:List Rat} {M t:Rat} (h:0<p.length) (hM:∀ i,dq (p.getD i 0) M) (h0:0<=t) (h1:t<=1):dq (aG p t) M:=by
 rw [mn h];exact ajI h0 h1 _ _ fun i _=>hM i
theorem aqj {p:List Rat} (h:0<p.length):∃ C:Rat,0<=C/\∀ t d,0<=t->0<=d->t+d<=1->dq (aG p (t+d)-aG p t-d*aG (dD p) t) (C*(d*d)):=by
 obtain⟨M,hM0,hM⟩:=adC p
 obtain⟨C,hC,k⟩:=asq (p.length-1)
 refine⟨C*M,ix hC hM0,fun t d ht hd htd=>?_⟩
 rw [mn h,mn h,aBW h]
 exact k _ M t d hM0 (fun i _=>hM i) ht hd htd
theorem amy {a b c:Rat} (h:a<b) (k:b<=c):a<c:=by grind
theorem adj {x y:Rat} (hx:0<x) (h:x<=y):0<1/y/\1/y<=1/x:=by
 have hy:0<y:=by grind
 have e1:1/x*x=1:=by grind
 have e2:1/y*y=1:=by grind
 have r0:0<1/x:=by rw [jo,oB];exact aio.2 hx
 have s0:0<1/y:=by rw [jo,oB];exact aio.2 hy
 revert e1 e2 r0 s0
 generalize 1/x=r
 generalize 1/y=s
 intro e1 e2 r0 s0
 refine⟨s0,?_⟩
 have h1:=ux h (gR (aaa s0 r0))
 have e3:s*r*x=s:=by rw [vP,e1,rj]
 have e4:s*r*y=r:=by rw [qB s r,vP,e2,rj]
 rwa [e3,e4] at h1
theorem amV {W r:Rat} (hr:r*W=1) (x:Rat):x/W=x*r:=by
 have h0:W≠0:=by rintro rfl;rw [wH] at hr;exact absurd hr ak
 have h1:=anP W h0
 have:W⁻¹=r:=by
  have e:r*(W*W⁻¹)=r:=by rw [h1,rj]
  rw [<-vP,hr,oB] at e
  exact e
 rw [jo,this]
theorem aHp {N N' x1 W W' x2 r r1 d N1 W1:Rat} (h1:N1=N+d*N'+x1) (h2:W1=W+d*W'+x2) (hr:r*W=1) (eW:r1*W1=1) :
  N1*r1-N*r-d*((N'*W-N*W')*(r*r))=(x1*W+-(N*x2))*(r*r1)+-((N'*W+-(N*W'))*(r*r*r1)*(d*(d*W'+x2))):=by
 have a1:N1*r1=N1*r1*(r*W):=by rw [hr,rj]
 have a2:N*r=N*r*(r1*W1):=by rw [eW,rj]
 have a3:r*r=r*r*(r1*W1):=by rw [eW,rj]
 have a4:r*r1=r*r1*(r*W):=by rw [hr,rj]
 have b1:N1*r1-N*r=(d*(N'*W-N*W')+(x1*W-N*x2))*(r*r1):=by
  rw [a1,a2,h1,h2];clear a1 a2 a3 a4 hr eW h1 h2;grind
 have b2:r*r=r*r1+r*r*r1*(d*W'+x2):=by
  have t1:r*r*(r1*(W+d*W'+x2))=r*r1*(r*W)+r*r*r1*(d*W'+x2):=by clear a1 a2 a3 a4 hr eW h1 h2 b1;grind
  rw [hr,rj,<-h2,eW,rj] at t1
  exact t1
 rw [b1]
 have b3:d*((N'*W-N*W')*(r*r))=d*((N'*W-N*W')*(r*r1))+d*((N'*W-N*W')*(r*r*r1*(d*W'+x2))):=by
  have:d*((N'*W-N*W')*(r*r))=d*((N'*W-N*W')*(r*r1+r*r*r1*(d*W'+x2))):=by rw [<-b2]
  rw [this];clear a1 a2 a3 a4 hr eW h1 h2 b1 b2 this;grind
 rw [b3]
 clear a1 a2 a3 a4 hr eW h1 h2 b1 b2 b3
 grind
theorem aAJ {N N' x1 W W' x2 r r1 d B C c:Rat} (m1:dq N B) (m2:dq W B) (m3:dq N' B) (m4:dq W' B) (hd:0<=d) (jS:d<=1) (e1:dq x1 (C*(d*d))) (e2:dq x2 (C*(d*d))) (hC0:0<=C) (br:dq r c) (br1:dq r1 c) :
  dq ((x1*W+-(N*x2))*(r*r1)+-((N'*W+-(N*W'))*(r*r*r1)*(d*(d*W'+x2)))) (((C*B+B*C)*(c*c)+(B*B+B*B)*(c*c*c)*(B+C))*(d*d)):=by
 have zX:=atf m1
 have v8:=atf br
 have qC:0<=d*d:=ix hd hd
 have bd:dq d d:=by unfold dq;grind
 have p1:dq ((x1*W+-(N*x2))*(r*r1)) ((C*(d*d)*B+B*(C*(d*d)))*(c*c)):=oY (aa4 (oY e1 m2) (alf (oY m1 e2))) (oY br br1)
 have p2:dq ((N'*W+-(N*W'))*(r*r*r1)*(d*(d*W'+x2))) ((B*B+B*B)*(c*c*c)*(d*(d*B+C*(d*d)))) :=
  oY (oY (aa4 (oY m3 m2) (alf (oY m1 m4))) (oY (oY br br) br1)) (oY bd (aa4 (oY bd m4) e2))
 have qO:0<=(B*B+B*B)*(c*c*c):=ix (anQ (ix zX zX) (ix zX zX)) (ix (ix v8 v8) v8)
 have p3:(B*B+B*B)*(c*c*c)*(d*(d*B+C*(d*d)))<=(B*B+B*B)*(c*c*c)*((d*d)*(B+C)):=by
  refine ux ?_ qO
  have:C*(d*d)*d<=C*(d*d)*1:=ux jS (ix hC0 qC)
  clear p1 p2 qO bd m1 m2 m3 m4 e1 e2 br br1
  grind
 have p4:=aa4 p1 (alf (wc p2 p3))
 have e:(C*(d*d)*B+B*(C*(d*d)))*(c*c)+(B*B+B*B)*(c*c*c)*((d*d)*(B+C))=((C*B+B*C)*(c*c)+(B*B+B*B)*(c*c*c)*(B+C))*(d*d):=by
  clear p1 p2 p3 p4 qO bd m1 m2 m3 m4 e1 e2 br br1 qC;grind
 rwa [e] at p4
theorem aqA {n w:List Rat} {w0:Rat} (hn:0<n.length) (hw:0<w.length) (yl:0<w0) (hW:∀ t,0<=t->t<=1->w0<=aG w t) :
  ∃ K:Rat,∀ t d,0<=t->0<=d->t+d<=1 ->
   dq (aG n (t+d)/aG w (t+d)-aG n t/aG w t-d*((aG (dD n) t*aG w t-aG n t*aG (dD w) t)/(aG w t*aG w t))) (K*(d*d)):=by
 have lb:0<(dD n).length:=by rw [zr];split<;>omega
 have hdw:0<(dD w).length:=by rw [zr];split<;>omega
 obtain⟨B1,hB1,b1⟩:=adC n
 obtain⟨B2,hB2,b2⟩:=adC w
 obtain⟨B3,hB3,b3⟩:=adC (dD n)
 obtain⟨B4,hB4,b4⟩:=adC (dD w)
 obtain⟨C1,xQ,k1⟩:=aqj hn
 obtain⟨C2,y8,k2⟩:=aqj hw
 have g1:B1<=B1+B2+B3+B4:=by clear b1 b2 b3 b4 k1 k2 hW;grind
 have g2:B2<=B1+B2+B3+B4:=by clear b1 b2 b3 b4 k1 k2 hW;grind
 have g3:B3<=B1+B2+B3+B4:=by clear b1 b2 b3 b4 k1 k2 hW;grind
 have g4:B4<=B1+B2+B3+B4:=by clear b1 b2 b3 b4 k1 k2 hW;grind
 have g5:C1<=C1+C2:=by clear b1 b2 b3 b4 k1 k2 hW;grind
 have g6:C2<=C1+C2:=by clear b1 b2 b3 b4 k1 k2 hW;grind
 refine⟨((C1+C2)*(B1+B2+B3+B4)+(B1+B2+B3+B4)*(C1+C2))*(1/w0*(1/w0))+((B1+B2+B3+B4)*(B1+B2+B3+B4)+(B1+B2+B3+B4)*(B1+B2+B3+B4))*(1/w0*(1/w0)*(1/w0))*((B1+B2+B3+B4)+(C1+C2)),fun t d ht hd htd=>?_⟩
 have yj:t<=1:=by clear b1 b2 b3 b4 k1 k2 hW;grind
 have jS:d<=1:=by clear b1 b2 b3 b4 k1 k2 hW;grind
 have aI0:0<=t+d:=by clear b1 b2 b3 b4 k1 k2 hW;grind
 have qC:0<=d*d:=ix hd hd
 have m1:=wc (aiM hn b1 ht yj) g1
 have m2:=wc (aiM hw b2 ht yj) g2
 have m3:=wc (aiM lb b3 ht yj) g3
 have m4:=wc (aiM hdw b4 ht yj) g4
 have e1:=wc (k1 t d ht hd htd) (oA g5 qC)
 have e2:=wc (k2 t d ht hd htd) (oA g6 qC)
 have w1:=hW t ht yj
 have w2:=hW (t+d) aI0 htd
 have i1:=adj yl w1
 have i2:=adj yl w2
 have p1:0<aG w t:=amy yl w1
 have p2:0<aG w (t+d):=amy yl w2
 have hr:1/aG w t*aG w t=1:=by rw [jo,oB];exact aki _ (awX p1)
 have eW:1/aG w (t+d)*aG w (t+d)=1:=by rw [jo,oB];exact aki _ (awX p2)
 have th:1/aG w t*(1/aG w t)*(aG w t*aG w t)=1:=by
  rw [show 1/aG w t*(1/aG w t)*(aG w t*aG w t)=(1/aG w t*aG w t)*(1/aG w t*aG w t) by
   generalize 1/aG w t=r
   generalize aG w t=W
   clear b1 b2 b3 b4 k1 k2 hW m1 m2 m3 m4 e1 e2 w1 w2 i1 i2 p1 p2 hr eW;grind,hr,rj]
 rw [amV eW,amV hr,amV th]
 have c1:dq (1/aG w t) (1/w0):=⟨by have:=i1.1;have:=i1.2;clear b1 b2 b3 b4 k1 k2 hW m1 m2 m3 m4 e1 e2 hr eW th i1 i2;generalize 1/aG w t=r at *;generalize 1/w0=c at *;grind,i1.2⟩
 have c2:dq (1/aG w (t+d)) (1/w0):=⟨by have:=i2.1;have:=i2.2;clear b1 b2 b3 b4 k1 k2 hW m1 m2 m3 m4 e1 e2 hr eW th i1 i2;generalize 1/aG w (t+d)=r at *;generalize 1/w0=c at *;grind,i2.2⟩
 have h1:aG n (t+d)=aG n t+d*aG (dD n) t+(aG n (t+d)-aG n t-d*aG (dD n) t):=by
  generalize aG n (t+d)=x;generalize aG n t=y;generalize aG (dD n) t=z
  clear b1 b2 b3 b4 k1 k2 hW m1 m2 m3 m4 e1 e2 hr eW th i1 i2 c1 c2;grind
 have h2:aG w (t+d)=aG w t+d*aG (dD w) t+(aG w (t+d)-aG w t-d*aG (dD w) t):=by
  generalize aG w (t+d)=x;generalize aG w t=y;generalize aG (dD w) t=z
  clear b1 b2 b3 b4 k1 k2 hW m1 m2 m3 m4 e1 e2 hr eW th i1 i2 c1 c2;grind
 rw [aHp h1 h2 hr eW]
 exact aAJ m1 m2 m3 m4 hd jS e1 e2 (anQ xQ y8) c1 c2
theorem ayv {n w:List Rat} {w0 m t u:Rat} (hn:0<n.length) (hw:0<w.length) (yl:0<w0) (hW:∀ t,0<=t->t<=1->w0<=aG w t) (ht:0<=t) (htu:t<=u) (hu:u<=1)
  (h:∀ s,t<=s->s<=u->m<=(aG (dD n) s*aG w s-aG n s*aG (dD w) s)/(aG w s*aG w s)):aG n t/aG w t+m*(u-t)<=aG n u/aG w u:=by
 obtain⟨K,k⟩:=aqA hn hw yl hW
 refine mvi (g:=fun x=>aG n x/aG w x) (C:=K) htu fun s d hs hd hsd=>?_
 have h1:=(k s d (fe ht hs) hd (fe hsd hu)).1
 have hsu:s<=u:=by clear h1 h k hW;grind
 have h2:=ux (h s hs hsu) hd
 show aG n s/aG w s+_<=aG n (s+d)/aG w (s+d)
 clear h k hW
 generalize (aG (dD n) s*aG w s-aG n s*aG (dD w) s)/(aG w s*aG w s)=q at *
 generalize aG n s/aG w s=x at *
 generalize aG n (s+d)/aG w (s+d)=y at *
 grind
theorem aE3 {p q:List Rat} {t:Rat} (h:0<p.length) (hl:p.length=q.length):aG (uO (·-·) p q) t=aG p t-aG q t:=by
 have hz:=af3 (·-·) p q
 rw [mn ae,mn h,mn ae,hz,<-hl]
 have e:=xj (1-t) t 1 (-1) (p.length-1) (fun i=>p.getD i 0) (fun i=>q.getD i 0)
 have e2:∀ a b:Rat,1*a+-1*b=a-b:=fun a b=>by grind
 rw [e2] at e
 rw [<-e]
 refine oD _ _ _ _ _ fun i hi=>?_
 rw [atA ae,e2]
section
variable {po:List aK} {d:Nat} (h:nR po d)
include h
end
def oE (l:List V3) (k:Nat):Nat->Rat × Rat
 | 0=>((l.getD 0 default).at k,(l.getD 0 default).at k)
 | j+1=>lJ (oE l k j) ((l.getD (j+1) default).at k,(l.getD (j+1) default).at k)
def bxP (l:List V3):qt:=⟨oE l 0 (l.length-1),oE l 1 (l.length-1),oE l 2 (l.length-1)⟩
theorem ajW (a b:Rat × Rat):(lJ a b).1<=a.1/\(lJ a b).1<=b.1/\a.2<=(lJ a b).2/\b.2<=(lJ a b).2:=by
 unfold lJ iy ib
 refine⟨?_,?_,?_,?_⟩<;>simp only<;>split<;>grind
theorem agi {l:List V3} {R:Nat} (h:∀ i,i<l.length->cB R (l.getD i default)) (k:Nat):∀ n,n<l.length->dy R (oE l k n)
 | 0,hn=>⟨acT (h 0 hn) k,acT (h 0 hn) k⟩
 | n+1,hn=>ad0 (agi h k n ae) ⟨acT (h _ hn) k,acT (h _ hn) k⟩
theorem ajO {a b:Rat} (ha:0<=a) (hb:0<=b):∀ (n:Nat) (f:Nat->Rat),(∀ i,i<=n->0<=f i)->0<=fE a b n f
 | 0,f,h=>h 0 (bp _)
 | n+1,f,h=>by
  rw [fE]
  refine ajO ha hb n _ fun i hi=>?_
  have h1:=ix ha (h i ae)
  have h2:=ix hb (h (i+1) ae)
  exact anQ h1 h2
theorem anI {a a1 a2 b lo hi:Rat} (h1:a1<=a) (h2:a<=a2) (k1:lo<=a1*b) (k2:a1*b<=hi) (k3:lo<=a2*b) (k4:a2*b<=hi):lo<=a*b/\a*b<=hi:=by
 rcases ac7 (a:=0) (b:=b) with hb | hb
 ·have m1:=oA h1 hb
  have m2:=oA h2 hb
  exact⟨fe k1 m1,fe m2 k4⟩
 ·have pA:0<=-b:=by grind
  have m1:=oA h1 pA
  have m2:=oA h2 pA
  have n1:a*b<=a1*b:=by grind
  have n2:a2*b<=a*b:=by grind
  exact⟨fe k3 n2,fe n1 k2⟩
theorem ag5 {A B:Rat × Rat} {a b:Rat} (h1:A.1<=a) (h2:a<=A.2) (h3:B.1<=b) (h4:b<=B.2):(w9 A B).1<=a*b/\a*b<=(w9 A B).2:=by
 obtain⟨x1,x2,x3,x4⟩:=ajW (A.1*B.1,A.1*B.1) (A.1*B.2,A.1*B.2)
 obtain⟨y1,y2,y3,y4⟩:=ajW (lJ (A.1*B.1,A.1*B.1) (A.1*B.2,A.1*B.2)) (A.2*B.1,A.2*B.1)
 obtain⟨z1,z2,z3,z4⟩:=ajW (lJ (lJ (A.1*B.1,A.1*B.1) (A.1*B.2,A.1*B.2)) (A.2*B.1,A.2*B.1)) (A.2*B.2,A.2*B.2)
 unfold w9
 simp only at *
 generalize lJ (lJ (lJ (A.1*B.1,A.1*B.1) (A.1*B.2,A.1*B.2)) (A.2*B.1,A.2*B.1)) (A.2*B.2,A.2*B.2)=S at *
 have g1:=anI (lo:=S.1) (hi:=S.2) h3 h4 (b:=A.1) (by rw [qB];exact fe z1 (fe y1 x1)) (by rw [qB];exact fe x3 (fe y3 z3)) (by rw [qB];exact fe z1 (fe y1 x2)) (by rw [qB];exact fe x4 (fe y3 z3))
 have g2:=anI (lo:=S.1) (hi:=S.2) h3 h4 (b:=A.2) (by rw [qB];exact fe z1 y2) (by rw [qB];exact fe y4 z3) (by rw [qB];exact z2) (by rw [qB];exact z4)
 rw [qB b] at g1 g2
 exact anI h1 h2 g1.1 g1.2 g2.1 g2.2
theorem auM {B:Rat × Rat} {b:Rat} (h0:0<B.1) (h1:B.1<=b) (h2:b<=B.2):(rcS B).1<=1/b/\1/b<=(rcS B).2:=by
 have e1:=adj (amy h0 h1) h2
 have e2:=adj h0 h1
 unfold rcS iy ib
 constructor
 ·simp only;split<;>grind
 ·simp only;split<;>grind
section
variable {po:List aK} {d:Nat} (h:nR po d)
include h
end
section
variable {po:List aK} {d:Nat} (h:nR po d)
include h
end
open gQ in
theorem aFc (a b c w:Rat) (R:Nat) (hR:R<=100000000) (ha:rl a<=R) (hb:rl b<=R) (hc:rl c<=R) (hw:rl w<=R):ax al 64 [.agg [ah a,ah b,ah c,ah w]] (aW ⟨jY (1/w) ⟨a,b,c⟩,w⟩):=by
 have uo:ax al 13 [iL 1] (ah 1):=rF 1 ak ak
 have eW:rl 1=1:=rfl
 have hq:=rG 1 w
 refine aS Tryz.func64 (ht:=(fun g=>LV.df g _ (bH.pure _))) ?_
 refine aY ?_
 refine a8 15 an ?_
 simp only [auv]
 refine cp aQ (uo) ?_
 refine aP ?_
 refine cp au (ayx 1 w ae) ?_
 refine aY ?_
 refine cp au (aq1 (1/w) ⟨a,b,c⟩ (R+1) ae ae ⟨by show rl a<=_;omega,by show rl b<=_;omega,by show rl c<=_;omega⟩) ?_
 refine aP ?_
 refine rO (aaW rfl rfl) ?_
 refine aA ?_
 exact ij [] rfl rfl rfl cs (dS cs rfl) tW (.pure pu)
theorem aip {a b:Rat}:∀ (n:Nat) (c:Nat->Rat) (R:Nat),(∀ i,rl (c i)<=R)->rl (fE a b n c)<=(R+(rl a+rl b+1))*2 ^ n
 | 0,c,R,h=>by
  have:=h 0
  show rl (c 0)<=_
  omega
 | n+1,c,R,h=>by
  have:=aip (a:=a) (b:=b) n (fun i=>a*c i+b*c (i+1)) (2*R+(rl a+rl b+1)) (fun i=>by
   have h0:=h i
   have h1:=h (i+1)
   have m0:=cX a (c i)
   have m1:=cX b (c (i+1))
   have s0:=kC (a*c i) (b*c (i+1))
   omega)
  rw [fE]
  refine a9 this ?_
  rw [jg,Nat.mul_comm (2 ^ n) 2,<-fH]
  exact fP _ ae
theorem z7 (bs:List Nat):yq bs []=[]:=rfl
def sS (t:Rat) (f:Nat->Rat):Nat->Rat:=fun i=>(1-t)*f i+t*f (i+1)
def sI (t:Rat):Nat->(Nat->Rat)->(Nat->Rat)
 | 0,f=>f
 | n+1,f=>sI t n (sS t f)
theorem aJp (s t:Rat) (f:Nat->Rat):sS s (sS t f)=sS t (sS s f):=by
 funext i;unfold sS;grind
theorem ahd (t s:Rat):∀ (n:Nat) (f:Nat->Rat),sI t n (sS s f)=sS s (sI t n f)
 | 0,f=>rfl
 | n+1,f=>by rw [sI,sI,aJp,ahd t s n]
theorem anK (t:Rat) (n:Nat) (f:Nat->Rat):sI t (n+1) f=sS t (sI t n f):=by rw [sI,ahd]
theorem afC (t c d:Rat):∀ (n:Nat) (f g:Nat->Rat),sI t n (fun i=>c*f i+d*g i)=fun i=>c*sI t n f i+d*sI t n g i
 | 0,f,g=>rfl
 | n+1,f,g=>by
  rw [sI,sI,sI,<-afC t c d n]
  congr 1;funext i;unfold sS;grind
theorem um (t:Rat):∀ (n:Nat) (f:Nat->Rat) (i:Nat),sI t n f i=fE (1-t) t n (fun m=>f (i+m))
 | 0,f,i=>rfl
 | n+1,f,i=>by rw [sI,um t n,fE];rfl
theorem aDL (a b x:Rat) (f:Nat->Rat) (i:Nat):(1-x)*sS a f i+x*sS b f i=sS (a+x*(b-a)) f i:=by unfold sS;grind
def rz (a b:Rat) (n:Nat) (f:Nat->Rat) (j:Nat):Rat:=sI a (n-j) (sI b j f) 0
theorem aAD (a b x:Rat) {n j:Nat} (f:Nat->Rat) (h:j+1<=n):(1-x)*rz a b n f j+x*rz a b n f (j+1)=rz a b (n-1) (sS (a+x*(b-a)) f) j:=by
 unfold rz
 obtain⟨m,rfl⟩:∃ m,n=j+1+m:=⟨n-(j+1),ae⟩
 rw [show j+1+m-j=m+1 by omega,show j+1+m-(j+1)=m by omega,show j+1+m-1-j=m by omega]
 rw [sI,<-ahd b a,sI]
 have e:=afC a (1-x) x m (sI b j (sS a f)) (sI b j (sS b f))
 have e2:=afC b (1-x) x j (sS a f) (sS b f)
 rw [<-e2] at e
 have e3:(fun i=>(1-x)*sS a f i+x*sS b f i)=sS (a+x*(b-a)) f:=by funext i;exact aDL a b x f i
 rw [e3] at e
 exact(congrFun e 0).symm
theorem ajN (a b x:Rat) {n:Nat}:∀ (k:Nat) (f:Nat->Rat) (j:Nat),j+k<=n->sI x k (rz a b n f) j=rz a b (n-k) (sI (a+x*(b-a)) k f) j
 | 0,f,j,h=>rfl
 | k+1,f,j,h=>by
  rw [anK]
  unfold sS
  rw [ajN a b x k f j ae,ajN a b x k f (j+1) ae,aAD _ _ _ _ ae,<-anK,Nat.sub_sub]
theorem apl (a b x:Rat) (n:Nat) (f:Nat->Rat):sI x n (rz a b n f) 0=sI (a+x*(b-a)) n f 0:=by
 rw [ajN _ _ _ _ _ _ ae,pB];rfl
theorem asm {p:List Rat} {a b:Rat} (ha:a≠1) {j:Nat} (hj:j<p.length):(eQ p a b).getD j 0=rz a b (p.length-1) (fun i=>p.getD i 0) j:=by
 have aX:(1:Rat)-a≠0:=by grind
 have hq:(b-a)/(1-a)*(1-a)=b-a:=kP aX
 unfold eQ
 rw [if_neg ha,ahZ (by rw [aan];exact hj)]
 generalize (b-a)/(1-a)=s at hq
 have key:∀ (k:Nat) (i:Nat),i+k<=p.length-1->sI s k (fun i=>(nq p a).getD i 0) i=sI a (p.length-1-i-k) (sI b k (fun m=>p.getD (i+m) 0)) 0:=by
  intro k
  induction k with
  | zero =>
   intro i hi
   show (nq p a).getD i 0=_
   rw [ahP ae,um,ack]
   exact oD _ _ _ _ _ fun m _=>by rw [fw];rfl
  | succ k ih =>
   intro i hi
   rw [anK]
   unfold sS
   rw [ih i ae,ih (i+1) ae]
   obtain⟨m,hm⟩:∃ m,p.length-1-i-k=m+1:=⟨p.length-1-i-k-1,ae⟩
   rw [hm,show p.length-1-(i+1)-k=m by omega,show p.length-1-i-(k+1)=m by omega,sI]
   have hsh:(fun m=>p.getD (i+1+m) 0)=fun m=>(fun m=>p.getD (i+m) 0) (m+1):=by funext m;simp only;congr 1;omega
   rw [hsh]
   generalize (fun m=>p.getD (i+m) 0)=f
   rw [<-ahd]
   have e:=afC a (1-s) s m (sI b k (sS a f)) (sI b k (fun m=>f (m+1)))
   have e2:=afC b (1-s) s k (sS a f) (fun m=>f (m+1))
   rw [<-e2] at e
   have e3:(fun i=>(1-s)*sS a f i+s*f (i+1))=sS b f:=by
    funext i;unfold sS
    have h1:(1-s)*(1-a)=1-b:=by grind
    have h2:(1-s)*a+s=b:=by grind
    rw [<-h1,<-h2];grind
   rw [e3] at e
   exact(congrFun e 0).symm
 have:=key j 0 ae
 rw [um] at this
 simp only [fw,ack] at this
 rw [this];rfl
structure qq (po:List aK) (d R:Nat):Prop where
 hl:po.length=d+1
 hd:1<=d
 h6:d<=6
 ok:∀ q∈po,rC R q
theorem nR.r {po:List aK} {d:Nat} (h:nR po d):qq po d 1:=⟨h.hl,h.hd,h.h6,h.ok⟩
def cpQ (po:List aK) (x y:Rat) (j:Nat):aK :=
 ⟨⟨(eQ (bc po 0) x y).getD j 0/(eQ (aO po) x y).getD j 0,(eQ (bc po 1) x y).getD j 0/(eQ (aO po) x y).getD j 0,(eQ (bc po 2) x y).getD j 0/(eQ (aO po) x y).getD j 0⟩,(eQ (aO po) x y).getD j 0⟩
def nd (po:List aK) (x y:Rat):List aK:=(cW po.length).map (cpQ po x y)
theorem tU (po:List aK) (x y:Rat):(nd po x y).length=po.length:=by simp [nd]
theorem amz {po:List aK} {x y:Rat} {j:Nat} (h:j<po.length):(nd po x y).getD j default=cpQ po x y j:=by
 unfold nd;rw [bz,cq mW];simp
theorem yY (p:List Rat) (a b:Rat):(eQ p a b).length=p.length:=by rw [<-arj,aAa]
theorem ac1 {a b:Rat} (ha:0<=a) (hb:0<=b) (cL:0<a+b):∀ (n:Nat) (f:Nat->Rat),(∀ i,i<=n->0<f i)->0<fE a b n f
 | 0,f,h=>h 0 (bp _)
 | n+1,f,h=>by
  rw [fE]
  refine ac1 ha hb cL n _ fun i hi=>?_
  have a1:=h i ae
  have a2:=h (i+1) ae
  have b1:=ix ha (gR a1)
  have b2:=ix hb (gR a2)
  rcases Rat.le_iff_lt_or_eq.1 ha with h0 | h0
  ·have:=aaa h0 a1;grind
  ·have:=aaa (show 0<b by grind) a2;grind
theorem ayK {a b:Rat} (ha:0<=a) (ha1:a<=1) (hb:0<=b) (hb1:b<=1) {n j:Nat} {f:Nat->Rat} (hj:j<=n) (h:∀ i,i<=n->0<f i):0<rz a b n f j:=by
 unfold rz
 rw [um]
 refine ac1 cG ha cG _ _ fun m hm=>?_
 rw [um]
 exact ac1 cG hb cG _ _ fun m2 eO=>h _ ae
theorem agL {a b:Rat} {R S:Nat} (ha:rl (1-a)+rl a+1<=S) (hb:rl (1-b)+rl b+1<=S) {n j:Nat} (hn:n<=6) (hj:j<=n) {f:Nat->Rat} (h:∀ i,rl (f i)<=R):rl (rz a b n f j)<=((R+S)*64+S)*64:=by
 unfold rz
 have hp:∀ k,k<=6->2 ^ k<=64:=fun k hk=>lO (n:=2) ak hk
 have h1:∀ m,rl (sI b j f m)<=(R+S)*64:=fun m=>by
  rw [um]
  have:=aip (a:=1-b) (b:=b) j (fun i=>f (m+i)) R (fun i=>h _)
  refine a9 this (nz ae (hp j ae))
 rw [um]
 have:=aip (a:=1-a) (b:=a) (n-j) (fun i=>sI b j f (0+i)) ((R+S)*64) (fun i=>h1 _)
 exact a9 this (nz ae (hp (n-j) ae))
section
variable {po:List aK} {d R:Nat} (h:qq po d R) {x y:Rat} (iU:0<=x) (fN:x<1) (jO:0<=y) (kD:y<=1)
include h
theorem abH (k:Nat):(bc po k).length=d+1:=by rw [nS,h.hl]
theorem adf:(aO po).length=d+1:=by rw [ni,h.hl]
theorem ayU {i:Nat} (hi:i<=d):0<(aO po).getD i 0:=by
 have hl:=h.hl
 rw [abl ae]
 exact(h.ok _ (rX ae)).2.2
theorem aJt:aO (nd po x y)=eQ (aO po) x y:=by
 have hl:=h.hl
 have hw:=adf h
 refine uJ (by rw [ni,tU,yY,ni]) fun j h1 h2=>?_
 rw [ni,tU] at h1
 have e1:=abl (po:=nd po x y) (i:=j) (by rw [tU];exact h1)
 rw [amz h1] at e1
 rw [bz,cq (by rw [ni,tU];exact h1)] at e1
 have e2:(cpQ po x y j).w=(eQ (aO po) x y).getD j 0:=rfl
 rw [e2,bz,cq h2] at e1
 exact e1
include fN
theorem agV {j:Nat} (hj:j<=d):(eQ (aO po) x y).getD j 0=rz x y d (fun i=>(aO po).getD i 0) j:=by
 have hw:=adf h
 rw [asm cG ae,hw,lP]
theorem afL (k:Nat) {j:Nat} (hj:j<=d):(eQ (bc po k) x y).getD j 0=rz x y d (fun i=>(bc po k).getD i 0) j:=by
 have hw:=abH h k
 rw [asm cG ae,hw,lP]
include iU jO kD
theorem ajT {j:Nat} (hj:j<=d):0<(eQ (aO po) x y).getD j 0:=by
 rw [agV h fN hj]
 exact ayK iU (gR fN) jO kD hj fun i hi=>ayU h hi
theorem anw (k:Nat) (hk:k<3):bc (nd po x y) k=eQ (bc po k) x y:=by
 have hl:=h.hl
 refine uJ (by rw [nS,tU,yY,nS]) fun j h1 h2=>?_
 rw [nS,tU] at h1
 have e1:=zR (po:=nd po x y) (k:=k) (i:=j) (by rw [tU];exact h1)
 rw [amz h1] at e1
 rw [bz,cq (by rw [nS,tU];exact h1)] at e1
 have hp:=ajT h iU fN jO kD (j:=j) ae
 have e2:(cpQ po x y j).w*(cpQ po x y j).p.at k=(eQ (bc po k) x y).getD j 0:=by
  have aX:(eQ (aO po) x y).getD j 0≠0:=by grind
  have hm:∀ q:Rat,(eQ (aO po) x y).getD j 0*(q/(eQ (aO po) x y).getD j 0)=q:=fun q=>by rw [qB];exact kP aX
  match k,hk with
  | 0,_=>exact hm _
  | 1,_=>exact hm _
  | 2,_=>exact hm _
 rw [e2,bz,cq h2] at e1
 exact e1
theorem aI1 (s:Rat):jd (nd po x y) s=jd po (x+s*(y-x)):=by
 have hl:=h.hl
 have hw:=adf h
 have ew:aG (eQ (aO po) x y) s=aG (aO po) (x+s*(y-x)):=by
  have:=apl x y s d (fun i=>(aO po).getD i 0)
  rw [um,um] at this
  rw [mn (by rw [yY];omega),mn ae,yY,hw,lP]
  simp only [fw] at this
  rw [<-this]
  exact oD _ _ _ _ _ fun i hi=>agV h fN ae
 have en:∀ k,aG (eQ (bc po k) x y) s=aG (bc po k) (x+s*(y-x)):=fun k=>by
  have hn:=abH h k
  have:=apl x y s d (fun i=>(bc po k).getD i 0)
  rw [um,um] at this
  rw [mn (by rw [yY];omega),mn ae,yY,hn,lP]
  simp only [fw] at this
  rw [<-this]
  exact oD _ _ _ _ _ fun i hi=>afL h fN k ae
 unfold jd
 rw [aJt h,anw h iU fN jO kD 0 ak,anw h iU fN jO kD 1 ak,anw h iU fN jO kD 2 ak,ew,en,en,en]
end
theorem alJ {f:Nat} (hc:∀ s t:Rat × Rat,rl s.1+rl t.1<=34359738368->rl s.2+rl t.2<=34359738368->ax al f [aH s,aH t] (aH (lJ s t))) {l:List V3} {R:Nat} (hR:R<=1000000) (hb:∀ i,i<l.length->cB R (l.getD i default)) (k j:Nat) (hj:j+1<l.length) :
  ax al f [aH (oE l k j),aH ((l.getD (j+1) default).at k,(l.getD (j+1) default).at k)] (aH (oE l k (j+1))):=by
 have q:=agi hb k j ae
 have g:=acT (hb (j+1) hj) k
 have h1:R+R<=34359738368:=by omega
 exact hc _ _ (a9 (aeX q.1 g) h1) (a9 (aeX q.2 g) h1)
theorem aAs:(LV.agg [.agg [ah 0,ah 0],.agg [ah 0,ah 0],.agg [ah 0,ah 0]]).aw=18:=by simp [LV.aw,cU,ar.aw]
theorem aGJ (a b c:Rat × Rat):(LV.agg [aH a,aH b,aH c]).aw=18:=zp.aw ⟨a,b,c⟩
theorem dr1 (l:List V3) (j:Nat):(l.drop 1).getD j default=l.getD (j+1) default:=by
 rw [bz,bz,sA,pM]
namespace aqe
theorem aM {p q:Prop} (k:q) (e:p=q:=by simp only [e1,e2,e3,e4,p1,p2,p3,q1,q2,q3,l1,t0,t1,r1,r2,r3,r4,Nat.zero_add,Nat.reduceMul,Nat.reduceAdd,b1,b2,b3,b4,b5,b6,i1,i2,i3,i4,i5,i6,Nat.reduceBEq,aAs,aGJ,dr1,cN,List.length_drop,List.length_map,List.set_cons_zero,List.set_cons_succ,Nat.reduceEqDiff,reduceIte,if_true,if_false,eN,fb,aV bo,aV bH,aV ar,cY,et,LV.kill,b7];exact rfl):p:=e.mpr k
end aqe
open aqe in
theorem aFj (l:List V3) (h0:0<l.length) (hl:l.length<=1000) (R:Nat) (hR:R<=1000000) (hb:∀ i,i<l.length->cB R (l.getD i default)):ax al 98 [.list 9 (l.map a6)] (.bf [nF (bxP l),iL 0]):=by
 obtain⟨z1,z2,z3⟩:=hb 0 h0
 refine aS Tryz.func98 (ht:=(ki (zp.pure _) rfl)) ?_
 refine o4 ?_
 refine aF rfl ?_ ?_<;>intro nE qN
 ·omega
 ·refine bE ?_
  refine bN ?_
  refine aD ?_
  refine cr (b:=_) rfl ak ?_
  refine oV ?_
  refine cp aQ (sT (l.getD 0 default).x ae) ?_
  refine aY ?_
  refine ao rfl (.ab8 (a:=1) bo rfl v9 ju rfl om) ?_
  refine ba ?_
  refine dU (fun(j:Nat) L=>(((((((((St.mk L.slot (hp [(2,⟨18,[.agg [.agg [ah 0,ah 0],.agg [ah 0,ah 0],.agg [ah 0,ah 0]]],true⟩),(4,⟨18,[.agg [aH (oE l 0 j),.agg [ah 0,ah 0],.agg [ah 0,ah 0]]],true⟩)])).put (some 0) (.list 9 (l.map a6))).put (some 2) (.aB 2 18 0 0)).put (some 4) (.aB 4 18 0 0)).put (some 5) (iL 0)).put (some 12) (iL 0)).put (some 24) (.list 9 ((l.drop 1).map a6))).put (some 25) (ai (l.length-1))).put (some 26) (ai j))) (fun j=>j<=l.length-1) (fun j=>l.length-1-j) 0 (b8 _) ?_
  rintro j L2 hj
  refine aD ?_
  refine aF rfl ?_ ?_<;>intro yZ h27
  ·have jf:j<l.length-1:=by omega
   obtain⟨g1,g2,g3⟩:=hb (j+1) ae
   have hH0:ax al 182 [aH (oE l 0 j),aH ((l.getD (j+1) default).x,(l.getD (j+1) default).x)] (aH (oE l 0 (j+1))):=alJ (fun s t h1 h2=>vU s t ae ae) hR hb 0 j ae
   refine bF ?_
   refine a8 10 an ?_
   refine aY ?_
   refine cp aQ (sT (l.getD (j+1) default).x ae) ?_
   refine cp au (hH0) ?_
   refine ba ?_
   refine cy (az.kill _ 7) ?_
   refine ao rfl cM ?_
   refine aL ?_
   exact yC
  ·obtain rfl:j=l.length-1:=by omega
   refine bD ?_
   refine bN ?_
   refine aD ?_
   refine cr (b:=_) rfl ak ?_
   refine oV ?_
   refine cp aQ (sT (l.getD 0 default).y ae) ?_
   refine aY ?_
   refine ao rfl (.ab8 (a:=1) bo rfl v9 ju rfl om) ?_
   refine ba ?_
   refine dU (fun(j:Nat) L=>(((((((((St.mk L.slot (hp [(2,⟨18,[.agg [.agg [ah 0,ah 0],.agg [ah 0,ah 0],.agg [ah 0,ah 0]]],true⟩),(4,⟨18,[.agg [aH (oE l 0 (l.length-1)),aH (oE l 1 j),.agg [ah 0,ah 0]]],true⟩)])).put (some 0) (.list 9 (l.map a6))).put (some 2) (.aB 2 18 0 0)).put (some 4) (.aB 4 18 0 0)).put (some 5) (iL 1)).put (some 12) (iL 1)).put (some 24) (.list 9 ((l.drop 1).map a6))).put (some 25) (ai (l.length-1))).put (some 26) (ai j))) (fun j=>j<=l.length-1) (fun j=>l.length-1-j) 0 (b8 _) ?_
   rintro j L2 hj
   refine aD ?_
   refine aF rfl ?_ ?_<;>intro yZ h27
   ·have jf:j<l.length-1:=by omega
    obtain⟨g1,g2,g3⟩:=hb (j+1) ae
    have uI:ax al 182 [aH (oE l 1 j),aH ((l.getD (j+1) default).y,(l.getD (j+1) default).y)] (aH (oE l 1 (j+1))):=alJ (fun s t h1 h2=>vU s t ae ae) hR hb 1 j ae
    refine bF ?_
    refine a8 10 an ?_
    refine aY ?_
    refine cp aQ (sT (l.getD (j+1) default).y ae) ?_
    refine cp au (uI) ?_
    refine ba ?_
    refine cy (az.kill _ 7) ?_
    refine ao rfl cM ?_
    refine aL ?_
    exact yC
   ·obtain rfl:j=l.length-1:=by omega
    refine bD ?_
    refine bN ?_
    refine aD ?_
    refine cr (b:=_) rfl ak ?_
    refine oV ?_
    refine cp aQ (sT (l.getD 0 default).z ae) ?_
    refine aY ?_
    refine ao rfl (.ab8 (a:=1) bo rfl v9 ju rfl om) ?_
    refine ba ?_
    refine dU (fun(j:Nat) L=>(((((((((St.mk L.slot (hp [(2,⟨18,[.agg [.agg [ah 0,ah 0],.agg [ah 0,ah 0],.agg [ah 0,ah 0]]],true⟩),(4,⟨18,[.agg [aH (oE l 0 (l.length-1)),aH (oE l 1 (l.length-1)),aH (oE l 2 j)]],true⟩)])).put (some 0) (.list 9 (l.map a6))).put (some 2) (.aB 2 18 0 0)).put (some 4) (.aB 4 18 0 0)).put (some 5) (iL 2)).put (some 12) (iL 2)).put (some 24) (.list 9 ((l.drop 1).map a6))).put (some 25) (ai (l.length-1))).put (some 26) (ai j))) (fun j=>j<=l.length-1) (fun j=>l.length-1-j) 0 (b8 _) ?_
    rintro j L2 hj
    refine aD ?_
    refine aF rfl ?_ ?_<;>intro yZ h27
    ·have jf:j<l.length-1:=by omega
     obtain⟨g1,g2,g3⟩:=hb (j+1) ae
     have hH2:ax al 182 [aH (oE l 2 j),aH ((l.getD (j+1) default).z,(l.getD (j+1) default).z)] (aH (oE l 2 (j+1))):=alJ (fun s t h1 h2=>vU s t ae ae) hR hb 2 j ae
     refine bF ?_
     refine a8 10 an ?_
     refine aY ?_
     refine cp aQ (sT (l.getD (j+1) default).z ae) ?_
     refine cp au (hH2) ?_
     refine ba ?_
     refine cy (az.kill _ 7) ?_
     refine ao rfl cM ?_
     refine aL ?_
     exact yC
    ·obtain rfl:j=l.length-1:=by omega
     refine bD ?_
     refine bN ?_
     refine aD ?_
     refine fi (b:=_) rfl ak ?_
     refine dG ?_
     exact vA [] rfl rfl rfl cs (dS cs rfl) T97 (.pure pu) rfl (.pure rfl)
end Go.Proofs.YtckppbhafancnaaGreat
end
