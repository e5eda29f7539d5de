/- Texts B1, M1, R6, B2, C1, C2, D1, E1, E3, K1, K4, H1, V1, H2, C3, TW, K3, E2, G1, S1, S2, K5, K8, K9, K13, K2, K10, K7, K11, K14, K16, P4, K18, P5, K20, LgS, LgT, LgU, LgV, LgW, K21, Z1, Z2, K25, K26, Y1 of this proof, joined. -/
import Derived.Test.YthcadngkamjpdaaGreatQU4
set_option linter.unusedVariables false
set_option linter.unusedSimpArgs false
open Array renaming getD_eq_getD_getElem?->gH,getElem?_eq_some_iff->nC,getElem?_setIfInBounds_ne->qf,getElem?_setIfInBounds_self_of_lt->vW,mem_toList_iff->afI
open Bool renaming not_eq_true->ad9,not_eq_true'->zr
open Go.Proofs.Tryz renaming func31->avc,prog->ak,underlying123->aaI,underlying160->ox,underlying186->me,underlying26->dY,underlying62->kj
open Int renaming emod_lt_of_pos->adf,emod_nonneg->adB
open List renaming append_assoc->an0,append_nil->qo,contains_iff_mem->qW,drop_eq_getElem_cons->xd,drop_of_length_le->kB,eq_nil_of_length_eq_zero->oC,ext_getElem->yf,foldl->vx,getD_eq_getElem?_getD->bE,getElem?_append_left->aeo,getElem?_append_right->aeP,getElem?_drop->awm,getElem?_eq_getElem->bY,getElem?_eq_none->abg,getElem?_map->gZ,getElem?_replicate->auw,getElem?_set->akI,getElem_mem->qx,getElem_of_mem->aaU,length_map->eD,length_take->fQ,map->uL,map_congr_left->ajk,map_take->w5,mem_append->oO,mem_cons->ff,mem_filterMap->aaF,mem_iff_getElem->asb,mem_map->ga,mem_replicate->uc,mem_singleton->fP,mem_toArray->awu,nodup_nil->yL,not_mem_nil->iq,range->fe,replicate->aV,replicate_zero->aok,set->vZ,take_add_one->v8,take_length->mQ,take_of_length_le->cE,take_set_of_le->att,take_succ_eq_append_getElem->abr
open Nat renaming add_assoc->oQ,add_le_add->arU,add_sub_cancel->rO,add_zero->mg,le_add_left->avs,le_refl->bF,le_trans->bb,lt_or_ge->kD,lt_succ_iff_lt_or_eq->ae8,mod_eq_of_lt->ir,mul_assoc->fJ,mul_le_mul->jG,mul_le_mul_right->eT,pow_le_pow_right->oy,pow_pos->lC,pow_succ->jw,sub_self->sM,sub_zero->avr,succ_mul->iK,zero_add->fg,zero_le->bS
open Option.some renaming injEq->fv
open Rat renaming add_zero->jC,div_def->qh,le_of_lt->mZ,le_refl->nI,le_trans->ag5,mul_nonneg->aa5,mul_one->vv,mul_pos->adr,not_lt->aeY
section
set_option linter.unusedVariables false
set_option linter.unusedSimpArgs false
set_option maxHeartbeats 8000000
set_option maxRecDepth 100000
attribute [local irreducible] Go.Lg.opsL Go.Lg.cU Go.Lg.oq Go.Lg.qK
namespace Go.Proofs.YthcadngkamjpdaaGreat
open Go.Lg
end Go.Proofs.YthcadngkamjpdaaGreat
namespace Go.Lg
open Go.Proofs.YthcadngkamjpdaaGreat in
theorem aN.aHH {P:Program} {H:b9} {ρ:Operand->LV} {T:TypeId} (hT:kR P T [(1,false),(1,false),(1,false)]) (hz:cF P T (.agg [.v (.bool false),.list 1 [],.list 1 []])):aN P H ρ (.build T #[]) (aa 0):=by
 rw [rQ]
 exact aN.build (zs:=[.v (.bool false),.list 1 [],.list 1 []]) (ps:=#[]) hT hz (by intro p hp;cases hp)
end Go.Lg
namespace Go.Proofs.YthcadngkamjpdaaGreat
open Go.Lg
theorem cn:(default:Rat)=0:=rfl
def jd (t:Rat):List Rat->List Rat
 | x :: y :: r=>((1-t)*x+t*y) :: jd t (y :: r)
 | _=>[]
theorem sL (t:Rat):∀ p:List Rat,(jd t p).length=p.length-1
 | []=>rfl
 | [_]=>rfl
 | x :: y :: r=>by simp [jd,sL t (y :: r)]
theorem aeD (t:Rat):∀ (p:List Rat) (i:Nat),i+1<p.length->(jd t p).getD i 0=(1-t)*p.getD i 0+t*p.getD (i+1) 0
 | [],i,h=>by simp at h
 | [_],i,h=>by simp at h
 | x :: y :: r,0,_=>by simp [jd]
 | x :: y :: r,i+1,h=>by
   have:=aeD t (y :: r) i nP
   simpa [jd] using this
theorem eU {p:List Rat} {i:Nat} (h:i<p.length):p.getD i 0∈p:=by
 rw [bE,bY h];exact qx h
theorem anc {p:List Rat} {x:Rat} (h:x∈p):∃ i,i<p.length/\p.getD i 0=x:=by
 obtain⟨i,hi,rfl⟩:=aaU h
 exact⟨i,hi,by rw [bE,bY hi];rfl⟩
theorem aB0 {p q:List Rat} (hl:p.length=q.length) (h:∀ i,i<p.length->p.getD i 0=q.getD i 0):p=q:=by
 apply yf hl
 intro i h1 h2
 have:=h i h1
 rw [bE,bE,bY h1,bY h2] at this
 exact this
def wG (t:Rat):Nat->List Rat->List Rat
 | 0,_=>[]
 | k+1,p=>p.getD 0 0 :: wG t k (jd t p)
def uJ (t:Rat):Nat->List Rat->List Rat->List Rat
 | 0,q,tl=>q++tl
 | k+1,q,tl=>uJ t k (jd t q) (q.getD k 0 :: tl)
def nK (p:List Rat) (t:Rat):List Rat:=wG t p.length p
def mS (p:List Rat) (t:Rat):List Rat:=uJ t p.length p []
theorem asX (t:Rat):∀ (k:Nat) (p:List Rat),(wG t k p).length=k
 | 0,_=>rfl
 | k+1,p=>by simp [wG,asX t k]
theorem auA (t:Rat):∀ (k:Nat) (q tl:List Rat),q.length=k->(uJ t k q tl).length=k+tl.length
 | 0,q,tl,h=>by simp [uJ,h]
 | k+1,q,tl,h=>by rw [uJ,auA t k _ _ (by rw [sL];omega)];simp;omega
theorem y8 (p:List Rat) (t:Rat):(nK p t).length=p.length:=asX t _ _
theorem zV (p:List Rat) (t:Rat):(mS p t).length=p.length:=by rw [mS,auA t _ _ _ rfl];simp
theorem aqP {α:Type} (A B:List α) (x v:α) {n:Nat} (h:n=A.length):(A++x :: B).set n v=A++v :: B:=by subst h;simp
theorem aih {α:Type} (A B:List α) (d:α) {i:Nat} (h:i<A.length):(A++B).getD i d=A.getD i d:=by simp [bE,aeo h]
theorem ahD {α:Type} (A B:List α) (d:α) {i:Nat} (h:A.length<=i):(A++B).getD i d=B.getD (i-A.length) d:=by simp [bE,aeP h]
theorem ahU (l:List Rat) (k p:Nat):(l.drop k).getD p 0=l.getD (k+p) 0:=by
 rw [bE,bE,awm]
theorem aDG {t:Rat} {q tl:List Rat} {i:Nat} (h:i+1<q.length) :
  ((jd t q).take i++(q.drop i++tl)).getD i 0=q.getD i 0/\((jd t q).take i++(q.drop i++tl)).getD (i+1) 0=q.getD (i+1) 0:=by
 have hl:((jd t q).take i).length=i:=by rw [fQ,sL];omega
 constructor
 ·rw [ahD _ _ _ J,hl,sM,aih _ _ _ bq,ahU,mg]
 ·rw [ahD _ _ _ J,hl,aih _ _ _ bq,ahU];congr 1;omega
theorem aDH {t:Rat} {q tl:List Rat} {i:Nat} (h:i+1<q.length) :
  ((jd t q).take i++(q.drop i++tl)).set i ((1-t)*q.getD i 0+t*q.getD (i+1) 0)=(jd t q).take (i+1)++(q.drop (i+1)++tl):=by
 have hl:((jd t q).take i).length=i:=by rw [fQ,sL];omega
 rw [xd J,List.cons_append,aqP _ _ _ _ hl.symm,<-aeD t q i h]
 have hs:i<(jd t q).length:=by rw [sL];omega
 rw [abr hs,an0]
 congr 1
 rw [bE,bY hs]
 simp
theorem aEA {t:Rat} {q tl:List Rat} {k:Nat} (h:q.length=k+1):(jd t q).take k++(q.drop k++tl)=jd t q++(q.getD k 0 :: tl):=by
 rw [cE (by rw [sL];omega),xd J,kB J,bE,bY J]
 simp
theorem aj7 {t:Rat} {q:List Rat} {C M k:Nat} (hC:rl (1-t)+rl t+1<=C) (h:∀ x∈q,(rl x+C)*2 ^ (k+1)<=M):∀ x∈jd t q,(rl x+C)*2 ^ k<=M:=by
 intro x hx
 obtain⟨i,hi,rfl⟩:=anc hx
 rw [sL] at hi
 rw [aeD t q i J]
 have h1:=h _ (eU (p:=q) (i:=i) J)
 have h2:=h _ (eU (p:=q) (i:=i+1) J)
 have e1:=nZ ((1-t)*q.getD i 0) (t*q.getD (i+1) 0)
 have e2:=cM (1-t) (q.getD i 0)
 have e3:=cM t (q.getD (i+1) 0)
 rw [jw] at h1 h2
 have hle:rl ((1-t)*q.getD i 0+t*q.getD (i+1) 0)+C<=(rl (q.getD i 0)+C)+(rl (q.getD (i+1) 0)+C):=by omega
 have:=eT (2 ^ k) hle
 have e6:=Nat.add_mul (rl (q.getD i 0)+C) (rl (q.getD (i+1) 0)+C) (2 ^ k)
 have e4:(rl (q.getD i 0)+C)*(2 ^ k*2)=(rl (q.getD i 0)+C)*2 ^ k*2:=by rw [fJ]
 have e5:(rl (q.getD (i+1) 0)+C)*(2 ^ k*2)=(rl (q.getD (i+1) 0)+C)*2 ^ k*2:=by rw [fJ]
 omega
theorem asm {o p:List Rat} {k:Nat} (hk:k<p.length) (dj:o.length=p.length) (ht:o.take k=p.take k):(o.set k (p.getD k 0)).take (k+1)=p.take (k+1):=by
 rw [abr (by simpa [dj] using hk),abr hk,att (bF _),ht]
 congr 1
 simp [bE,bY hk]
theorem r1r:((1:Int):Rat)=1:=rfl
theorem acf {x:Rat} {C M k:Nat} (h:(rl x+C)*2 ^ k<=M):rl x+C<=M:=by
 have:1<=2 ^ k:=lC J
 exact bb (Nat.le_mul_of_pos_right _ this) h
theorem apf {p:List Rat} {C:Nat} (hC:1<=C) (h:∀ x∈p,(rl x+C)*2 ^ p.length<=1073741824):p.length<=30:=by
 cases p with
 | nil=>simp
 | cons x r =>
  have h1:=h x aW
  have h2:1*2 ^ (x :: r).length<=(rl x+C)*2 ^ (x :: r).length:=eT _ J
  rcases kD 30 (x :: r).length with h3 | h3
  ·have h4:2 ^ 31<=2 ^ (x :: r).length:=oy J h3
   omega
  ·exact h3
theorem azU {t:Rat} {q tl:List Rat} {i:Nat} (h:i<q.length):((jd t q).take i++(q.drop i++tl)).length=q.length+tl.length:=by
 simp [sL];omega
namespace aq8
theorem aw {p q:Prop} (k:q) (e:p=q:=by simp only [e1,e2,e3,e4,p1,p2,p3,q1,q2,q3,l1,t0,t1,r1,r2,r3,r4,Nat.zero_add,Nat.reduceMul,Nat.reduceAdd,b1,b2,b3,b4,b5,b6,i1,i2,i3,i4,i5,i6,Nat.reduceBEq,cn,Rat.add_zero,aG an,cA,LV.kill,bH];exact rfl):p:=e.mpr k
end aq8
open aq8 in
theorem aoB (p:List Rat) (hl:p.length<=1048576) (jn:∀ x∈p,rl x<=274877906944):pC ak 190 [.list 3 (p.map aa)] (.ref 1 3 0 p.length) [⟨3,p.map aa,true⟩]:=by
 refine fnO Tryz.func190 ?_
 refine bB ?_
 refine dF rfl rfl (.lf (n:=p.length) (m:=p.length) ml ml om om om) ?_
 refine bw ?_
 refine iv (fun(k:Nat) (o:List Rat) L=>(((((St.mk L.slot (hp [(8,⟨3,o.map aa,true⟩)])).put (some 3) (.ref 8 3 0 p.length)).put (some 9) (.list 3 (p.map aa))).put (some 10) (ae p.length)).put (some 11) (ae k))) (fun k o=>k<=p.length/\o.length=p.length/\o.take k=p.take k) (fun k o=>p.length-k) 0 (aV p.length 0) ⟨bS _,by simp,rfl⟩ ?_
 rintro k o L1 ⟨hk,dj,ht⟩
 refine ay ?_
 refine aL rfl ?_ ?_<;>intro abL h12
 ·have lS:k<p.length:=by omega
  have hrk:=jn _ (eU lS)
  refine nO ?_
  refine ah rfl rE ?_
  refine cp au (fA (p.getD k 0) 0 (by rw [show rl 0=1 from rfl];omega)) ?_
  refine a7 ?_
  refine bR (az.kill _ 5) ?_
  refine aB ?_
  exact fO (k+1) (o.set k (p.getD k 0)) ⟨J,by simp [dj],asm lS dj ht⟩
 ·obtain rfl:k=p.length:=by omega
  rw [mQ,<-dj,mQ] at ht
  refine bw ?_
  subst ht
  exact aga rfl rfl (aP an _)
namespace avl
theorem aw {p q:Prop} (k:q) (e:p=q:=by simp only [e1,e2,e3,e4,p1,p2,p3,q1,q2,q3,l1,t0,t1,r1,r2,r3,r4,Nat.zero_add,Nat.reduceMul,Nat.reduceAdd,b1,b2,b3,b4,b5,b6,i1,i2,i3,i4,i5,i6,Nat.reduceBEq,vo,cn,Rat.add_zero,List.append_nil,List.length_append,r1r,ek,eq0,alA,akc,ems,eme,mh,fo,eO,dW,List.length_cons,List.length_nil,aG an,cA,LV.kill,bH];exact rfl):p:=e.mpr k
end avl
open avl in
theorem aH9 (p:List Rat) (t:Rat) (cc:Nat) (hC:rl (1-t)+rl t+1<=cc) (uX:cc<=1073741824) (hs:∀ x∈p,(rl x+cc)*2 ^ p.length<=1073741824):ax ak 188 [.list 3 (p.map aa),aa t] (.a9 [.list 3 ((nK p t).map aa),.list 3 ((mS p t).map aa)]):=by
 have hlen:=apf (bb (avs 1 _) hC) hs
 have jn:∀ x∈p,rl x<=274877906944:=fun x hx=>by have:=acf (hs x hx);omega
 refine aR Tryz.func188 ?_
 have ek:True:=trivial
 have eq0:True:=trivial
 have alA:True:=trivial
 have akc:True:=trivial
 have ems:True:=trivial
 have eme:True:=trivial
 have mh:True:=trivial
 refine bg ?_
 refine aY 4 al ?_
 refine cp aO (rZ 1 ai ai) ?_
 refine ao ?_
 refine cp au (oW _ _ (by rw [show rl ((1:Int):Rat)=1 from rfl];omega)) ?_
 refine bf ?_
 refine abB [] rfl rfl (.cons (.pure (cd an _ _)) .nil) (aoB p J jn) (aP an _) rfl ?_
 refine bf ?_
 refine dF rfl rfl (.aoy (n:=0) (m:=p.length) an me Z32 dC kX rfl rfl J J J) ?_
 refine dk ?_
 refine jm (az.mv (t:=8) (b:=18) 33 ai ai ai rfl rfl rfl) ?_
 refine lp4 (fun(k:Nat) (q tl lo:List Rat) L=>((((((St.mk L.slot (hp [(3,⟨3,[aa t],true⟩),(6,⟨3,[aa (1-t)],true⟩),(1000241,⟨3,(q++tl).map aa,true⟩),(33,⟨3,lo.map aa,true⟩)])).put (some 3) (.aF 3 3 0 0)).put (some 6) (.aF 6 3 0 0)).put (some 7) (.ref 1000241 3 0 p.length)).put (some 8) (.ref 33 3 0 lo.length)).put (some 9) (iL ((k:Int)-1)))) (fun k q tl lo=>q.length=k/\k+tl.length=p.length/\lo.length+k=p.length/\lo++wG t k q=nK p t/\uJ t k q tl=mS p t/\∀ x∈q,(rl x+cc)*2 ^ k<=1073741824) (fun k q tl lo=>k) p.length p ([]) ([]) ⟨rfl,by simp,by simp,by simp [nK],rfl,hs⟩ ?_
 rintro k q tl lo L1 ⟨hq,htl,cq,hL,hH,bT⟩
 refine bf ?_
 refine aL rfl ?_ ?_<;>intro tD rf
 ·obtain⟨j,rfl⟩:∃ j,k=j+1:=⟨k-1,J⟩
  have ek:(((j+1:Nat):Int)-1)=(j:Int):=by omega
  have eq0:(q++tl).getD 0 0=q.getD 0 0:=aih _ _ _ J
  have lj:=acf (bT _ (eU (i:=0) J))
  refine bh ?_
  refine ah rfl rE ?_
  simp only [y7,cn,fg,eq0]
  refine cp au (fA _ 0 (by rw [show rl 0=1 from rfl];omega)) ?_
  refine ao ?_
  refine bO rfl (.app (news:=[aa (q.getD 0 0+0)]) rfl rfl rfl rfl rfl aW (.inl rfl) ai me me kT dC rfl kX (.inl ⟨32,0,_,rfl,by decide,rfl,rfl,by simp,rfl,by simp [aK,an.pure]⟩) bq bq ai) ?_
  refine aB ?_
  refine bR (az.kill _ 32) ?_
  refine a7 ?_
  refine dI (fun(i:Nat) L=>((((((((St.mk L.slot (hp [(3,⟨3,[aa t],true⟩),(6,⟨3,[aa (1-t)],true⟩),(1000241,⟨3,((jd t q).take i++(q.drop i++tl)).map aa,true⟩),(33,⟨3,(lo++[q.getD 0 0]).map aa,true⟩)])).put (some 3) (.aF 3 3 0 0)).put (some 6) (.aF 6 3 0 0)).put (some 7) (.ref 1000241 3 0 p.length)).put (some 8) (.ref 33 3 0 (lo.length+1))).put (some 9) (ae j)).put (some 34) (ae j)).put (some 35) (ae i))) (fun i=>i<=j) (fun i=>j-i) 0 (bS _) ?_
  rintro i L2 hi
  refine ay ?_
  refine aL rfl ?_ ?_<;>intro avO h36
  ·have pK:i<j:=by omega
   have mh:((i:Int)+1).toNat=i+1:=by omega
   obtain⟨alA,akc⟩:=aDG (t:=t) (q:=q) (tl:=tl) (i:=i) J
   have ems:=aDH (t:=t) (q:=q) (tl:=tl) (i:=i) J
   have gk:=acf (bT _ (eU (i:=i) J))
   have mW:=acf (bT _ (eU (i:=i+1) J))
   have jI:=cM (1-t) (q.getD i 0)
   have fc:=cM t (q.getD (i+1) 0)
   have hml:=azU (t:=t) (q:=q) (tl:=tl) (i:=i) J
   refine bh ?_
   refine aY 17 al ?_
   refine bf ?_
   simp only [t1,cn,fg,alA]
   refine cp au (ef _ _ J) ?_
   refine ay ?_
   simp only [mh,cn,fg,akc]
   refine cp au (ef _ _ J) ?_
   refine cp au (fA _ _ J) ?_
   refine bh ?_
   exact lK
  ·obtain rfl:j=i:=by omega
   have eme:=aEA (t:=t) (tl:=tl) hq
   refine bw ?_
   exact sK j (jd t q) (q.getD j 0 :: tl) (lo++[q.getD 0 0]) ⟨by rw [sL];omega,by simp;omega,by simp;omega,by rw [an0];exact hL,hH,aj7 hC bT⟩
 ·obtain rfl:k=0:=by omega
  obtain rfl:q=[]:=oC hq
  rw [wG,qo] at hL
  rw [uJ] at hH
  refine df ?_
  rw [<-hL,<-hH]
  exact aj3 [33,1000241] rfl rfl (dH an rfl rfl rfl) rfl (dH an rfl rfl (by simpa using htl.symm))
theorem aJS {a b:Int} (h:b≠0):dM .rem .i64 a b=some (.int .i64 (a.tmod b)):=by simp [dM,h]
theorem dfi:(default:Int)=0:=rfl
def ti (l:List Int) (k:Nat) (n:Int):Int:=if k<l.length then l.getD k 0 % n else 0
def lM (l:List Int) (k:Nat):Nat:=if k<l.length then k+1 else k
theorem ayS {a m:Int} (hm:0<m):a % m=if a.tmod m<0 then a.tmod m+m else a.tmod m:=by
 have h1:=adB a (show m≠0 by omega)
 have h2:=adf a hm
 rw [Int.tmod_eq_emod]
 split<;>split<;>omega
def yF (l:List Int) (k:Nat):Rat × Nat :=
 if ti l (lM l k) 4=3 then(((ti l k 13-6:Int):Rat)/((1+ti l (lM l (lM l k)) 4:Int):Rat),lM l (lM l (lM l k))) else(((ti l k 13-6:Int):Rat),lM l (lM l k))
theorem aio {n d:Int} (h1:n.natAbs<4294967296) (h2:d.natAbs<4294967296):rl ((n:Rat)/(d:Rat))<=1:=by
 rw [<-ae5]
 have:=abI (k:=1) (decide (n<0) != decide (d<0)) (by simpa using h1) (by simpa using h2)
 omega
theorem av9 {n:Int} (h1:n.natAbs<4294967296):rl (n:Rat)<=1:=by
 have:=aio (n:=n) (d:=1) h1 ai
 rwa [show ((1:Int):Rat)=1 from rfl,qh,show (1:Rat)⁻¹=1 by grind,vv] at this
theorem azR {l:List Int} {k:Nat} (hl:l.length<=500) (hk:k<=500):lM l k<=500:=by unfold lM;split<;>omega
open H0 in
theorem akJ (n m:Int) (hm:0<m) (fc:m<=4611686018427387904):ax ak 10 [iL n,iL m] (iL (n % m)):=by
 have hE:=ayS (a:=n) hm
 have hb:=Int.tmod_lt_of_pos n hm
 have hb2:=Int.lt_tmod_of_pos n hm
 refine aR Tryz.func10 ?_
 refine bB ?_
 refine ah rfl (.bin rfl rfl (aJS J)) ?_
 refine bh ?_
 refine ia (fun L=>∃ (r:Int) (L1:St),(r=n % m)/\L=((St.mk L1.slot (hp [])).put (some 0) (iL r))) ?_ ?_
 ·refine aL rfl ?_ ?_<;>intro wg h9
  ·refine aQ ?_
   refine ah rfl afa ?_
   refine aQ ?_
   exact⟨n.tmod m+m,_,by rw [hE,if_pos h9],((aj (bJ cl) cl)).symm⟩
  ·refine aH ?_
   exact⟨n.tmod m,_,by rw [hE,if_neg h9],((aj (bJ cl) cl)).symm⟩
 ·rintro _ ⟨r,LC9,hr,rfl⟩
  refine bg ?_
  rw [<-hr]
  exact dR
theorem aGP (q:Rat):km q≠1:=by rw [wK];split<;>omega
theorem asr (n:Nat) (h:(aq n).length<=4611686018427387904):ax ak 127 [bp n] (bL true):=by
 have:=ayv (aq n) h
 rwa [decide_eq_true] at this
 by_cases h0:(aq n).length=0
 ·exact .inl h0
 ·exact .inr (afo (aff n) J)
theorem as3 {q:Rat} (h:0<(aq (km q)).length):Nat.gcd q.num.natAbs (km q)=1:=by
 rw [ajJ h];exact q.reduced
end Go.Proofs.YthcadngkamjpdaaGreat
namespace Go.Lg
end Go.Lg
namespace Go.Proofs.YthcadngkamjpdaaGreat
open Go.Lg
theorem m10 {m:Nat} (h:m<10):(48+m % 10) % 4294967296=48+m:=by
 rw [ir h,ir (Nat.lt_of_lt_of_le (Nat.add_lt_add_left h 48) ai)]
namespace apu
theorem aw {p q:Prop} (k:q) (e:p=q:=by simp only [e1,e2,e3,e4,p1,p2,p3,q1,q2,q3,l1,t0,t1,r1,r2,r3,r4,Nat.zero_add,Nat.reduceMul,Nat.reduceAdd,b1,b2,b3,b4,b5,b6,i1,i2,i3,i4,i5,i6,Nat.reduceBEq,cb,fU,y7];exact rfl):p:=e.mpr k
end apu
open apu in
theorem akX (q:Rat) (h:rl q<=1099511627776):ax ak 71 [aa q] (bL true):=by
 have a1:=oV q
 have a2:=qH q
 have a3:=qO q
 have bj:=aGP q
 refine aR Tryz.func71 ?_
 refine bC ?_
 refine cp aO (asr _ J) ?_
 refine aB ?_
 refine cp aO (asr _ J) ?_
 refine bg ?_
 refine ep 18 rfl ?_ ?_<;>intro aau xT
 ·refine bB ?_
  refine aL rfl ?_ ?_<;>intro afB yD
  ·exfalso
   have:=(aa2 (n:=km q) J).1
   omega
  ·refine bC ?_
   refine aL rfl ?_ ?_<;>intro aa9 h29
   ·refine ay ?_
    refine ep 33 rfl ?_ ?_<;>intro ad5 h33
    ·have hz:=aa4 (q:=q) J
     subst hz
     refine bh ?_
     exact dR
    ·exfalso
     have hz:=aa4 (q:=q) J
     subst hz
     revert ad5
     decide
   ·refine bB ?_
    refine ep 43 rfl ?_ ?_<;>intro aDx h43
    ·refine a7 ?_
     first | simp only [cb,mB] | skip
     refine bf ?_
     exact dR
    ·have mB:=as3 (q:=q) J
     refine aB ?_
     refine cp au (anj _ _ (cZ _) (cZ _) J J) ?_
     first | simp only [cb,mB] | skip
     refine cp aO (adV (aq 1) (cZ _) ai) ?_
     refine ay ?_
     exact dR
 ·refine sE ?_
  refine aL rfl ?_ ?_<;>intro aa9 h29
  ·refine ay ?_
   refine ep 33 rfl ?_ ?_<;>intro ad5 h33
   ·have hz:=aa4 (q:=q) J
    subst hz
    refine bh ?_
    exact dR
   ·exfalso
    have hz:=aa4 (q:=q) J
    subst hz
    revert ad5
    decide
  ·refine bB ?_
   refine ep 43 rfl ?_ ?_<;>intro aDx h43
   ·refine a7 ?_
    first | simp only [cb,mB] | skip
    refine bf ?_
    exact dR
   ·have mB:=as3 (q:=q) J
    refine aB ?_
    refine cp au (anj _ _ (cZ _) (cZ _) J J) ?_
    first | simp only [cb,mB] | skip
    refine cp aO (adV (aq 1) (cZ _) ai) ?_
    refine ay ?_
    exact dR
def HS (p:List Rat) (t:Rat):Prop:=∃ cc,rl (1-t)+rl t+1<=cc/\cc<=1073741824/\∀ x∈p,(rl x+cc)*2 ^ p.length<=1073741824
theorem afe (p:List Rat) (t:Rat) (h:HS p t):ax ak 188 [.list 3 (p.map aa),aa t] (.a9 [.list 3 ((nK p t).map aa),.list 3 ((mS p t).map aa)]):=by
 obtain⟨cc,h1,h2,h3⟩:=h
 exact aH9 p t cc h1 h2 h3
theorem HS.len {p:List Rat} {t:Rat} (h:HS p t):p.length<=30:=by
 obtain⟨cc,h1,h2,h3⟩:=h
 exact apf (bb (avs 1 _) h1) h3
theorem HS.rl {p:List Rat} {t:Rat} (h:HS p t):rl t<=1073741824/\∀ x∈p,Go.Lg.rl x<=1073741824:=by
 obtain⟨cc,h1,h2,h3⟩:=h
 exact⟨J,fun x hx=>by have:=acf (h3 x hx);omega⟩
def eB (p:List Rat) (t:Rat):Rat:=(nK p t).getD (p.length-1) 0
def wR (p:List Rat) (a b:Rat):List Rat:=if 1-a≠0 then nK (mS p a) ((b-a)/(1-a)) else if b≠0 then mS (nK p b) (1/b) else p.reverse
theorem aoT (p:List Rat) {x:Nat} (h:x<p.length):p.reverse.getD x 0=p.getD (p.length-1-x) 0:=by
 rw [bE,bE,List.getElem?_reverse h]
theorem aaj (o:List Rat) (i x:Nat) (v:Rat) (hi:i<o.length):(o.set i v).getD x 0=if x=i then v else o.getD x 0:=by
 rw [bE,bE,akI]
 by_cases h:i=x
 ·subst h;simp [hi]
 ·rw [if_neg h,if_neg (fun e=>h e.symm)]
theorem aF6 {p o:List Rat} {i j n:Nat} (hp:p.length=n) (ho:o.length=n) (pK:i<j) (hj:j+i+1=n)
  (h:∀ x,x<n->o.getD x 0=if x<i\/n<=x+i then p.getD (n-1-x) 0 else p.getD x 0) :
  ∀ x,x<n->((o.set i (o.getD j 0)).set j (o.getD i 0)).getD x 0=if x<i+1\/n<=x+(i+1) then p.getD (n-1-x) 0 else p.getD x 0:=by
 intro x hx
 rw [aaj _ _ _ _ bq,aaj _ _ _ _ J,h j J,h i J,h x hx]
 by_cases h1:x=j
 ·subst h1
  rw [if_pos rfl,if_neg J,if_pos J,show n-1-x=i by omega]
 ·rw [if_neg h1]
  by_cases h2:x=i
  ·subst h2
   rw [if_pos rfl,if_neg J,if_pos J,show n-1-x=j by omega]
  ·rw [if_neg h2]
   by_cases h3:x<i\/n<=x+i
   ·rw [if_pos h3,if_pos J]
   ·rw [if_neg h3,if_neg J]
theorem aEB {p o:List Rat} {i n:Nat} (hp:p.length=n) (ho:o.length=n) (hi:n<=2*i+1) (h:∀ x,x<n->o.getD x 0=if x<i\/n<=x+i then p.getD (n-1-x) 0 else p.getD x 0):o=p.reverse:=by
 refine aB0 (by simp [hp,ho]) (fun x hx=>?_)
 rw [aoT p J,h x J,hp]
 by_cases h3:x<i\/n<=x+i
 ·rw [if_pos h3]
 ·rw [if_neg h3];congr 1;omega
namespace aqp
theorem aw {p q:Prop} (k:q) (e:p=q:=by simp only [e1,e2,e3,e4,p1,p2,p3,q1,q2,q3,l1,t0,t1,r1,r2,r3,r4,Nat.zero_add,Nat.reduceMul,Nat.reduceAdd,b1,b2,b3,b4,b5,b6,i1,i2,i3,i4,i5,i6,Nat.reduceBEq,cn,ej,hll];exact rfl):p:=e.mpr k
end aqp
open aqp in
theorem acN (p:List Rat) (t:Rat) (h:HS p t) (lA:0<p.length):ax ak 252 [.list 3 (p.map aa),aa t] (aa (eB p t)):=by
 have hll:=y8 p t
 have hlen:=h.len
 have hj:(((p.length:Nat):Int)-1).toNat=p.length-1:=by omega
 refine aR Tryz.func252 ?_
 have ej:True:=trivial
 refine df ?_
 refine aL rfl ?_ ?_<;>intro wg h9
 ·omega
 ·refine ay ?_
  refine cp au (afe _ _ (by assumption)) ?_
  refine bw ?_
  refine ah rfl nh ?_
  refine ay ?_
  rw [eB]
  exact jJ
open H0 in
theorem aoe (a b:Rat) (h:rl a+rl b<=1099511627776):ax ak 189 [aa a,aa b] (aa (a/b)):=by
 refine aR Tryz.func189 ?_
 refine bC ?_
 refine cp au (sH _ _ J) ?_
 refine eQ ?_
 exact jJ
def eu:Nat->Nat->Nat
 | _,0=>1
 | 0,_+1=>0
 | n+1,k+1=>eu n k+eu n (k+1)
theorem af9:∀ {n k:Nat},n<k->eu n k=0
 | 0,k+1,_=>rfl
 | n+1,k+1,h=>by rw [eu,af9 J,af9 J]
theorem as4:∀ n,eu n n=1
 | 0=>rfl
 | n+1=>by rw [eu,as4 n,af9 J]
theorem aox (n:Nat):eu n 0=1:=by cases n<;>rfl
theorem amo:∀ n k,eu n k<=2 ^ n
 | n,0=>by rw [aox];exact lC J
 | 0,k+1=>by simp [eu]
 | n+1,k+1=>by
   have h1:=amo n k
   have h2:=amo n (k+1)
   rw [eu,jw];omega
theorem z9 {n:Nat} (k:Nat) (h:n<=40):eu n k<=1099511627776:=bb (amo n k) (oy (n:=2) J h)
def mT (n:Nat):List Int:=(fe (n+1)).map fun x=>(eu n x:Int)
def ij (n:Nat):List Rat:=(fe (n+1)).map fun x=>((eu n x:Int):Rat)
theorem rr (n:Nat):(mT n).length=n+1:=by simp [mT]
theorem wu (n:Nat):(ij n).length=n+1:=by simp [ij]
theorem ab1 {n x:Nat} (h:x<=n):(mT n).getD x 0=(eu n x:Int):=by
 rw [bE,bY (by rw [rr];omega)];simp [mT]
theorem akU {n x:Nat} (h:x<=n):(ij n).getD x 0=((eu n x:Int):Rat):=by
 rw [bE,bY (by rw [wu];omega)];simp [ij]
theorem aDC {p q:List Int} (hl:p.length=q.length) (h:∀ i,i<p.length->p.getD i 0=q.getD i 0):p=q:=by
 apply yf hl
 intro i h1 h2
 have:=h i h1
 rw [bE,bE,bY h1,bY h2] at this
 exact this
theorem aJ1 (o:List Int) (i x:Nat) (v:Int) (hi:i<o.length):(o.set i v).getD x 0=if x=i then v else o.getD x 0:=by
 rw [bE,bE,akI]
 by_cases h:i=x
 ·subst h;simp [hi]
 ·rw [if_neg h,if_neg (fun e=>h e.symm)]
def abD (k i:Nat) (o:List Int):Prop:=o.length=k+2/\∀ x,x<k+2->o.getD x 0=if i<x/\x<=k then(eu (k+1) x:Int) else if x<=k then(eu k x:Int) else 1
theorem at5 (k:Nat):abD k k (mT k++[1]):=by
 refine⟨by simp [rr],fun x hx=>?_⟩
 rw [if_neg J]
 by_cases h:x<=k
 ·rw [if_pos h,aih _ _ _ (by rw [rr];omega),ab1 h]
 ·rw [if_neg h,ahD _ _ _ (by rw [rr];omega),rr,show x-(k+1)=0 by omega];rfl
theorem awM {k i:Nat} {o:List Int} (h:abD k (i+1) o) (hi:i+1<=k):abD k i (o.set (i+1) (o.getD (i+1) 0+o.getD i 0)):=by
 obtain⟨h1,h2⟩:=h
 refine⟨by simp [h1],fun x hx=>?_⟩
 rw [aJ1 _ _ _ _ J]
 by_cases zH:x=i+1
 ·subst zH
  rw [if_pos rfl,if_pos ⟨J,hi⟩,h2 _ J,h2 _ J,if_neg J,if_pos J,if_neg J,if_pos J,eu]
  simp;omega
 ·rw [if_neg zH,h2 x hx]
  by_cases h3:i+1<x/\x<=k
  ·rw [if_pos h3,if_pos ⟨J,h3.2⟩]
  ·rw [if_neg h3,if_neg (show ¬ (i<x/\x<=k) by omega)]
theorem aoM {k:Nat} {o:List Int} (h:abD k 0 o):o=mT (k+1):=by
 obtain⟨h1,h2⟩:=h
 refine aDC (by rw [rr,h1]) (fun x hx=>?_)
 rw [h2 x J,ab1 J]
 by_cases h3:0<x/\x<=k
 ·rw [if_pos h3]
 ·rw [if_neg h3]
  by_cases h4:x<=k
  ·obtain rfl:x=0:=by omega
   rw [if_pos h4,aox,aox]
  ·obtain rfl:x=k+1:=by omega
   rw [if_neg h4,as4];rfl
theorem ahN {k i:Nat} {o:List Int} (h:abD k i o) (hk:k<=39) {x:Nat} (hx:x<k+2):0<=o.getD x 0/\o.getD x 0<=1099511627776:=by
 rw [h.2 x hx]
 have h1:=z9 (n:=k+1) x J
 have h2:=z9 (n:=k) x J
 split
 ·omega
 ·split<;>omega
theorem ye {n:Nat} (hn:n<=40):∀ x∈ij n,rl x<=2:=by
 intro x hx
 simp only [ij,ga] at hx
 obtain⟨k,_,rfl⟩:=hx
 have h:=z9 k hn
 rw [<-aek]
 have:=abI (k:=2) (decide ((eu n k:Int)<0)) (n:=(eu n k:Int).natAbs) (d:=1) J ai
 omega
theorem abd {o p:List Rat} {k:Nat} {v:Rat} (hk:k<p.length) (dj:o.length=p.length) (ht:o.take k=p.take k) (hv:v=p.getD k 0):(o.set k v).take (k+1)=p.take (k+1):=by subst hv;exact asm hk dj ht
theorem asO (n:Nat) (f:Int->LV):((mT n).map f).take (n+1)=(mT n).map f:=by rw [cE (by simp [rr])]
theorem aBs {p:List Rat} {k:Nat} (h:p.length<=k):p.getD k 0=0:=by
 rw [bE,abg h];rfl
theorem agX {a b:List Rat} (h:a.length=b.length) (h2:∀ k,k<a.length->a.getD k 0=b.getD k 0):a=b:=by
 refine yf h fun k h1 h3=>?_
 have:=h2 k h1
 rw [bE,bE,bY h1,bY h3] at this
 exact this
theorem aGf (o:List Rat) (i:Nat) (v:Rat) (k:Nat) (h:i<o.length):(o.set i v).getD k 0=if i=k then v else o.getD k 0:=by
 rw [bE,bE,akI]
 split
 ·rename_i e;subst e;first | rw [if_pos h];rfl | rfl
 ·rfl
theorem gQ {o:List Rat} {S:Nat} (h1:1<=S) (h:∀ x∈o,rl x<=S) (k:Nat):rl (o.getD k 0)<=S:=by
 rcases kD k o.length with hk | hk
 ·exact h _ (eU hk)
 ·rw [bE,abg hk];show rl 0<=S;rw [show rl 0=1 from rfl];exact h1
theorem aqF {o:List Rat} {S:Nat} {i:Nat} {v:Rat} (h:∀ x∈o,rl x<=S) (hv:rl v<=S):∀ x∈o.set i v,rl x<=S:=fun x hx=>by
 rcases List.mem_or_eq_of_mem_set hx with h1 | h1
 ·exact h x h1
 ·rw [h1];exact hv
namespace arE
theorem aw {p q:Prop} (k:q) (e:p=q:=by simp only [e1,e2,e3,e4,p1,p2,p3,q1,q2,q3,l1,t0,t1,r1,r2,r3,r4,Nat.zero_add,Nat.reduceMul,Nat.reduceAdd,b1,b2,b3,b4,b5,b6,i1,i2,i3,i4,i5,i6,Nat.reduceBEq,dfi,cn,asO,List.append_nil,rr,ek1,ek2,qX,fo,eO,dW,List.length_cons,List.length_nil,aG lQ,aG an,LV.kill,bH];exact rfl):p:=e.mpr k
end arE
open arE in
theorem ane (n:Nat) (hn:n<=40):ax ak 286 [ae n] (.list 3 ((ij n).map aa)):=by
 refine aR Tryz.func286 ?_
 have ek1:True:=trivial
 have ek2:True:=trivial
 have qX:True:=trivial
 refine nc ?_
 refine jm (az.mv (t:=3) (b:=8) 14 ai ai ai rfl rfl rfl) ?_
 refine dI (fun(k:Nat) L=>((((St.mk L.slot (hp [(14,⟨1,(mT k).map eP,true⟩)])).put (some 3) (.ref 14 1 0 (k+1))).put (some 9) (ae n)).put (some 10) (ae k))) (fun k=>k<=n) (fun k=>n-k) 0 (bS _) ?_
 rintro k L1 hk
 refine ay ?_
 refine aL rfl ?_ ?_<;>intro acj yc
 ·have hkn:k<n:=by omega
  have ek2:((((k+1+1:Nat)):Int)-2)=(k:Int):=by omega
  refine bg ?_
  refine bO rfl (.app (news:=[eP 1]) rfl rfl rfl rfl rfl (by simp [rr]) (.inl rfl) ai aaI aaI Z2 T2 rfl B2 (.inl ⟨13,0,_,rfl,by decide,rfl,rfl,by simp,rfl,rfl⟩) bq bq ai) ?_
  refine aB ?_
  refine bR (az.kill _ 13) ?_
  refine bf ?_
  refine iv (fun(i:Nat) (o:List Int) L=>(((((St.mk L.slot (hp [(14,⟨1,o.map eP,true⟩)])).put (some 3) (.ref 14 1 0 (k+1+1))).put (some 4) (ae i)).put (some 9) (ae n)).put (some 10) (ae k))) (fun i o=>i<=k/\abD k i o) (fun i o=>i) k (mT k++[1]) ⟨bF _,at5 k⟩ ?_
  rintro i o L2 ⟨hi,hP⟩
  refine bf ?_
  refine aL rfl ?_ ?_<;>intro agy h19
  ·obtain⟨j,rfl⟩:∃ j,i=j+1:=⟨i-1,J⟩
   have ek1:(((j+1:Nat):Int)-1)=(j:Int):=by omega
   have dj:=hP.1
   have hb1:=ahN hP J (x:=j+1) J
   have hb2:=ahN hP J (x:=j) J
   refine aB ?_
   refine aY 11 al ?_
   refine sE ?_
   exact fO j (o.set (j+1) (o.getD (j+1) 0+o.getD j 0)) ⟨J,awM hP hi⟩
  ·obtain rfl:i=0:=by omega
   have hE:=aoM hP
   subst hE
   refine bC ?_
   exact yb
 ·obtain rfl:n=k:=by omega
  refine bB ?_
  refine dF rfl rfl (.lf (n:=n+1) (m:=n+1) ml ml om om om) ?_
  refine bw ?_
  refine iv (fun(i:Nat) (w:List Rat) L=>(((((St.mk L.slot (hp [(14,⟨1,(mT n).map eP,true⟩),(36,⟨3,w.map aa,true⟩)])).put (some 5) (.ref 36 3 0 (n+1))).put (some 37) (.ref 14 1 0 (n+1))).put (some 38) (ae (n+1))).put (some 39) (ae i))) (fun i w=>i<=n+1/\w.length=n+1/\w.take i=(ij n).take i) (fun i w=>n+1-i) 0 (aV (n+1) 0) ⟨bS _,by simp,rfl⟩ ?_
  rintro i w L3 ⟨hi,gh,kG⟩
  refine ay ?_
  refine aL rfl ?_ ?_<;>intro zi pS
  ·have uo:i<=n:=by omega
   have qX:=ab1 uo
   have oF:=z9 i hn
   refine iY ?_
   refine cp aO (rZ (eu n i:Int) J J) ?_
   refine bh ?_
   exact fO (i+1) (w.set i ((eu n i:Int):Rat)) ⟨J,by simp [gh],abd (by rw [wu];omega) (by rw [wu,gh]) kG (akU J).symm⟩
  ·obtain rfl:i=n+1:=by omega
   have hE:w=ij n:=by
    rw [cE J,cE (by rw [wu];omega)] at kG
    exact kG
   subst hE
   refine bw ?_
   exact lW [36] rfl rfl (dH an rfl rfl (by rw [wu]))
theorem xC {a b:Nat} (h:a+b<=9223372036854775807):dM .add .i64 (a:Nat) (b:Nat)=some (.int .i64 ((a+b:Nat):Int)):=by
 rw [zj J J];congr 2
theorem acd {a:Nat} (h:a+1<=9223372036854775807):dM .add .i64 (a:Nat) 1=some (.int .i64 ((a+1:Nat):Int)):=by
 rw [zj J J];congr 2
theorem aHQ {o:List Rat} {i:Nat} {v:Rat} (h:i<o.length):(o.set i v).getD i 0=v:=by rw [aaj _ _ _ _ h,if_pos rfl]
def wE (x:Rat) (i:Nat) (y:List Rat) (q:List Rat) (o:List Rat):Nat->List Rat
 | 0=>o
 | j+1=>(wE x i y q o j).set (i+j) ((wE x i y q o j).getD (i+j) 0+x*(y.getD j 0*q.getD j 0))
def allM (p q:List Rat):Nat->List Rat
 | 0=>aV (p.length-1+(q.length-1)+1) 0
 | i+1=>wE ((ij (p.length-1)).getD i 0*p.getD i 0) i (ij (q.length-1)) q (allM p q i) q.length
def l7 (p q:List Rat):List Rat:=(fe (p.length-1+(q.length-1)+1)).map fun k=>(allM p q p.length).getD k 0/(ij (p.length-1+(q.length-1))).getD k 0
theorem ahb (x:Rat) (i:Nat) (y q o:List Rat):∀ j,(wE x i y q o j).length=o.length
 | 0=>rfl
 | j+1=>by simp [wE,ahb x i y q o j]
theorem agI (p q:List Rat):∀ i,(allM p q i).length=p.length-1+(q.length-1)+1
 | 0=>by simp [allM]
 | i+1=>by rw [allM,ahb,agI p q i]
theorem aaG (p q:List Rat):(l7 p q).length=p.length-1+(q.length-1)+1:=by simp [l7]
theorem aAj {p q:List Rat} {k:Nat} (h:k<p.length-1+(q.length-1)+1):(l7 p q).getD k 0=(allM p q p.length).getD k 0/(ij (p.length-1+(q.length-1))).getD k 0:=by
 rw [bE,bY (by rw [aaG];exact h)];simp [l7]
theorem ans {x:Rat} {i R S:Nat} {y q o:List Rat} (hS:1<=S) (ho:∀ v∈o,rl v<=S) (hx:rl x<=R+2) (hy:∀ v∈y,rl v<=2) (hq:∀ v∈q,rl v<=R) (hR:1<=R):∀ j,∀ v∈wE x i y q o j,rl v<=S+j*(2*R+5)
 | 0,v,hv=>by have:=ho v hv;omega
 | j+1,v,hv=>by
   have ih:=ans (i:=i) hS ho hx hy hq hR j
   refine aqF (S:=S+(j+1)*(2*R+5)) (fun w hw=>?_) ?_ v hv
   ·have:=ih w hw;rw [iK];omega
   ·have h1:=gQ J ih (i+j)
    have h2:=gQ J hy j
    have h3:=gQ J hq j
    have e1:=cM (y.getD j 0) (q.getD j 0)
    have e2:=cM x (y.getD j 0*q.getD j 0)
    have e3:=nZ ((wE x i y q o j).getD (i+j) 0) (x*(y.getD j 0*q.getD j 0))
    rw [iK];omega
theorem ae0 {p q:List Rat} {R:Nat} (jf:p.length<=41) (jF:q.length<=41) (hR:1<=R) (l6:∀ v∈p,rl v<=R) (hq':∀ v∈q,rl v<=R):∀ i,∀ v∈allM p q i,rl v<=1+i*(q.length*(2*R+5))
 | 0,v,hv=>by
   simp only [allM,uc] at hv
   rw [hv.2];show rl 0<=_;rw [show rl 0=1 from rfl];omega
 | i+1,v,hv=>by
   have ih:=ae0 jf jF hR l6 hq' i
   have hx:rl ((ij (p.length-1)).getD i 0*p.getD i 0)<=R+2:=by
    have h1:=gQ J (ye (n:=p.length-1) J) i
    have h2:=gQ hR l6 i
    have:=cM ((ij (p.length-1)).getD i 0) (p.getD i 0)
    omega
   have:=ans J ih hx (ye (n:=q.length-1) J) hq' hR q.length v hv
   rw [iK];omega
theorem ayg {i j l R:Nat} (hi:i<=41) (hl:l<=41) (hj:j<=l) (hR:R<=67108864):1+i*(l*(2*R+5))+j*(2*R+5)<=231122948107:=by
 have h1:=jG hl (show 2*R+5<=134217733 by omega)
 have h2:=jG hi h1
 have h3:=jG (show j<=41 by omega) (show 2*R+5<=134217733 by omega)
 omega
theorem aIH (n x:Nat):(aV n (0:Rat)).getD x 0=0:=by
 rw [bE,auw];split<;>rfl
def gf (p:List Rat):List Rat:=if p.length<2 then [0] else(fe (p.length-1)).map fun i=>(((p.length-1:Nat):Int):Rat)*(p.getD (i+1) 0-p.getD i 0)
theorem abk {p:List Rat}:(gf p).length=if p.length<2 then 1 else p.length-1:=by unfold gf;split<;>simp
theorem axl {p:List Rat} {i:Nat} (h:i+1<p.length):(gf p).getD i 0=(((p.length-1:Nat):Int):Rat)*(p.getD (i+1) 0-p.getD i 0):=by
 unfold gf
 rw [if_neg J,bE,bY bq];simp
theorem abu {p:List Rat} {R:Nat} (hR:1<=R) (hl:p.length<=1000) (h:∀ x∈p,rl x<=R):∀ x∈gf p,rl x<=2*R+4:=by
 intro x hx
 obtain⟨k,hk,rfl⟩:=anc hx
 rw [abk] at hk
 by_cases h2:p.length<2
 ·rw [if_pos h2] at hk
  have:gf p=[0]:=by unfold gf;rw [if_pos h2]
  rw [this]
  obtain rfl:k=0:=by omega
  show rl 0<=_
  rw [show rl 0=1 from rfl];omega
 ·rw [if_neg h2] at hk
  rw [axl J]
  have h3:=av9 (n:=((p.length-1:Nat):Int)) J
  have h4:=h _ (eU (i:=k) J)
  have h5:=h _ (eU (i:=k+1) J)
  have h6:=fD (p.getD (k+1) 0) (p.getD k 0)
  have h7:=cM (((p.length-1:Nat):Int):Rat) (p.getD (k+1) 0-p.getD k 0)
  omega
namespace aw5
theorem aw {p q:Prop} (k:q) (e:p=q:=by simp only [e1,e2,e3,e4,p1,p2,p3,q1,q2,q3,l1,t0,t1,r1,r2,r3,r4,Nat.zero_add,Nat.reduceMul,Nat.reduceAdd,b1,b2,b3,b4,b5,b6,i1,i2,i3,i4,i5,i6,Nat.reduceBEq,cn,List.length_set,aG an,cA,cC,LV.kill,bH];exact rfl):p:=e.mpr k
end aw5
open aw5 in
theorem ac5 (p:List Rat) (hl:p.length<=1000) (jn:∀ x∈p,rl x<=1073741824):ax ak 228 [.list 3 (p.map aa)] (.list 3 ((gf p).map aa)):=by
 refine aR Tryz.func228 ?_
 refine dk ?_
 refine aL rfl ?_ ?_<;>intro re h8
 ·have hE:gf p=[0]:=by unfold gf;rw [if_pos J]
  refine aH ?_
  refine ah rfl rE ?_
  refine ay ?_
  rw [hE]
  exact lW [10] rfl rfl (dH an rfl rfl rfl)
 ·have mj:(gf p).length=p.length-1:=by rw [abk,if_neg J]
  refine ay ?_
  refine ah rfl nh ?_
  refine cp aO (rZ ((p.length-1:Nat):Int) J J) ?_
  refine bg ?_
  refine ah rfl nh ?_
  refine dF rfl rfl (.lf (n:=(p.length-1)) (m:=(p.length-1)) ml ml om om om) ?_
  refine bw ?_
  refine iv (fun(i:Nat) (w:List Rat) L=>(((((((St.mk L.slot (hp [(3,⟨3,[aa (((p.length-1:Nat):Int):Rat)],true⟩),(18,⟨3,w.map aa,true⟩)])).put (some 0) (.list 3 (p.map aa))).put (some 3) (.aF 3 3 0 0)).put (some 4) (.ref 18 3 0 (p.length-1))).put (some 19) (.ref 18 3 0 (p.length-1))).put (some 20) (ae (p.length-1))).put (some 21) (ae i))) (fun i w=>i<=p.length-1/\w.length=p.length-1/\w.take i=(gf p).take i) (fun i w=>p.length-1-i) 0 (aV (p.length-1) 0) ⟨bS _,by simp,rfl⟩ ?_
  rintro i w L1 ⟨hi,gh,kG⟩
  refine ay ?_
  refine aL rfl ?_ ?_<;>intro aem h22
  ·have dq:i<p.length-1:=by omega
   have gk:=jn _ (eU (i:=i) J)
   have mW:=jn _ (eU (i:=i+1) J)
   have x7:=fD (p.getD (i+1) 0) (p.getD i 0)
   have hr4:=av9 (n:=((p.length-1:Nat):Int)) J
   refine bh ?_
   refine aY 15 al ?_
   refine a7 ?_
   refine ah rfl cu ?_
   refine ay ?_
   refine cp au (oW (p.getD (i+1) 0) (p.getD i 0) J) ?_
   refine cp au (ef (((p.length-1:Nat):Int):Rat) (p.getD (i+1) 0-p.getD i 0) J) ?_
   refine bh ?_
   exact fO (i+1) (w.set i ((((p.length-1:Nat):Int):Rat)*(p.getD (i+1) 0-p.getD i 0))) ⟨J,by simp [gh],abd J J kG (axl J).symm⟩
  ·obtain rfl:i=p.length-1:=by omega
   have hE:w=gf p:=by
    rw [cE J,cE J] at kG
    exact kG
   subst hE
   refine bw ?_
   exact lW [18] rfl rfl (dH an rfl rfl mj.symm)
end Go.Proofs.YthcadngkamjpdaaGreat
namespace Go.Lg
theorem az.eF {L:St} {t:Nat} {x y:LV} (bs:List Nat) (h0:bs.contains 0=false) (h:L.slot t=x) (hi:da (L.ca bs).heap x y):az L ((L.ca bs).put (some t) y):=by
 rintro n W X Z0 a w ⟨eh,bT,μ,Z,hc,hr⟩
 obtain⟨Z1,k1,k2⟩:=hc.v7 (ux bs h0)
 refine⟨eh,bT,μ,Z1,by rw [mz];exact k1,fun s=>?_⟩
 have dS:Frame Z μ w w:=⟨fun _ _=>rfl,fun _ id _ c _ _ hh=>⟨c,hh,rfl⟩⟩
 have hs:=(hr s).mono k2 (fun _ _ h=>h) dS
 rw [iI]
 split
 ·rename_i eI
  subst eI
  rw [h] at hs
  exact bu.sn (LV.dG hi.lay.2.2) (hi.abf k1 hs)
 ·exact hs
end Go.Lg
namespace Go.Proofs.YthcadngkamjpdaaGreat
open Go.Lg
theorem aDv {a:Rat} (h:0<a):di a=1:=by unfold di;rw [if_neg dz,if_neg dz]
theorem aBw {a:Rat} (h:a<0):di a=-1:=by unfold di;rw [if_neg dz,if_pos h]
theorem aF4 (a:Rat):(a=0/\di a=0)\/(0<a/\di a=1)\/(a<0/\di a=-1):=by
 by_cases h:a=0
 ·exact .inl ⟨h,by rw [h];rfl⟩
 ·by_cases h1:a<0
  ·exact .inr (.inr ⟨h1,aBw h1⟩)
  ·have:0<a:=by grind
   exact .inr (.inl ⟨this,aDv this⟩)
theorem apb {a:Rat} (h:di a≠0):a≠0:=fun e=>h (by rw [e];rfl)
def rtV (n d:Int):Rat:=((n % 41-20:Int):Rat)/((d % 8+1:Int):Rat)
def fE (a b:Rat):Nat->(Nat->Rat)->Rat
 | 0,f=>f 0
 | n+1,f=>fE a b n (fun i=>a*f i+b*f (i+1))
theorem yM (a b:Rat):∀ (n:Nat) (f g:Nat->Rat),(∀ i,i<=n->f i=g i)->fE a b n f=fE a b n g
 | 0,f,g,h=>h 0 (bF _)
 | n+1,f,g,h=>yM a b n _ _ fun i hi=>by rw [h i J,h (i+1) J]
theorem ajr (a b c d:Rat):∀ (n:Nat) (f g:Nat->Rat),fE a b n (fun i=>c*f i+d*g i)=c*fE a b n f+d*fE a b n g
 | 0,f,g=>rfl
 | n+1,f,g=>by
  rw [fE,fE,fE,<-ajr a b c d n]
  congr 1;funext i;grind
theorem aj8 (a b:Rat) (n:Nat) (f:Nat->Rat):fE a b (n+1) f=a*fE a b n f+b*fE a b n (fun i=>f (i+1)):=ajr a b a b n f (fun i=>f (i+1))
theorem alJ (a b u v:Rat):∀ (n:Nat) (f:Nat->Rat),fE a b n (fun k=>fE u v k f)=fE (a+b*u) (b*v) n f
 | 0,f=>rfl
 | n+1,f=>by
  rw [aj8,alJ a b u v n f]
  have e:=alJ a b u v n (fun i=>u*f i+v*f (i+1))
  have e2:(fun i=>fE u v (i+1) f)=(fun k=>fE u v k (fun i=>u*f i+v*f (i+1))):=rfl
  rw [e2,e,<-ajr]
  show fE _ _ n _=fE _ _ n _
  congr 1;funext i;grind
theorem aki (t:Rat):∀ (k:Nat) (q:List Rat),k<q.length->(wG t q.length q).getD k 0=fE (1-t) t k (fun i=>q.getD i 0)
 | 0,q,h=>by
  obtain⟨m,hm⟩:∃ m,q.length=m+1:=⟨q.length-1,J⟩
  rw [hm];rfl
 | k+1,q,h=>by
  obtain⟨m,hm⟩:∃ m,q.length=m+1:=⟨q.length-1,J⟩
  have hs:(jd t q).length=m:=by rw [sL];omega
  have:=aki t k (jd t q) J
  rw [hs] at this
  rw [hm,wG,List.getD_cons_succ,this,fE]
  exact yM _ _ _ _ _ fun i hi=>aeD t q i J
theorem aJr {p:List Rat} {t:Rat} (h:0<p.length):eB p t=fE (1-t) t (p.length-1) (fun i=>p.getD i 0):=aki t _ p J
theorem aof:∀ (n:Nat) (f:Nat->Rat),fE 0 1 n f=f n
 | 0,f=>rfl
 | n+1,f=>by rw [fE,aof n];grind
theorem aks {t:Rat} {C M:Nat} (hC:rl (1-t)+rl t+1<=C):∀ (k:Nat) (q:List Rat),q.length=k->(∀ x∈q,(rl x+C)*2 ^ k<=M)->∀ x∈wG t k q,rl x+C<=M
 | 0,q,_,_,x,hx=>by cases hx
 | k+1,q,hq,h,x,hx=>by
  rw [wG,ff] at hx
  rcases hx with rfl | hx
  ·exact acf (h _ (eU J))
  ·exact aks hC k (jd t q) (by rw [sL];omega) (aj7 hC h) x hx
theorem apr {t:Rat} {C M:Nat} (hC:rl (1-t)+rl t+1<=C):∀ (k:Nat) (q tl:List Rat),q.length=k->(∀ x∈q,(rl x+C)*2 ^ k<=M)->(∀ x∈tl,rl x+C<=M)->∀ x∈uJ t k q tl,rl x+C<=M
 | 0,q,tl,hq,_,h2,x,hx=>by
  obtain rfl:q=[]:=oC hq
  exact h2 x hx
 | k+1,q,tl,hq,h,h2,x,hx=>by
  refine apr hC k (jd t q) _ (by rw [sL];omega) (aj7 hC h) (fun y hy=>?_) x hx
  rcases ff.1 hy with rfl | hy
  ·exact acf (h _ (eU J))
  ·exact h2 y hy
theorem HS.lo {p:List Rat} {t:Rat} (h:HS p t):∀ x∈nK p t,Go.Lg.rl x<=1073741824:=fun x hx=>by
 obtain⟨cc,h1,h2,h3⟩:=h
 have:=aks h1 p.length p rfl h3 x hx
 omega
theorem HS.hi {p:List Rat} {t:Rat} (h:HS p t):∀ x∈mS p t,Go.Lg.rl x<=1073741824:=fun x hx=>by
 obtain⟨cc,h1,h2,h3⟩:=h
 have:=apr h1 p.length p [] rfl h3 (fun y hy=>by cases hy) x hx
 omega
theorem HS.ev {p:List Rat} {t:Rat} (h:HS p t):Go.Lg.rl (eB p t)<=1073741824:=gQ ai h.lo _
theorem aku (a b:Rat):∀ (n:Nat) (f:Nat->Rat),fE a b n f=fE b a n (fun i=>f (n-i))
 | 0,f=>rfl
 | n+1,f=>by
  rw [aj8,aj8,aku a b n f,aku a b n (fun i=>f (i+1))]
  have e1:fE b a n (fun i=>f (n-i+1))=fE b a n (fun i=>f (n+1-i)):=yM _ _ _ _ _ fun i hi=>by congr 1;omega
  have e2:(fun i=>f (n+1-(i+1)))=fun i=>f (n-i):=by funext i;congr 1;omega
  rw [e1,e2];grind
theorem apM (t:Rat):∀ (k:Nat) (q tl:List Rat),q.length=k->∀ j,j<k->(uJ t k q tl).getD j 0=fE (1-t) t (k-1-j) (fun i=>q.getD (j+i) 0)
 | 0,_,_,_,j,h=>by omega
 | k+1,q,tl,hq,j,hj=>by
  rw [uJ]
  have hs:(jd t q).length=k:=by rw [sL];omega
  rcases kD j k with h | h
  ·rw [apM t k _ _ hs j h,show k+1-1-j=k-1-j+1 by omega,fE]
   exact yM _ _ _ _ _ fun i hi=>by rw [aeD t q _ J];rfl
  ·obtain rfl:j=k:=by omega
   rw [show j+1-1-j=0 by omega]
   have hE:∀ (m:Nat) (q' tl':List Rat),q'.length=m->∀ x,(uJ t m q' tl').getD (m+x) 0=tl'.getD x 0:=by
    intro m
    induction m with
    | zero=>intro q' tl' h x;obtain rfl:q'=[]:=oC h;rw [fg];rfl
    | succ m ih =>
     intro q' tl' h x
     rw [uJ,show m+1+x=m+(x+1) by omega,ih _ _ (by rw [sL];omega)];rfl
   have:=hE j (jd t q) (q.getD j 0 :: tl) hs 0
   rw [mg] at this
   rw [this];rfl
theorem ahK {p:List Rat} {j:Nat} (h:j<p.length) (t:Rat):(mS p t).getD j 0=fE (1-t) t (p.length-1-j) (fun i=>p.getD (j+i) 0):=apM t _ p [] rfl j h
theorem ahQ {p:List Rat} {j:Nat} (h:j<p.length) (t:Rat):(nK p t).getD j 0=fE (1-t) t j (fun i=>p.getD i 0):=aki t j p h
def fG (p:List Rat) (a b:Rat):List Rat:=if a=1 then nK (mS p.reverse 0) ((1-b-0)/(1-0)) else nK (mS p a) ((b-a)/(1-a))
theorem avp:∀ (n:Nat) (f:Nat->Rat),fE 1 0 n f=f 0
 | 0,f=>rfl
 | n+1,f=>by rw [fE,avp n];grind
theorem aHP (p:List Rat):mS p 0=p:=by
 refine agX (zV p 0) fun j hj=>?_
 rw [zV] at hj
 rw [ahK hj,show (1:Rat)-0=1 from by grind,avp];rfl
theorem arH (p:List Rat) (a b:Rat):wR p a b=fG p a b:=by
 unfold wR fG
 by_cases ha:a=1
 ·subst ha
  rw [if_neg dz,if_pos rfl,aHP]
  have e0:(1-b-0)/(1-0)=1-b:=by rw [show (1:Rat)-0=1 by grind,show (1:Rat)-b-0=1-b by grind,qh,Rat.inv_eq_of_mul_eq_one (show (1:Rat)*1=1 by grind),vv]
  rw [e0]
  have hr:p.reverse.length=p.length:=List.length_reverse
  by_cases hb:b=0
  ·subst hb
   rw [if_neg dz]
   refine agX (by rw [y8]) fun j hj=>?_
   rw [ahQ hj,show (1:Rat)-(1-0)=0 by grind,show (1:Rat)-0=1 by grind,aof]
  ·rw [if_pos hb]
   refine agX (by rw [zV,y8,y8,hr]) fun j hj=>?_
   rw [zV,y8] at hj
   rw [ahK (by rw [y8];exact hj),y8,ahQ (by rw [hr];exact hj)]
   have e1:fE (1-1/b) (1/b) (p.length-1-j) (fun i=>(nK p b).getD (j+i) 0)=fE (1-1/b) (1/b) (p.length-1-j) (fun k=>fE (1-b) b k (fun i=>fE (1-b) b j (fun x=>p.getD (i+x) 0))):=by
    refine yM _ _ _ _ _ fun i hi=>?_
    rw [ahQ J]
    have aAh:∀ (i j:Nat) (f:Nat->Rat),fE (1-b) b (j+i) f=fE (1-b) b i (fun y=>fE (1-b) b j (fun x=>f (y+x))):=by
     intro i
     induction i with
     | zero=>intro j f;show fE (1-b) b j f=fE (1-b) b j (fun x=>f (0+x));simp only [fg]
     | succ i ih =>
      intro j f
      rw [show j+(i+1)=(j+i)+1 by omega,fE,ih j,fE]
      refine yM _ _ _ _ _ fun y hy=>?_
      have:=ajr (1-b) b (1-b) b j (fun x=>f (y+x)) (fun x=>f (y+x+1))
      rw [this]
      congr 3
      funext x;congr 1;omega
    exact aAh i j _
   have hi:=Rat.mul_inv_cancel _ hb
   rw [e1,alJ,show (1-1/b)+(1/b)*(1-b)=0 by rw [qh];grind,show 1/b*b=1 by rw [qh];grind,aof,aku]
   rw [show (1:Rat)-(1-b)=b by grind]
   refine yM _ _ _ _ _ fun i hi=>?_
   rw [aoT p J]
   congr 1;omega
 ·rw [if_pos dz,if_neg ha]
theorem aAi (p:List Rat) (a b:Rat):(wR p a b).length=p.length:=by
 unfold wR
 split
 ·rw [y8,zV]
 ·split
  ·rw [zV,y8]
  ·simp
def eM (a b:Rat):Rat:=if b<a then b else a
def er (a b:Rat):Rat:=if a<b then b else a
def iV (s:Rat × Rat) (t:Rat × Rat):Rat × Rat:=(eM s.1 t.1,er s.2 t.2)
def kJ (p:List Rat):Nat->Rat × Rat
 | 0=>(0,0)
 | k+1=>iV (if k=0 then(p.getD k 0,p.getD k 0) else kJ p k) (p.getD k 0,p.getD k 0)
def de (p:List Rat):Rat × Rat:=kJ p p.length
theorem ajI (a:Rat):eM a a=a:=by unfold eM;split<;>rfl
theorem agu (a:Rat):er a a=a:=by unfold er;split<;>rfl
theorem aJQ (a b:Rat):eM a b<=a/\eM a b<=b/\(eM a b=a\/eM a b=b):=by unfold eM;split<;>grind
theorem aFe (a b:Rat):a<=er a b/\b<=er a b/\(er a b=a\/er a b=b):=by unfold er;split<;>grind
theorem aec (p:List Rat):∀ k,(∀ i,i<k->(kJ p k).1<=p.getD i 0/\p.getD i 0<=(kJ p k).2)/\(0<k->(∃ i,i<k/\(kJ p k).1=p.getD i 0)/\∃ i,i<k/\(kJ p k).2=p.getD i 0)
 | 0=>⟨fun i h=>by omega,fun h=>by omega⟩
 | k+1=>by
  obtain⟨h1,h2⟩:=aec p k
  rw [kJ]
  by_cases hk:k=0
  ·subst hk
   rw [if_pos rfl]
   simp only [iV,ajI,agu]
   refine⟨fun i hi=>?_,fun _=>⟨⟨0,J,rfl⟩,⟨0,J,rfl⟩⟩⟩
   obtain rfl:i=0:=by omega
   exact⟨nI,nI⟩
  ·rw [if_neg hk]
   obtain⟨⟨i,hi,ei⟩,⟨j,hj,ej⟩⟩:=h2 J
   have a:=aJQ (kJ p k).1 (p.getD k 0)
   have b:=aFe (kJ p k).2 (p.getD k 0)
   simp only [iV]
   refine⟨fun x hx=>?_,fun _=>⟨?_,?_⟩⟩
   ·by_cases tL:x=k
    ·subst tL;exact⟨a.2.1,b.2.1⟩
    ·have:=h1 x J
     exact⟨ag5 a.1 this.1,ag5 this.2 b.1⟩
   ·rcases a.2.2 with e | e
    ·exact⟨i,J,by rw [e,ei]⟩
    ·exact⟨k,J,e⟩
   ·rcases b.2.2 with e | e
    ·exact⟨j,J,by rw [e,ej]⟩
    ·exact⟨k,J,e⟩
theorem agp {p:List Rat} {R:Nat} (hR:1<=R) (h:∀ k,rl (p.getD k 0)<=R):∀ k,rl (kJ p k).1<=R/\rl (kJ p k).2<=R
 | 0=>⟨hR,hR⟩
 | k+1=>by
  obtain⟨⟨i,_,ei⟩,⟨j,_,ej⟩⟩:=(aec p (k+1)).2 J
  rw [ei,ej]
  exact⟨h i,h j⟩
theorem ahL {p:List Rat} {R:Nat} (hR:1<=R) (h:∀ x∈p,rl x<=R) (k:Nat):rl (p.getD k 0)<=R:=gQ hR h k
theorem ae1 {a b:Rat}:gp a b<=0↔a<=b:=by
 unfold gp;split
 ·rename_i h;exact⟨fun _=>mZ h,fun _=>by decide⟩
 ·split
  ·rename_i h;exact⟨fun e=>absurd e ai,fun e=>absurd h (aeY.2 e)⟩
  ·rename_i h;exact⟨fun _=>aeY.1 h,fun _=>by decide⟩
def jr (s:Rat × Rat) (x:Rat):Bool:=decide (s.1<=x) && decide (x<=s.2)
theorem aqA {s:Rat × Rat} {x:Rat} (h:decide (gp s.1 x<=0)=true):decide (gp x s.2<=0)=jr s x:=by
 unfold jr
 rw [decide_eq_true (ae1.1 (of_decide_eq_true h)),Bool.true_and,decide_eq_decide,ae1]
theorem axx {s:Rat × Rat} {x:Rat} (h:decide (gp s.1 x<=0)=false):false=jr s x:=by
 unfold jr
 rw [decide_eq_false (fun e=>of_decide_eq_false h (ae1.2 e)),Bool.false_and]
theorem zM {p:List Rat} {R:Nat} (hR:1<=R) (h:∀ x∈p,rl x<=R):rl (de p).1<=R/\rl (de p).2<=R:=agp hR (ahL hR h) p.length
open H0 in
theorem xN (a b:Rat) (h:rl a+rl b<=549755813888):ax ak 75 [aa a,aa b] (aD (eM a b,er a b)):=by
 refine aR Tryz.func75 ?_
 refine bg ?_
 refine aY 7 al ?_
 refine aH ?_
 refine cp au (ajg _ _ J) ?_
 refine aH ?_
 refine cp au (ah2 _ _ J) ?_
 refine a7 ?_
 exact od
namespace awY
theorem aw {p q:Prop} (k:q) (e:p=q:=by simp only [e1,e2,e3,e4,p1,p2,p3,q1,q2,q3,l1,t0,t1,r1,r2,r3,r4,Nat.zero_add,Nat.reduceMul,Nat.reduceAdd,b1,b2,b3,b4,b5,b6,i1,i2,i3,i4,i5,i6,Nat.reduceBEq,ajI,agu];exact rfl):p:=e.mpr k
end awY
open awY in
theorem nD (a:Rat) (h:rl a+rl a<=549755813888):ax ak 155 [aa a] (aD (a,a)):=by
 refine aR Tryz.func155 ?_
 refine bh ?_
 refine cp au (xN _ _ J) ?_
 refine aB ?_
 exact od
open H0 in
theorem s9 (s t:Rat × Rat) (h1:rl s.1+rl t.1<=549755813888) (h2:rl s.2+rl t.2<=549755813888):ax ak 156 [aD s,aD t] (aD (iV s t)):=by
 refine aR Tryz.func156 ?_
 refine bg ?_
 refine aY 11 al ?_
 refine aB ?_
 refine cp au (ajg _ _ J) ?_
 refine aB ?_
 refine cp au (ah2 _ _ J) ?_
 refine a7 ?_
 exact od
namespace akz
theorem aw {p q:Prop} (k:q) (e:p=q:=by simp only [e1,e2,e3,e4,p1,p2,p3,q1,q2,q3,l1,t0,t1,r1,r2,r3,r4,Nat.zero_add,Nat.reduceMul,Nat.reduceAdd,b1,b2,b3,b4,b5,b6,i1,i2,i3,i4,i5,i6,Nat.reduceBEq,cn,tf,aG an,cA,cC,LV.kill,bH];exact rfl):p:=e.mpr k
end akz
open akz in
theorem ah9 (p:List Rat) (hl:p.length<=1048576) (jn:∀ x∈p,rl x<=137438953472):ax ak 193 [.list 3 (p.map aa)] (aD (de p)):=by
 refine aR Tryz.func193 ?_
 have tf:True:=trivial
 refine nc ?_
 refine dI (fun(k:Nat) L=>((((((St.mk L.slot (hp [(2,⟨6,[aD (0,0)],true⟩),(3,⟨6,[aD (kJ p k)],true⟩)])).put (some 2) (.aF 2 6 0 0)).put (some 3) (.aF 3 6 0 0)).put (some 6) (.list 3 (p.map aa))).put (some 7) (ae p.length)).put (some 8) (ae k))) (fun k=>k<=p.length) (fun k=>p.length-k) 0 (bS _) ?_
 rintro k L1 hk
 refine ay ?_
 refine aL rfl ?_ ?_<;>intro wg h9
 ·have lS:k<p.length:=by omega
  have gk:=ahL (R:=137438953472) ai jn
  have mW:=gk k
  have x7:=agp ai gk k
  have hr4:rl ((p.getD k 0,p.getD k 0):Rat × Rat).1<=137438953472:=mW
  have hr5:rl ((p.getD k 0,p.getD k 0):Rat × Rat).2<=137438953472:=mW
  have tf:kJ p (k+1)=iV (if k=0 then(p.getD k 0,p.getD k 0) else kJ p k) (p.getD k 0,p.getD k 0):=rfl
  refine sE ?_
  refine aL rfl ?_ ?_<;>intro um nA
  ·have lJ:k=0:=by omega
   rw [if_pos lJ] at tf
   refine aH ?_
   refine cp aO (nD _ J) ?_
   refine aQ ?_
   refine aY 4 al ?_
   refine aH ?_
   refine cp aO (nD _ J) ?_
   refine cp au (s9 _ _ J J) ?_
   refine aB ?_
   refine bR (az.kill _ 5) ?_
   refine aB ?_
   exact yb
  ·have lJ:¬ k=0:=by omega
   rw [if_neg lJ] at tf
   refine aH ?_
   refine aY 4 al ?_
   refine aH ?_
   refine cp aO (nD _ J) ?_
   refine cp au (s9 _ _ J J) ?_
   refine aB ?_
   refine bR (az.kill _ 5) ?_
   refine aB ?_
   exact yb
 ·obtain rfl:k=p.length:=by omega
  refine bw ?_
  exact od
open H0 in
theorem arj (s:Rat × Rat) (x:Rat) (h1:rl s.1+rl x<=34359738368) (h2:rl x+rl s.2<=34359738368):ax ak 11 [aD s,aa x] (bL (jr s x)):=by
 refine aR Tryz.func11 ?_
 refine bw ?_
 refine cp au (agJ _ _ J) ?_
 refine aH ?_
 refine ep 10 rfl ?_ ?_<;>intro pA sC
 ·refine aQ ?_
  refine cp au (agJ _ _ J) ?_
  refine ay ?_
  rw [<-aqA pA]
  exact dR
 ·refine bh ?_
  rw [<-axx pA]
  exact dR
open H0 in
theorem ari (n d:Int) (hn:-9223372036854775808<=n/\n<=9223372036854775807) (hd:-9223372036854775808<=d/\d<=9223372036854775807):ax ak 16 [iL n,iL d] (aa (rtV n d)):=by
 have h1:=adB n (show (41:Int)≠0 by decide)
 have h2:=adf n (show (0:Int)<41 by decide)
 have h3:=adB d (show (8:Int)≠0 by decide)
 have h4:=adf d (show (0:Int)<8 by decide)
 refine aR Tryz.func16 ?_
 refine bg ?_
 refine cp au (akJ n 41 ai ai) ?_
 refine ah rfl aaK ?_
 refine ao ?_
 refine cp au (akJ d 8 ai ai) ?_
 refine ah rfl afa ?_
 refine cp au (awq (n % 41-20) (d % 8+1) J J J J J) ?_
 refine aB ?_
 exact jJ
def ym (p q:V3):V3:=⟨p.x+q.x,p.y+q.y,p.z+q.z⟩
def mY (p q:V3):V3:=⟨p.x-q.x,p.y-q.y,p.z-q.z⟩
def kK (r:Rat) (p:V3):V3:=⟨r*p.x,r*p.y,r*p.z⟩
def cJ (p q:V3):Rat:=0+p.x*q.x+p.y*q.y+p.z*q.z
def cP (R:Nat) (p:V3):Prop:=rl p.x<=R/\rl p.y<=R/\rl p.z<=R
theorem cP.le {R S:Nat} {p:V3} (h:cP R p) (hRS:R<=S):cP S p:=⟨bb h.1 hRS,bb h.2.1 hRS,bb h.2.2 hRS⟩
theorem acm {R S:Nat} {p q:V3} (hp:cP R p) (hq:cP S q):rl (cJ p q)<=3*(R+S)+4:=by
 obtain⟨a1,a2,a3⟩:=hp
 obtain⟨b1,b2,b3⟩:=hq
 have h1:=cM p.x q.x
 have h2:=cM p.y q.y
 have h3:=cM p.z q.z
 have h4:=nZ 0 (p.x*q.x)
 have h5:=nZ (0+p.x*q.x) (p.y*q.y)
 have h6:=nZ (0+p.x*q.x+p.y*q.y) (p.z*q.z)
 have h0:rl 0=1:=rfl
 unfold cJ
 omega
def wq (a b p:V3):Rat :=
 if cJ (mY p a) (mY b a)<=0 then cJ (mY p a) (mY p a)
 else if cJ (mY b a) (mY b a)<=cJ (mY p a) (mY b a) then cJ (mY p b) (mY p b)
 else cJ (mY p (ym a (kK (cJ (mY p a) (mY b a)/cJ (mY b a) (mY b a)) (mY b a)))) (mY p (ym a (kK (cJ (mY p a) (mY b a)/cJ (mY b a) (mY b a)) (mY b a))))
def k5 (R:Nat) (q:ar):Prop:=cP R q.p/\rl q.w<=R/\0<q.w
theorem cB (q:V3) (b:Nat):(aE q).kill b=aE q:=LV.nz b _ (aX.pure q)
theorem dB (q:ar) (b:Nat):(bm q).kill b=bm q:=LV.nz b _ (bz.pure q)
namespace ar0
theorem aw {p q:Prop} (k:q) (e:p=q:=by simp only [e1,e2,e3,e4,p1,p2,p3,q1,q2,q3,l1,t0,t1,r1,r2,r3,r4,Nat.zero_add,Nat.reduceMul,Nat.reduceAdd,b1,b2,b3,b4,b5,b6,i1,i2,i3,i4,i5,i6,Nat.reduceBEq,vo];exact rfl):p:=e.mpr k
end ar0
open ar0 in
theorem as1 (f:Nat) (g:Rat->Rat->Rat) (p q:V3) (h1:ax ak f [aa p.x,aa q.x] (aa (g p.x q.x))) (h2:ax ak f [aa p.y,aa q.y] (aa (g p.y q.y))) (h3:ax ak f [aa p.z,aa q.z] (aa (g p.z q.z))):ax ak 250 [aE p,aE q,.bQ f []] (aE ⟨g p.x q.x,g p.y q.y,g p.z q.z⟩):=by
 refine aR Tryz.func250 (ht:=(fun r=>LV.cQ r _ (aX.pure _))) ?_
 refine nc ?_
 refine bc ?_
 refine ay ?_
 refine bI (b:=_) rfl ai ?_
 refine bh ?_
 refine aY 10 al ?_
 refine bg ?_
 refine eN [] rfl rfl (.bQ (f:=f) (cap:=[]) (args:=[aa p.x,aa q.x]) rfl (.cons cG (.cons cG .nil)) ⟨rfl,fun _ h=>by cases h⟩ h1.1 ai (fun _ h=>by cases h)) (h1.2 _) ?_
 refine bh ?_
 refine bc ?_
 refine ay ?_
 refine bI (b:=_) rfl ai ?_
 refine bh ?_
 refine aY 10 al ?_
 refine bg ?_
 refine eN [] rfl rfl (.bQ (f:=f) (cap:=[]) (args:=[aa p.y,aa q.y]) rfl (.cons cG (.cons cG .nil)) ⟨rfl,fun _ h=>by cases h⟩ h2.1 ai (fun _ h=>by cases h)) (h2.2 _) ?_
 refine bh ?_
 refine bc ?_
 refine ay ?_
 refine bI (b:=_) rfl ai ?_
 refine bh ?_
 refine aY 10 al ?_
 refine bg ?_
 refine eN [] rfl rfl (.bQ (f:=f) (cap:=[]) (args:=[aa p.z,aa q.z]) rfl (.cons cG (.cons cG .nil)) ⟨rfl,fun _ h=>by cases h⟩ h3.1 ai (fun _ h=>by cases h)) (h3.2 _) ?_
 refine bh ?_
 refine bc ?_
 refine ay ?_
 refine dp (b:=_) rfl ai ?_
 refine bw ?_
 exact yI
open H0 in
theorem awp (p q:V3) (R:Nat) (hR:R<=100000000000) (hp:cP R p) (hq:cP R q):ax ak 223 [aE p,aE q] (aE (ym p q)):=by
 obtain⟨a1,a2,a3⟩:=hp
 obtain⟨b1,b2,b3⟩:=hq
 refine aR Tryz.func223 (ht:=(fun r=>LV.cQ r _ (aX.pure _))) ?_
 refine bC ?_
 refine cp gM (as1 111 (·+·) p q (fA _ _ J) (fA _ _ J) (fA _ _ J)) ?_
 refine aB ?_
 exact yI
open H0 in
theorem ahc (r:Rat) (p:V3) (R:Nat) (hR:R<=100000000000) (hr:rl r<=R) (hp:cP R p):ax ak 197 [aa r,aE p] (aE (kK r p)):=by
 obtain⟨a1,a2,a3⟩:=hp
 refine aR Tryz.func197 (ht:=(fun r=>LV.cQ r _ (aX.pure _))) ?_
 refine df ?_
 refine cp gM (as1 224 (·*·) ⟨r,r,r⟩ p (ef r p.x J) (ef r p.y J) (ef r p.z J)) ?_
 refine aB ?_
 exact yI
open H0 in
theorem aeZ (p q:V3) (R:Nat) (hR:R<=1000000000) (hp:cP R p) (hq:cP R q):ax ak 251 [aE p,aE q] (aa (cJ p q)):=by
 obtain⟨a1,a2,a3⟩:=hp
 obtain⟨b1,b2,b3⟩:=hq
 have m1:=cM p.x q.x
 have m2:=cM p.y q.y
 have m3:=cM p.z q.z
 have s1:=nZ 0 (p.x*q.x)
 have s2:=nZ (0+p.x*q.x) (p.y*q.y)
 have hz0:rl 0=1:=rfl
 refine aR Tryz.func251 ?_
 refine nc ?_
 refine bc ?_
 refine ay ?_
 refine bI (b:=_) rfl ai ?_
 refine bh ?_
 refine aY 9 al ?_
 refine bf ?_
 refine cp au (ef p.x q.x J) ?_
 refine cp au (fA 0 (p.x*q.x) J) ?_
 refine bB ?_
 refine bc ?_
 refine ay ?_
 refine bI (b:=_) rfl ai ?_
 refine bh ?_
 refine aY 9 al ?_
 refine bf ?_
 refine cp au (ef p.y q.y J) ?_
 refine cp au (fA (0+p.x*q.x) (p.y*q.y) J) ?_
 refine bB ?_
 refine bc ?_
 refine ay ?_
 refine bI (b:=_) rfl ai ?_
 refine bh ?_
 refine aY 9 al ?_
 refine bf ?_
 refine cp au (ef p.z q.z J) ?_
 refine cp au (fA (0+p.x*q.x+p.y*q.y) (p.z*q.z) J) ?_
 refine bB ?_
 refine bc ?_
 refine ay ?_
 refine dp (b:=_) rfl ai ?_
 refine bw ?_
 exact jJ
open H0 in
theorem aGS (p q:V3) (R:Nat) (hR:R<=1000000000) (hp:cP R p) (hq:cP R q):ax ak 58 [aE p,aE q] (aE (ym p q)):=by
 obtain⟨a1,a2,a3⟩:=hp
 obtain⟨b1,b2,b3⟩:=hq
 refine aR Tryz.func58 (ht:=(fun r=>LV.cQ r _ (aX.pure _))) ?_
 refine df ?_
 refine bc ?_
 refine bf ?_
 refine bI (b:=_) rfl ai ?_
 refine aB ?_
 refine aY 9 al ?_
 refine bf ?_
 refine cp au (aou p.x q.x J) ?_
 refine bC ?_
 refine bc ?_
 refine bf ?_
 refine bI (b:=_) rfl ai ?_
 refine aB ?_
 refine aY 9 al ?_
 refine bf ?_
 refine cp au (aou p.y q.y J) ?_
 refine bC ?_
 refine bc ?_
 refine bf ?_
 refine bI (b:=_) rfl ai ?_
 refine aB ?_
 refine aY 9 al ?_
 refine bf ?_
 refine cp au (aou p.z q.z J) ?_
 refine bC ?_
 refine bc ?_
 refine bf ?_
 refine dp (b:=_) rfl ai ?_
 refine bw ?_
 exact yI
theorem zL {a b:Rat}:0<=gp a b↔b<=a:=by
 unfold gp
 constructor
 ·intro h
  split at h
  ·exact absurd h ai
  ·grind
 ·intro h
  split
  ·exfalso;grind
  ·split<;>decide
end Go.Proofs.YthcadngkamjpdaaGreat
namespace Go.Lg
theorem amU {P:Program} {f:FuncId} {args:List LV} {sz n:Nat} {vals:List LV} {mt:Bool} (h:pC P f args (.ref 1 sz 0 n) [⟨sz,vals,mt⟩]) (hp:aK vals=true) (hn:vals.length=n):ax P f args (.list sz vals):=by
 refine⟨⟨h.1,fun W Z0 vs hz hr=>Calls.mono (h.2 W Z0 vs hz hr) (fun e w'=>?_)⟩,fun g=>LV.cQ g _ (by simp [LV.pure,hp])⟩
 rintro⟨v,μ,Z,he,hc,hv⟩
 have hle:b9.le (oM [⟨sz,vals,mt⟩]) (oM [⟨sz,vals,false⟩]):=fun b blk hb=>by
  unfold oM at hb ⊢
  by_cases h0:b=0
  ·rw [if_pos h0] at hb;cases hb
  ·rw [if_neg h0] at hb
   rcases kD (b-1) 1 with h1 | h1
   ·have e:b-1=0:=by omega
    rw [e] at hb
    simp only [List.getElem?_cons_zero,fv] at hb
    subst hb
    exact⟨false,by rw [if_neg h0,e];rfl,fun _=>rfl,fun _ _=>h0⟩
   ·rw [abg (by simpa using h1)] at hb;cases hb
 obtain⟨Z1,k1,k2⟩:=hc.v7 hle
 have dS:Frame Z μ w' w':=⟨fun _ _=>rfl,fun _ id _ c _ _ hh=>⟨c,hh,rfl⟩⟩
 have yP:=hv.mono k2 (fun _ _ h=>h) dS
 have hi:da (oM [⟨sz,vals,false⟩]) (.ref 1 sz 0 n) (.list sz vals):=by
  have:=da.ref (H:=oM [⟨sz,vals,false⟩]) (b:=1) (off:=0) (len:=n) (blk:=⟨sz,vals,false⟩) rfl rfl hp (by simp [hn]) rfl
  simpa [<-hn] using this
 refine⟨v,ko μ 1,Z1,he,?_,bu.sn (fun l h=>by cases h) (hi.abf k1 yP)⟩
 have kk:=Core.kill (L:=⟨fun _=>.any,oM [⟨sz,vals,false⟩]⟩) 1 ai k1
 refine kk.aiq fun b id hb=>?_
 have hb1:b≠1:=fun e=>by rw [e] at hb;simp [ko] at hb
 have hb2:μ b=some id:=by unfold ko at hb;split at hb<;>first | exact hb | cases hb
 obtain⟨blk,g1,_⟩:=k1.heap b id hb2
 unfold oM at g1
 split at g1
 ·cases g1
 ·rw [abg bq] at g1;cases g1
end Go.Lg
namespace Go.Proofs.YthcadngkamjpdaaGreat
open Go.Lg
theorem ayp (p:List Rat) (hl:p.length<=1048576) (jn:∀ x∈p,rl x<=274877906944):ax ak 190 [.list 3 (p.map aa)] (.list 3 (p.map aa)) :=
 amU (aoB p hl jn) (aP an _) aW
def z6 (p:List Rat) (i:Nat):Rat:=(if 0<i then((i:Int):Rat)/((p.length:Int):Rat)*p.getD (i-1) 0 else 0)+(if i<p.length then(((p.length:Int)-(i:Int):Int):Rat)/((p.length:Int):Rat)*p.getD i 0 else 0)
def tT (p:List Rat):List Rat:=(fe (p.length+1)).map (z6 p)
def zU:Nat->List Rat->List Rat
 | 0,p=>p
 | k+1,p=>zU k (tT p)
def iA (p:List Rat) (n:Nat):List Rat:=zU (n+1-p.length) p
theorem p8 (p:List Rat):(tT p).length=p.length+1:=by simp [tT]
theorem ank {p:List Rat} {i:Nat} (h:i<p.length+1):(tT p).getD i 0=z6 p i:=by
 rw [bE,bY (by rw [p8];exact h)];simp [tT]
theorem av0:∀ (k:Nat) (p:List Rat),(zU k p).length=p.length+k
 | 0,p=>rfl
 | k+1,p=>by rw [zU,av0 k,p8];omega
theorem aeB {p:List Rat} {n:Nat} (h:p.length<=n+1):(iA p n).length=n+1:=by rw [iA,av0];omega
theorem aJe {p:List Rat} {i:Nat} (h0:0<i) (h1:i<p.length):z6 p i=((i:Int):Rat)/((p.length:Int):Rat)*p.getD (i-1) 0+(((p.length:Int)-(i:Int):Int):Rat)/((p.length:Int):Rat)*p.getD i 0:=by
 rw [z6,if_pos h0,if_pos h1]
theorem aJ9 {p:List Rat} {i:Nat} (h0:0<i) (h1:¬ i<p.length):z6 p i=((i:Int):Rat)/((p.length:Int):Rat)*p.getD (i-1) 0:=by
 rw [z6,if_pos h0,if_neg h1,jC]
theorem aD5 {p:List Rat} {i:Nat} (h0:¬ 0<i) (h1:i<p.length):z6 p i=(((p.length:Int)-(i:Int):Int):Rat)/((p.length:Int):Rat)*p.getD i 0:=by
 rw [z6,if_neg h0,if_pos h1,Rat.zero_add]
def nj (p:List Rat) (n:Nat):Prop:=(∀ x∈p,rl x<=1073741824)/\∀ k,p.length+k<=n+1->∀ x∈zU k p,rl x<=1073741824
theorem ajE {p:List Rat} {n:Nat} (h:nj p n) (k:Nat):rl (p.getD k 0)<=1073741824:=gQ ai h.1 k
theorem awA {p:List Rat} {n:Nat} (hl:p.length<=n) (h:nj p n):nj (tT p) n:=⟨h.2 1 J,fun k hk=>h.2 (k+1) (by rw [p8] at hk;omega)⟩
theorem af7 {p:List Rat} {n:Nat} (h:n+1<=p.length):iA p n=p:=by rw [iA,show n+1-p.length=0 by omega];rfl
theorem aHG {p:List Rat} {n:Nat} (h:p.length<=n):zU (n+1-(tT p).length) (tT p)=zU (n+1-p.length) p:=by
 rw [show n+1-p.length=(n+1-(tT p).length)+1 by rw [p8];omega];rfl
def nX (g:Rat->Rat->Rat) (a b:List Rat):List Rat:=(fe a.length).map fun i=>g (a.getD i 0) (b.getD i 0)
theorem af4 (g:Rat->Rat->Rat) (a b:List Rat):(nX g a b).length=a.length:=by simp [nX]
theorem aFg {g:Rat->Rat->Rat} {a b:List Rat} {i:Nat} (h:i<a.length):(nX g a b).getD i 0=g (a.getD i 0) (b.getD i 0):=by
 rw [bE,bY (by rw [af4];exact h)];simp [nX]
namespace as8
theorem aw {p q:Prop} (k:q) (e:p=q:=by simp only [e1,e2,e3,e4,p1,p2,p3,q1,q2,q3,l1,t0,t1,r1,r2,r3,r4,Nat.zero_add,Nat.reduceMul,Nat.reduceAdd,b1,b2,b3,b4,b5,b6,i1,i2,i3,i4,i5,i6,Nat.reduceBEq,cn,List.length_set,List.set_set,egs,egz,eim,Rat.zero_add,aG an,cA,LV.kill,bH];exact rfl):p:=e.mpr k
end as8
open as8 in
theorem akm (p:List Rat) (n:Nat) (lA:0<p.length) (hn:n<=1000) (hl:p.length<=1001) (hs:nj p n):ax ak 285 [.list 3 (p.map aa),ae n] (.list 3 ((iA p n).map aa)):=by
 refine aR Tryz.func285 ?_
 have egs:True:=trivial
 have egz:True:=trivial
 have eim:True:=trivial
 refine bg ?_
 refine cp aO (ayp p J (fun x hx=>by have:=ajE hs;have h9:=aaU hx;obtain⟨k,hk,rfl⟩:=h9;have h8:=this k;rw [bE,bY hk] at h8;exact bb h8 ai)) ?_
 refine a7 ?_
 refine dI (fun(o:List Rat) L=>(((St.mk L.slot (hp [])).put (some 1) (ae n)).put (some 5) (.list 3 (o.map aa)))) (fun o=>0<o.length/\o.length<=1001/\nj o n/\zU (n+1-o.length) o=iA p n) (fun o=>n+1-o.length) p ⟨lA,hl,hs,rfl⟩ ?_
 rintro o L1 ⟨ho0,dj,hos,hit⟩
 refine bf ?_
 refine ep 18 rfl ?_ ?_<;>intro aau xT
 ·refine bf ?_
  refine aL rfl ?_ ?_<;>intro tD rf
  ·have hon:o.length<=n:=by omega
   refine dk ?_
   refine ah rfl cu ?_
   refine dF rfl rfl (.lf (n:=(o.length+1)) (m:=(o.length+1)) ml ml om om om) ?_
   refine bw ?_
   refine iv (fun(i:Nat) (w:List Rat) L=>((((((((St.mk L.slot (hp [(28,⟨3,w.map aa,true⟩)])).put (some 1) (ae n)).put (some 5) (.list 3 (o.map aa))).put (some 6) (ae o.length)).put (some 7) (.ref 28 3 0 (o.length+1))).put (some 29) (.ref 28 3 0 (o.length+1))).put (some 30) (ae (o.length+1))).put (some 31) (ae i))) (fun i w=>i<=o.length+1/\w.length=o.length+1/\w.take i=(tT o).take i/\∀ x,i<=x->w.getD x 0=0) (fun i w=>o.length+1-i) 0 (aV (o.length+1) 0) ⟨bS _,by simp,rfl,fun x _=>by simp [bE,auw];split<;>rfl⟩ ?_
   rintro i w L2 ⟨hi,gh,kG,hz⟩
   refine ay ?_
   refine aL rfl ?_ ?_<;>intro ael h32
   ·have dq:i<o.length+1:=by omega
    have xL:=aio (n:=(i:Int)) (d:=(o.length:Int)) J J
    have ot:=aio (n:=(o.length:Int)-(i:Int)) (d:=(o.length:Int)) J J
    have gk:=ajE hos (i-1)
    have mW:=ajE hos i
    have jI:=cM (((i:Int):Rat)/((o.length:Int):Rat)) (o.getD (i-1) 0)
    have fc:=cM ((((o.length:Int)-(i:Int):Int):Rat)/((o.length:Int):Rat)) (o.getD i 0)
    have egs:=fun v=>aHQ (o:=w) (i:=i) (v:=v) J
    have egz:=hz i (bF _)
    have eim:((i:Int)-1).toNat=i-1:=by omega
    have lE:rl 0=1:=rfl
    refine iY ?_
    refine aL rfl ?_ ?_<;>intro wx uK
    ·have pk:0<i:=by omega
     refine aB ?_
     refine cp au (ak8 (i:Int) (o.length:Int) J J J J J) ?_
     refine bg ?_
     refine aY 10 al ?_
     refine bg ?_
     try simp only [t1,cn,eim]
     refine cp au (ef _ _ J) ?_
     refine bw ?_
     refine aL rfl ?_ ?_<;>intro aAo h55
     ·have xo:i<o.length:=by omega
      refine aB ?_
      refine ah rfl aaK ?_
      refine ao ?_
      refine cp au (ak8 ((o.length:Int)-(i:Int)) (o.length:Int) J J J J J) ?_
      refine bg ?_
      refine aY 14 al ?_
      refine bC ?_
      try simp only [t1,cn]
      refine cp au (ef _ _ J) ?_
      try simp only [t1,cn,fg,egs,egz]
      refine cp au (fA _ _ J) ?_
      refine a7 ?_
      refine bR ((az.kill _ 9).trans (az.kill _ 11)) ?_
      refine aB ?_
      exact fO (i+1) (w.set i (((i:Int):Rat)/((o.length:Int):Rat)*o.getD (i-1) 0+(((o.length:Int)-(i:Int):Int):Rat)/((o.length:Int):Rat)*o.getD i 0)) ⟨J,by simp [gh],abd (by rw [p8];omega) (by rw [p8];omega) kG (by rw [ank J,aJe pk xo]),fun x hx=>by rw [aaj _ _ _ _ J,if_neg J];exact hz x J⟩
     ·have xo:¬ i<o.length:=by omega
      refine aQ ?_
      refine bR ((az.kill _ 9).trans (az.kill _ 11)) ?_
      refine aB ?_
      exact fO (i+1) (w.set i (((i:Int):Rat)/((o.length:Int):Rat)*o.getD (i-1) 0)) ⟨J,by simp [gh],abd (by rw [p8];omega) (by rw [p8];omega) kG (by rw [ank J,aJ9 pk xo]),fun x hx=>by rw [aaj _ _ _ _ J,if_neg J];exact hz x J⟩
    ·have pk:¬ 0<i:=by omega
     refine bh ?_
     refine aL rfl ?_ ?_<;>intro aAo h55
     ·have xo:i<o.length:=by omega
      refine aB ?_
      refine ah rfl aaK ?_
      refine ao ?_
      refine cp au (ak8 ((o.length:Int)-(i:Int)) (o.length:Int) J J J J J) ?_
      refine bg ?_
      refine aY 14 al ?_
      refine bC ?_
      try simp only [t1,cn]
      refine cp au (ef _ _ J) ?_
      try simp only [t1,cn,fg,egs,egz]
      refine cp au (fA _ _ J) ?_
      refine a7 ?_
      refine bR ((az.kill _ 9).trans (az.kill _ 11)) ?_
      refine aB ?_
      exact fO (i+1) (w.set i ((((o.length:Int)-(i:Int):Int):Rat)/((o.length:Int):Rat)*o.getD i 0)) ⟨J,by simp [gh],abd (by rw [p8];omega) (by rw [p8];omega) kG (by rw [ank J,aD5 pk xo]),fun x hx=>by rw [aaj _ _ _ _ J,if_neg J];exact hz x J⟩
     ·have xo:¬ i<o.length:=by omega
      refine aQ ?_
      refine bR ((az.kill _ 9).trans (az.kill _ 11)) ?_
      refine aB ?_
      exact fO (i+1) w (False.elim J)
   ·obtain rfl:i=o.length+1:=by omega
    have hE:w=tT o:=by
     rw [cE J,cE (by rw [p8];omega)] at kG
     exact kG
    subst hE
    refine a7 ?_
    refine bR ((az.eF (t:=7) [28] rfl rfl (dH an rfl rfl (by rw [p8]))).trans (az.kill _ 28)) ?_
    refine a7 ?_
    exact lU (tT o) ⟨by rw [p8];omega,by rw [p8];omega,awA J hos,by rw [aHG J];exact hit⟩ (hm:=by rw [p8];omega)
  ·refine bw ?_
   have hE:iA p n=o:=by rw [<-hit,show n+1-o.length=0 by omega];rfl
   rw [hE]
   exact dR
 ·refine lF ?_
  have hE:iA p n=o:=by rw [<-hit,show n+1-o.length=0 by omega];rfl
  rw [hE]
  exact dR
def cR (n k:Nat):Rat:=((eu n k:Nat):Int)
def sq (p:List Rat) (k:Nat):Rat:=cR (p.length-1) k*p.getD k 0
theorem ayJ {p:List Rat} {k:Nat} (h:p.length<=k):sq p k=0:=by unfold sq;rw [aBs h,Rat.mul_zero]
def sm:Nat->(Nat->Rat)->Rat
 | 0,_=>0
 | n+1,f=>sm n f+f n
theorem afi:∀ (n:Nat) (f g:Nat->Rat),(∀ i,i<n->f i=g i)->sm n f=sm n g
 | 0,_,_,_=>rfl
 | n+1,f,g,h=>by rw [sm,sm,afi n f g (fun i hi=>h i J),h n J]
theorem aqh:∀ (n:Nat) (f g:Nat->Rat),sm n (fun i=>f i+g i)=sm n f+sm n g
 | 0,_,_=>by show (0:Rat)=0+0;grind
 | n+1,f,g=>by rw [sm,sm,sm,aqh n];grind
theorem axP (n:Nat) (f:Nat->Rat) (h:∀ i,i<n->f i=0):sm n f=0:=by
 induction n with
 | zero=>rfl
 | succ n ih=>rw [sm,ih (fun i hi=>h i J),h n J];exact jC 0
theorem alO (n:Nat) (f:Nat->Rat) (h:∀ i,n<=i->f i=0):∀ m,sm (n+m) f=sm n f
 | 0=>rfl
 | m+1=>by rw [<-oQ,sm,alO n f h m,h _ J];grind
def cf (f g:Nat->Rat) (k:Nat):Rat:=sm (k+1) fun i=>f i*g (k-i)
theorem aqk {n:Nat} (hn:n<=1000):∀ (k:Nat) (p:List Rat),0<p.length->p.length+k<=n+1->nj p n->nj (zU k p) n
 | 0,_,_,_,h=>h
 | k+1,p,h0,hk,h=>aqk hn k (tT p) (by rw [p8];omega) (by rw [p8];omega) (awA J h)
theorem atX {p:List Rat} {n:Nat} (hn:n<=1000) (h0:0<p.length) (hl:p.length<=n+1) (h:nj p n) (k:Nat):rl ((iA p n).getD k 0)<=1073741824 :=
 ajE (aqk hn _ p h0 J h) k
theorem emx {a b n:Nat} (h:0<a) (h1:a<=n+1) (h2:b<=n+1) (h3:a=n+1\/b=n+1):(if ((b:Nat):Int) > ((a:Nat):Int) then((b:Nat):Int) else((a:Nat):Int))-1=(n:Int):=by
 split<;>omega
theorem emn (a:Nat):(if ((a:Nat):Int)<((a:Nat):Int) then((a:Nat):Int) else((a:Nat):Int))=(a:Int):=by split<;>rfl
theorem aEZ {a b n:Nat} (h:0<a) (h1:a<=n+1) (h2:b<=n+1) (h3:a=n+1\/b=n+1) (hn:n<=1000):dM .sub .i64 (if ((b:Nat):Int) > ((a:Nat):Int) then((b:Nat):Int) else((a:Nat):Int)) 1=some (.int .i64 ((n:Nat):Int)):=by
 have e:=emx h h1 h2 h3
 rw [aaa J J,e]
namespace arB
theorem aw {p q:Prop} (k:q) (e:p=q:=by simp only [e1,e2,e3,e4,p1,p2,p3,q1,q2,q3,l1,t0,t1,r1,r2,r3,r4,Nat.zero_add,Nat.reduceMul,Nat.reduceAdd,b1,b2,b3,b4,b5,b6,i1,i2,i3,i4,i5,i6,Nat.reduceBEq,cn,arX,elp,elq,emn,aG an,cA,cC,LV.kill,bH];exact rfl):p:=e.mpr k
end arB
open arB in
theorem ayO (p q:List Rat) (f:Nat) (g:Rat->Rat->Rat) (n:Nat) (lA:0<p.length) (lj:0<q.length) (hn:n<=1000) (qw:p.length<=n+1) (hqn:q.length<=n+1) (hpq:p.length=n+1\/q.length=n+1) (oT:nj p n) (nx:nj q n) (hf:∀ i,ax ak f [aa ((iA p n).getD i 0),aa ((iA q n).getD i 0)] (aa (g ((iA p n).getD i 0) ((iA q n).getD i 0)))):ax ak 275 [.list 3 (p.map aa),.list 3 (q.map aa),.bQ f []] (.list 3 ((nX g (iA p n) (iA q n)).map aa)):=by
 have arX:=emx lA qw hqn hpq
 have elp:=aeB qw
 have elq:=aeB hqn
 have nY:(nX g (iA p n) (iA q n)).length=n+1:=by rw [af4,elp]
 refine aR Tryz.func275 ?_
 have arX:True:=trivial
 have elp:True:=trivial
 have elq:True:=trivial
 have emn:True:=trivial
 refine bw ?_
 refine ah rfl (.bin rfl rfl (aEZ lA qw hqn hpq hn)) ?_
 refine bf ?_
 refine cp au (akm p n lA hn J oT) ?_
 refine aH ?_
 refine cp au (akm q n lj hn J nx) ?_
 refine bh ?_
 try simp only [elp,elq]
 refine ao ?_
 refine dF rfl rfl (.lf (n:=(n+1)) (m:=(n+1)) ml ml om om om) ?_
 refine bw ?_
 refine iv (fun(i:Nat) (w:List Rat) L=>((((((((St.mk L.slot (hp [(27,⟨3,w.map aa,true⟩)])).put (some 0) (.list 3 ((iA p n).map aa))).put (some 1) (.list 3 ((iA q n).map aa))).put (some 2) (.bQ f [])).put (some 8) (.ref 27 3 0 (n+1))).put (some 28) (.ref 27 3 0 (n+1))).put (some 29) (ae (n+1))).put (some 30) (ae i))) (fun i w=>i<=n+1/\w.length=n+1/\w.take i=(nX g (iA p n) (iA q n)).take i) (fun i w=>n+1-i) 0 (aV (n+1) 0) ⟨bS _,by simp,rfl⟩ ?_
 rintro i w L1 ⟨hi,gh,kG⟩
 refine ay ?_
 refine aL rfl ?_ ?_<;>intro amS h31
 ·have dq:i<n+1:=by omega
  have hfi:=hf i
  refine bh ?_
  refine aY 13 al ?_
  refine bC ?_
  try simp only [t1,cn]
  refine eN [] rfl rfl (.bQ (f:=f) (cap:=[]) (args:=[aa ((iA p n).getD i 0),aa ((iA q n).getD i 0)]) rfl (.cons cG (.cons cG .nil)) ⟨rfl,fun _ h=>by cases h⟩ hfi.1 ai (fun _ h=>by cases h)) (hfi.2 _) ?_
  refine bh ?_
  exact fO (i+1) (w.set i (g ((iA p n).getD i 0) ((iA q n).getD i 0))) ⟨J,by simp [gh],abd J J kG (by rw [aFg J])⟩
 ·obtain rfl:i=n+1:=by omega
  have hE:w=(nX g (iA p n) (iA q n)):=by
   rw [cE J,cE J] at kG
   exact kG
  subst hE
  refine bw ?_
  exact lW [27] rfl rfl (dH an rfl rfl nY.symm)
open H0 in
theorem aB1 (p q:List Rat) (n:Nat) (lA:0<p.length) (lj:0<q.length) (hn:n<=1000) (qw:p.length<=n+1) (hqn:q.length<=n+1) (hpq:p.length=n+1\/q.length=n+1) (oT:nj p n) (nx:nj q n):ax ak 247 [.list 3 (p.map aa),.list 3 (q.map aa)] (.list 3 ((nX (·-·) (iA p n) (iA q n)).map aa)):=by
 refine aR Tryz.func247 ?_
 refine bB ?_
 refine cp gM (ayO p q 181 (·-·) n lA lj hn qw hqn hpq oT nx (fun i=>oW _ _ (by have:=atX hn lA qw oT i;have:=atX hn lj hqn nx i;omega))) ?_
 refine aB ?_
 exact dR
open H0 in
theorem aD0 (p:List Rat) (n:Nat) (lA:0<p.length) (hn:n<=40) (qw:p.length<=n+1) (oT:nj p n):ax ak 291 [.list 3 (p.map aa),ae n] (.a9 [.list 3 ((iA p n).map aa),iL 0]):=by
 refine aR Tryz.func291 ?_
 refine bw ?_
 refine ah rfl aaK ?_
 refine aH ?_
 refine ep 11 rfl ?_ ?_<;>intro acj yc
 ·refine df ?_
  exfalso
  omega
 ·refine a7 ?_
  refine aL rfl ?_ ?_<;>intro um nA
  ·omega
  ·refine ay ?_
   refine cp au (akm p n lA J J oT) ?_
   refine a7 ?_
   exact vu rfl (.pure (cd an _ _)) rfl (.pure rfl)
namespace aqV
theorem aw {p q:Prop} (k:q) (e:p=q:=by simp only [e1,e2,e3,e4,p1,p2,p3,q1,q2,q3,l1,t0,t1,r1,r2,r3,r4,Nat.zero_add,Nat.reduceMul,Nat.reduceAdd,b1,b2,b3,b4,b5,b6,i1,i2,i3,i4,i5,i6,Nat.reduceBEq,cn,List.length_set,ahb,agI,wu,kh,elz,ela,aG an,cA,LV.kill,bH];exact rfl):p:=e.mpr k
end aqV
open aqV in
theorem aAO (p q:List Rat) (R:Nat) (lA:0<p.length) (lj:0<q.length) (h:p.length-1+(q.length-1)<=40) (fa:1<=R) (hR:R<=67108864) (oP:∀ x∈p,rl x<=R) (sX:∀ x∈q,rl x<=R):ax ak 276 [.list 3 (p.map aa),.list 3 (q.map aa)] (.a9 [.list 3 ((l7 p q).map aa),iL 0]):=by
 have jf:p.length<=41:=by omega
 have jF:q.length<=41:=by omega
 refine aR Tryz.func276 ?_
 have kh:True:=trivial
 have elz:True:=trivial
 have ela:True:=trivial
 refine bh ?_
 refine ah rfl nh ?_
 refine aH ?_
 refine ah rfl nh ?_
 refine bB ?_
 refine ah rfl sj ?_
 refine aQ ?_
 refine aL rfl ?_ ?_<;>intro afB yD
 ·omega
 ·refine bg ?_
  refine ep 28 rfl ?_ ?_<;>intro zR ss
  ·exfalso
   omega
  ·refine a7 ?_
   refine aL rfl ?_ ?_<;>intro amS h31
   ·omega
   ·refine a7 ?_
    refine cp aO (ane _ J) ?_
    refine ao ?_
    refine cp aO (ane _ J) ?_
    refine aH ?_
    refine ah rfl sj ?_
    refine cp aO (ane _ J) ?_
    refine bB ?_
    refine ah rfl sj ?_
    refine ah rfl cu ?_
    refine dF rfl rfl (.lf (n:=(p.length-1+(q.length-1)+1)) (m:=(p.length-1+(q.length-1)+1)) ml ml om om om) ?_
    refine bw ?_
    refine dI (fun(i:Nat) L=>((((((((((St.mk L.slot (hp [(44,⟨3,(allM p q i).map aa,true⟩)])).put (some 0) (.list 3 (p.map aa))).put (some 1) (.list 3 (q.map aa))).put (some 8) (.list 3 ((ij (p.length-1)).map aa))).put (some 9) (.list 3 ((ij (q.length-1)).map aa))).put (some 10) (.list 3 ((ij (p.length-1+(q.length-1))).map aa))).put (some 11) (.ref 44 3 0 (p.length-1+(q.length-1)+1))).put (some 45) (.list 3 (p.map aa))).put (some 46) (ae p.length)).put (some 47) (ae i))) (fun i=>i<=p.length) (fun i=>p.length-i) 0 (bS _) ?_
    rintro i L1 hi
    refine ay ?_
    refine aL rfl ?_ ?_<;>intro aJw h48
    ·have hip:i<p.length:=by omega
     have ji:=ye (n:=p.length-1) J _ (eU (i:=i) (by rw [wu];omega))
     have qa:=oP _ (eU (i:=i) hip)
     have hx3:=cM ((ij (p.length-1)).getD i 0) (p.getD i 0)
     refine bC ?_
     refine aY 10 al ?_
     refine bg ?_
     try simp only [t1,cn]
     refine cp au (ef _ _ J) ?_
     refine bw ?_
     refine dI (fun(j:Nat) L=>(((((((((((((((St.mk L.slot (hp [(44,⟨3,(wE ((ij (p.length-1)).getD i 0*p.getD i 0) i (ij (q.length-1)) q (allM p q i) j).map aa,true⟩),(13,⟨3,[aa ((ij (p.length-1)).getD i 0*p.getD i 0)],true⟩)])).put (some 0) (.list 3 (p.map aa))).put (some 1) (.list 3 (q.map aa))).put (some 8) (.list 3 ((ij (p.length-1)).map aa))).put (some 9) (.list 3 ((ij (q.length-1)).map aa))).put (some 10) (.list 3 ((ij (p.length-1+(q.length-1))).map aa))).put (some 11) (.ref 44 3 0 (p.length-1+(q.length-1)+1))).put (some 45) (.list 3 (p.map aa))).put (some 46) (ae p.length)).put (some 47) (ae i)).put (some 12) (ae i)).put (some 13) (.aF 13 3 0 0)).put (some 59) (.list 3 (q.map aa))).put (some 60) (ae q.length)).put (some 61) (ae j))) (fun j=>j<=q.length) (fun j=>q.length-j) 0 (bS _) ?_
     rintro j L2 hj
     refine ay ?_
     refine aL rfl ?_ ?_<;>intro apG h62
     ·have hjq:j<q.length:=by omega
      have kh:((i:Int)+(j:Int)).toNat=i+j:=by omega
      have hlr:(wE ((ij (p.length-1)).getD i 0*p.getD i 0) i (ij (q.length-1)) q (allM p q i) j).length=(p.length-1+(q.length-1)+1):=by rw [ahb,agI]
      have hS:=ae0 jf jF fa oP sX i
      have ho:=ans (i:=i) J hS (show rl ((ij (p.length-1)).getD i 0*p.getD i 0)<=R+2 by omega) (ye (n:=q.length-1) J) sX fa j
      have gX:=ayg (i:=i) (j:=j) J jF hj hR
      have mB:=gQ J ho (i+j)
      have yu:=ye (n:=q.length-1) J _ (eU (i:=j) (by rw [wu];omega))
      have yw:=sX _ (eU (i:=j) hjq)
      have hg4:=cM ((ij (q.length-1)).getD j 0) (q.getD j 0)
      have hg5:=cM ((ij (p.length-1)).getD i 0*p.getD i 0) ((ij (q.length-1)).getD j 0*q.getD j 0)
      refine bh ?_
      refine aY 23 al ?_
      refine aQ ?_
      refine ah rfl sj ?_
      refine aQ ?_
      refine ah rfl sj ?_
      refine bC ?_
      try simp only [t1,cn,fg]
      refine cp au (ef _ _ J) ?_
      try simp only [t1,cn,fg]
      refine cp au (ef _ _ J) ?_
      try simp only [t1,cn,fg]
      refine cp au (fA _ _ J) ?_
      refine bh ?_
      exact qp
     ·obtain rfl:j=q.length:=by omega
      refine ay ?_
      refine bR (az.kill _ 13) ?_
      refine aB ?_
      exact lK
    ·obtain rfl:i=p.length:=by omega
     refine df ?_
     refine iv (fun(k:Nat) (w:List Rat) L=>((((((St.mk L.slot (hp [(44,⟨3,w.map aa,true⟩)])).put (some 10) (.list 3 ((ij (p.length-1+(q.length-1))).map aa))).put (some 11) (.ref 44 3 0 (p.length-1+(q.length-1)+1))).put (some 89) (.ref 44 3 0 (p.length-1+(q.length-1)+1))).put (some 90) (ae (p.length-1+(q.length-1)+1))).put (some 91) (ae k))) (fun k w=>k<=(p.length-1+(q.length-1)+1)/\w.length=(p.length-1+(q.length-1)+1)/\w.take k=(l7 p q).take k/\∀ x,k<=x->w.getD x 0=(allM p q p.length).getD x 0) (fun k w=>(p.length-1+(q.length-1)+1)-k) 0 (allM p q p.length) ⟨bS _,agI _ _ _,rfl,fun x _=>rfl⟩ ?_
     rintro k w L3 ⟨hk,gh,kG,hz⟩
     refine ay ?_
     refine aL rfl ?_ ?_<;>intro aKB h92
     ·have kQ:k<(p.length-1+(q.length-1)+1):=by omega
      have hS:=ae0 jf jF fa oP sX p.length
      have gX:=ayg (i:=p.length) (j:=0) jf jF J hR
      have mB:=gQ J hS k
      have yu:=ye (n:=p.length-1+(q.length-1)) h _ (eU (i:=k) (by rw [wu];omega))
      have hzk:=hz k (bF _)
      rw [<-hzk] at mB
      refine bh ?_
      refine aY 12 al ?_
      refine bh ?_
      try simp only [t1,cn,fg]
      refine cp au (aoe _ _ J) ?_
      refine bh ?_
      exact fO (k+1) (w.set k (w.getD k 0/(ij (p.length-1+(q.length-1))).getD k 0)) ⟨J,by simp [gh],abd (by rw [aaG];omega) (by rw [aaG,gh]) kG (by rw [aAj J,hz k (bF _)]),fun x hx=>by rw [aaj _ _ _ _ J,if_neg J];exact hz x J⟩
     ·obtain rfl:k=(p.length-1+(q.length-1)+1):=by omega
      have hE:w=l7 p q:=by
       rw [cE J,cE (by rw [aaG];omega)] at kG
       exact kG
      refine dk ?_
      rw [<-hE]
      exact aj3 [44] rfl rfl (dH an rfl rfl J) rfl (.pure rfl)
end Go.Proofs.YthcadngkamjpdaaGreat
namespace Go.Lg
theorem az.cell {L:St} (b:Nat) {sz:Nat} {x y:LV} {mt:Bool} (hb:L.heap b=some ⟨sz,[x],mt⟩) (h:∀ Z μ w cs,aJ Z μ w x cs->aJ Z μ w y cs):az L (L.bU b (some ⟨sz,[y],mt⟩)):=by
 rintro n W X Z0 a w ⟨eh,bT,μ,Z,hc,hr⟩
 refine⟨eh,bT,μ,Z,?_,hr⟩
 have hs:∀ c,(L.bU b (some ⟨sz,[y],mt⟩)).heap c=if c=b then some ⟨sz,[y],mt⟩ else L.heap c:=fun c=>rfl
 refine⟨hc.cx,hc.lg,hc.jy,hc.lh,hc.inj,hc.own,hc.x0,hc.nV,hc.x1,fun c id blk g1 g2=>?_,fun c id blk g1 g2=>?_,fun c id g1=>?_⟩
 ·rw [hs] at g2
  split at g2
  ·rename_i e;subst e;cases g2;exact hc.ja c id ⟨sz,[x],mt⟩ g1 hb
  ·exact hc.ja c id blk g1 g2
 ·rw [hs] at g2
  split at g2
  ·rename_i e;subst e;cases g2;exact hc.ca c id ⟨sz,[x],mt⟩ g1 hb
  ·exact hc.ca c id blk g1 g2
 ·obtain⟨blk,k1,k2⟩:=hc.heap c id g1
  rw [hs]
  by_cases e:c=b
  ·subst e
   rw [if_pos rfl]
   rw [hb] at k1
   cases k1
   refine⟨_,rfl,?_⟩
   obtain⟨cs,T,part,rest,e1,e2,e3⟩:=k2
   refine⟨cs,T,part,rest,e1,e2,?_⟩
   simp only [a6] at e3 ⊢
   obtain⟨c1,c2,q1,q2,q3,q4⟩:=e3
   exact⟨c1,c2,q1,q2,h _ _ _ _ q3,q4⟩
  ·rw [if_neg e];exact⟨blk,k1,k2⟩
theorem az.ov (L:St) (d sz:Nat) (hd:L.heap d=none):az L (L.bU d (some ⟨sz,[],true⟩)):=by
 rintro n W X Z0 a w ⟨eh,bT,μ,Z,hc,hr⟩
 refine⟨eh,bT,μ,Z,?_,hr⟩
 refine hc.aiq fun c id hcd=>?_
 have:c≠d:=by rintro rfl;rw [vF hc hd] at hcd;cases hcd
 simp [St.bU,this]
theorem vU (d sz:Nat) (x y:LV) (Z:Nat->Prop) (μ:Nat->Option Nat) (w:World) (cs:List Value) (h:aJ Z μ w (.agg [x,y,.v (.slice none 0 0)]) cs):aJ Z μ w (.agg [x,y,.ref d sz 0 0]) cs:=by
 simp only [aJ,cj] at h ⊢
 obtain⟨c1,c2,e1,e2,e3,c3,c4,e4,e5,e6,c5,c6,e7,e8,e9,e10⟩:=h
 exact⟨c1,c2,e1,e2,e3,c3,c4,e4,e5,e6,c5,c6,e7,e8,.inl ⟨e9.1,trivial⟩,e10⟩
end Go.Lg
namespace Go.Proofs.YthcadngkamjpdaaGreat
open Go.Lg
def _root_.Go.Lg.V3.at (p:V3):Nat->Rat
 | 0=>p.x
 | 1=>p.y
 | _=>p.z
def bn (po:List ar) (k:Nat):List Rat:=po.map fun q=>q.w*q.p.at k
def aZ (po:List ar):List Rat:=po.map fun q=>q.w
theorem qZ (po:List ar) (k:Nat):(bn po k).length=po.length:=by simp [bn]
theorem vX (po:List ar):(aZ po).length=po.length:=by simp [aZ]
theorem acI {R:Nat} {p:V3} (h:cP R p):∀ k,rl (p.at k)<=R
 | 0=>h.1
 | 1=>h.2.1
 | _+2=>h.2.2
theorem ahO {R:Nat} {po:List ar} (h:∀ q∈po,k5 R q) (k:Nat):∀ x∈bn po k,rl x<=2*R:=fun x hx=>by
 obtain⟨q,hq,rfl⟩:=ga.1 hx
 obtain⟨h1,h2,_⟩:=h q hq
 have h3:=acI h1 k
 have h4:=cM q.w (q.p.at k)
 show rl (q.w*q.p.at k)<=_
 omega
theorem ahv {R:Nat} {po:List ar} (h:∀ q∈po,k5 R q):∀ x∈aZ po,rl x<=R:=fun x hx=>by
 obtain⟨q,hq,rfl⟩:=ga.1 hx
 exact(h q hq).2.1
def fZ (po:List ar) (k:Nat):List Rat:=nX (·-·) (l7 (gf (bn po k)) (aZ po)) (l7 (bn po k) (gf (aZ po)))
theorem ayn {p:List Rat} {n:Nat} (hp:p.length=n+1) (h:∀ x∈p,rl x<=1073741824):nj p n:=⟨h,fun k hk=>by
 obtain rfl:k=0:=by omega
 exact h⟩
theorem amF (p q:List Rat) (n:Nat) (hn:n<=40) (hp:p.length=n+1) (hq:q.length=n+1) (oP:∀ x∈p,rl x<=1073741824) (sX:∀ x∈q,rl x<=1073741824):ax ak 247 [.list 3 (p.map aa),.list 3 (q.map aa)] (.list 3 ((nX (·-·) p q).map aa)):=by
 have:=aB1 p q n J J J J J (.inl hp) (ayn hp oP) (ayn hq sX)
 rwa [af7 J,af7 J] at this
theorem apD {p q:List Rat} {R:Nat} (h:p.length-1+(q.length-1)<=40) (jf:p.length<=41) (jF:q.length<=41) (fa:1<=R) (hR:R<=100) (oP:∀ x∈p,rl x<=R) (sX:∀ x∈q,rl x<=R):∀ x∈l7 p q,rl x<=344700:=fun x hx=>by
 obtain⟨k,hk,rfl⟩:=ga.1 hx
 have hS:=ae0 jf jF fa oP sX p.length
 have gX:p.length*(q.length*(2*R+5))<=41*(41*205):=jG jf (jG jF J)
 have mB:=gQ J hS k
 have yu:=gQ (S:=2) ai (ye (n:=p.length-1+(q.length-1)) h) k
 have h3:=pH ((allM p q p.length).getD k 0) ((ij (p.length-1+(q.length-1))).getD k 0)
 omega
theorem aso {R:Nat} {p q:List Rat} {g:Rat->Rat->Rat} (hg:∀ a b,rl (g a b)<=rl a+rl b+1) (hR:1<=R) (hp:∀ x∈p,rl x<=R) (hq:∀ x∈q,rl x<=R):∀ x∈nX g p q,rl x<=2*R+1:=fun x hx=>by
 obtain⟨i,_,rfl⟩:=ga.1 hx
 have h1:=gQ hR hp i
 have h2:=gQ hR hq i
 have h3:=hg (p.getD i 0) (q.getD i 0)
 omega
structure nT (po:List ar) (d:Nat):Prop where
 hl:po.length=d+1
 hd:1<=d
 h6:d<=6
 ok:∀ q∈po,k5 1 q
section
variable {po:List ar} {d:Nat} (h:nT po d)
theorem nT.n (h:nT po d) (k:Nat):(bn po k).length=d+1/\∀ x∈bn po k,rl x<=2:=⟨by rw [qZ,h.hl],ahO h.ok k⟩
theorem nT.w (h:nT po d):(aZ po).length=d+1/\∀ x∈aZ po,rl x<=2:=⟨by rw [vX,h.hl],fun x hx=>bb (ahv h.ok x hx) ai⟩
theorem nT.dn (h:nT po d) (k:Nat):(gf (bn po k)).length=d/\∀ x∈gf (bn po k),rl x<=8:=by
 obtain⟨h1,h2⟩:=h.n k
 have:=h.hd
 have:=h.h6
 exact⟨by rw [abk,h1,if_neg J];omega,abu ai J h2⟩
theorem nT.dw (h:nT po d):(gf (aZ po)).length=d/\∀ x∈gf (aZ po),rl x<=8:=by
 obtain⟨h1,h2⟩:=h.w
 have:=h.hd
 have:=h.h6
 exact⟨by rw [abk,h1,if_neg J];omega,abu ai J h2⟩
theorem nT.m1 (h:nT po d) (k:Nat):(l7 (gf (bn po k)) (aZ po)).length=2*d-1+1/\∀ x∈l7 (gf (bn po k)) (aZ po),rl x<=344700:=by
 obtain⟨h1,h2⟩:=h.dn k
 obtain⟨h3,h4⟩:=h.w
 have:=h.hd
 have:=h.h6
 exact⟨by rw [aaG,h1,h3];omega,apD (R:=8) J J J ai ai h2 (fun x hx=>bb (h4 x hx) ai)⟩
theorem nT.m2 (h:nT po d) (k:Nat):(l7 (bn po k) (gf (aZ po))).length=2*d-1+1/\∀ x∈l7 (bn po k) (gf (aZ po)),rl x<=344700:=by
 obtain⟨h1,h2⟩:=h.n k
 obtain⟨h3,h4⟩:=h.dw
 have:=h.hd
 have:=h.h6
 exact⟨by rw [aaG,h1,h3];omega,apD (R:=8) J J J ai ai (fun x hx=>bb (h2 x hx) ai) h4⟩
theorem nT.t (h:nT po d) (k:Nat):(fZ po k).length=2*d-1+1/\∀ x∈fZ po k,rl x<=689401:=by
 obtain⟨h1,h2⟩:=h.m1 k
 obtain⟨_,h4⟩:=h.m2 k
 exact⟨by rw [fZ,af4,h1],fun x hx=>aso fD ai h2 h4 x hx⟩
end
theorem ahA {Z:Nat->Prop} {μ:Nat->Option Nat} {w:World} {cs:List Value} (d sz:Nat) (h:aJ Z μ w (.v (.slice none 0 0)) cs):aJ Z μ w (.ref d sz 0 0) cs:=by
 simp only [aJ] at h ⊢
 exact .inl ⟨h.1,trivial⟩
theorem aFS (a b c d:Nat) (sz:Nat) (Z:Nat->Prop) (μ:Nat->Option Nat) (w:World) (cs:List Value) (h:aJ Z μ w (.agg [.v (.slice none 0 0),.v (.slice none 0 0),.v (.slice none 0 0),.v (.slice none 0 0)]) cs) :
  aJ Z μ w (.agg [.ref a sz 0 0,.ref b sz 0 0,.ref c sz 0 0,.ref d sz 0 0]) cs:=by
 simp only [aJ.eq_4,cj] at h ⊢
 obtain⟨c1,c2,e1,e2,e3,c3,c4,e4,e5,e6,c5,c6,e7,e8,e9,c7,c8,e10,e11,e12,e13⟩:=h
 exact⟨c1,c2,e1,e2,ahA _ _ e3,c3,c4,e4,e5,ahA _ _ e6,c5,c6,e7,e8,ahA _ _ e9,c7,c8,e10,e11,ahA _ _ e12,e13⟩
theorem abZ {α β:Type} [Inhabited α] (f:α->β) (l:List α) {j:Nat} (h:j<l.length):(l.map f).take j++[f (l.getD j default)]=(l.map f).take (j+1):=by
 rw [v8,gZ,bY h,bE,bY h];rfl
theorem tG {po:List ar} {j:Nat} (h:j<po.length):po.getD j default∈po:=by
 rw [bE,bY h];exact qx h
open H0 in
theorem acG (p q:List Rat) (R:Nat) (lA:0<p.length) (lj:0<q.length) (h:p.length-1+(q.length-1)<=40) (fa:1<=R) (hR:R<=67108864) (oP:∀ x∈p,rl x<=R) (sX:∀ x∈q,rl x<=R):ax ak 248 [.list 3 (p.map aa),.list 3 (q.map aa)] (.list 3 ((l7 p q).map aa)):=by
 refine aR Tryz.func248 ?_
 refine bB ?_
 refine cp au (aAO p q R lA lj h fa hR oP sX) ?_
 refine df ?_
 exact dR
theorem akN {a:Rat} (h:di a=0):a=0:=by
 rcases aF4 a with⟨g,e⟩ | ⟨_,e⟩ | ⟨_,e⟩
 ·exact g
 ·rw [e] at h;cases h
 ·rw [e] at h;cases h
namespace axJ
theorem aw {p q:Prop} (k:q) (e:p=q:=by simp only [e1,e2,e3,e4,p1,p2,p3,q1,q2,q3,l1,t0,t1,r1,r2,r3,r4,Nat.zero_add,Nat.reduceMul,Nat.reduceAdd,b1,b2,b3,b4,b5,b6,i1,i2,i3,i4,i5,i6,Nat.reduceBEq,cn,ejm,List.length_set];exact rfl):p:=e.mpr k
end axJ
open axJ in
theorem azk (p:List Rat) (n:Nat) (jf:p.length=n) (iy:0<n) (hn:n<=1048576):uv ak 191 ⟨3,p.map aa,true⟩ [.ref 0 3 0 n] (.a9 []) ⟨3,p.reverse.map aa,true⟩:=by
 refine fnM Tryz.func191 ?_
 have ejm:True:=trivial
 refine aB ?_
 refine ah rfl nh ?_
 refine a7 ?_
 refine tz (fun(i j:Nat) (o:List Rat) L=>((((St.mk L.slot (hp [(0,⟨3,o.map aa,true⟩)])).put (some 0) (.ref 0 3 0 n)).put (some 2) (ae i)).put (some 3) (ae j))) (fun i j o=>j+i+1=n/\o.length=n/\∀ x,x<n->o.getD x 0=if x<i\/n<=x+i then p.getD (n-1-x) 0 else p.getD x 0) (fun i j o=>j) 0 (n-1) p ⟨J,jf,fun x hx=>by rw [if_neg J]⟩ ?_
 rintro i j o L1 ⟨pK,dj,hg⟩
 refine bg ?_
 refine aL rfl ?_ ?_<;>intro wg h9
 ·have ejm:((j:Int)-1)=((j-1:Nat):Int):=by omega
  refine aB ?_
  refine eZ 13 [2,3] al ?_
  refine amO ?_
  exact s8 (i+1) (j-1) ((o.set i (o.getD j 0)).set j (o.getD i 0)) ⟨J,by simp [dj],aF6 jf dj J pK hg⟩
 ·refine aB ?_
  have hE:=aEB jf dj J hg
  rw [<-hE]
  exact aEC rfl rfl (aP an _)
namespace atw
theorem aw {p q:Prop} (k:q) (e:p=q:=by simp only [e1,e2,e3,e4,p1,p2,p3,q1,q2,q3,l1,t0,t1,r1,r2,r3,r4,Nat.zero_add,Nat.reduceMul,Nat.reduceAdd,b1,b2,b3,b4,b5,b6,i1,i2,i3,i4,i5,i6,Nat.reduceBEq,cn,r1r,aG an,cA,cC,LV.kill,bH];exact rfl):p:=e.mpr k
end atw
open atw in
theorem aEy (p:List Rat) (a b:Rat) (lA:0<p.length) (hl:p.length<=1048576) (jn:∀ x∈p,rl x<=274877906944) (cY:rl a+rl b<=1073741824) (g1:1-a≠0->HS p a/\HS (mS p a) ((b-a)/(1-a))) (g2:1-a=0->b≠0->HS p b/\HS (nK p b) (1/b)):ax ak 110 [.list 3 (p.map aa),aa a,aa b] (.list 3 ((wR p a b).map aa)):=by
 have gk:=fD 1 a
 have mW:=fD b a
 have hrr:rl 1=1:=rfl
 refine aR Tryz.func110 ?_
 refine bB ?_
 refine cp aO (rZ 1 ai ai) ?_
 refine bB ?_
 refine cp au (oW 1 a J) ?_
 refine bf ?_
 refine cp aO (yS (1-a) J) ?_
 refine aQ ?_
 refine aL rfl ?_ ?_<;>intro rG vz
 ·have bj:1-a≠0:=apb vz
  obtain⟨gA,gB⟩:=g1 bj
  have hE:wR p a b=nK (mS p a) ((b-a)/(1-a)):=by rw [wR,if_pos bj]
  refine aB ?_
  refine cp au (afe p a gA) ?_
  refine bg ?_
  refine aY 12 al ?_
  refine aQ ?_
  refine cp au (oW b a J) ?_
  refine ao ?_
  refine cp au (aoe (b-a) (1-a) J) ?_
  refine cp au (afe (mS p a) ((b-a)/(1-a)) gB) ?_
  refine eQ ?_
  rw [hE]
  exact dR
 ·have bj:1-a=0:=akN J
  refine ay ?_
  refine cp aO (yS b J) ?_
  refine aQ ?_
  refine aL rfl ?_ ?_<;>intro avf h44
  ·have hnb:b≠0:=apb h44
   obtain⟨gA,gB⟩:=g2 bj hnb
   have hE:wR p a b=mS (nK p b) (1/b):=by rw [wR,if_neg (by rw [bj];simp),if_pos hnb]
   refine aB ?_
   refine cp au (afe p b gA) ?_
   refine bw ?_
   refine cp au (aoe 1 b J) ?_
   refine cp au (afe (nK p b) (1/b) gB) ?_
   refine eQ ?_
   rw [hE]
   exact dR
  ·have hnb:b=0:=akN J
   have hE:wR p a b=p.reverse:=by rw [wR,if_neg (by rw [bj];simp),if_neg (by rw [hnb];simp)]
   refine a7 ?_
   refine abB [] rfl rfl (.cons (.pure (cd an _ _)) .nil) (aoB p hl jn) (aP an _) rfl ?_
   refine ay ?_
   refine acy 1000977 rfl rfl rfl (aP an _) (.cons .ref .nil) (.ref lA) (azk p p.length rfl lA hl) rfl (aP an _) ?_
   refine bB ?_
   rw [hE]
   exact lW [1000977] rfl rfl (dH an rfl rfl aW)
end Go.Proofs.YthcadngkamjpdaaGreat
namespace Go.Lg
end Go.Lg
namespace Go.Proofs.YthcadngkamjpdaaGreat
open Go.Lg
theorem ahT {n:Nat} (k:Nat) (hn:n<=40):rl (((eu n k:Nat):Int):Rat)<=2:=by
 rcases kD n k with h | h
 ·rw [af9 h];decide
 ·have h1:=ye hn _ (eU (i:=k) (by rw [wu];omega))
  rw [akU h] at h1;exact h1
def lin (α β:Rat):Rat->List Rat->List Rat
 | c,[]=>[β*c]
 | c,x :: l=>(β*c+α*x) :: lin α β x l
inductive KS:Nat->List Rat->Prop
 | z {s:Int} {l:List Rat}:l≠[]->s=1\/s=-1->(∀ x∈l,di x=s)->KS 0 l
 | r {n:Nat} {l:List Rat} {a b:Rat}:KS n l->0<a->0<b->KS (n+1) (lin (-a) b 0 l)
theorem abW {a b:Rat}:gp a b<0↔a<b:=by
 unfold gp;split
 ·simp [*]
 ·split<;>simp [*]
theorem afP {P:Program} {L:St} {a u:Nat} {T U:TypeId} {b c sz sy:Nat} {x y x' y':LV} {m m':Bool} {n n':Nat} {ag ag':Bool} (bs:List Nat) (h0:bs.contains 0=false) (h:L.slot a=.aF b sz 0 0) (hb:L.heap b=some ⟨sz,[x],m⟩)
  (hx:x.av=sz) (wh:x.at 0 n ag=some x) (hT:bK P T n ag) (hi:da (L.ca bs).heap x y) (h':L.slot u=.aF c sy 0 0) (hc:L.heap c=some ⟨sy,[x'],m'⟩)
  (hx':x'.av=sy) (akH:x'.at 0 n' ag'=some x') (hT':bK P U n' ag') (nn:da (L.ca bs).heap x' y'):qm P [.cell a T,.cell u U] L (.a9 [y,y']) [] :=
 ⟨[x,x'],[y,y'],(L.ca bs).heap,[],.cons ⟨b,sz,0,0,_,x,n,ag,h,hb,rfl,rfl,hx,wh,hT⟩ (.cons ⟨c,sy,0,0,_,x',n',ag',h',hc,rfl,rfl,hx',akH,hT'⟩ .nil),ux bs h0,.cons (.eF hi) (.cons (.eF nn) .nil),yL,rfl,fun k b h=>by simp at h,rfl⟩
section
variable {P:Program} {H:b9} {ρ:Operand->LV} {T E:TypeId}
end
theorem aoQ (po:List ar) (i:Nat):(po.map (·.p)).getD i default=(po.getD i default).p:=by
 rw [bE,bE,gZ]
 cases po[i]?<;>rfl
def xq {α:Type} (pr:α->Bool) (l:List α):Int:=if l.any pr then(l.findIdx pr:Nat) else -1
theorem ajm {α:Type} [Inhabited α] {pr:α->Bool} {l:List α} {i:Nat} (hi:i<l.length) (h0:∀ j,j<i->pr (l.getD j default)=false) (h:pr (l.getD i default)=true):xq pr l=(i:Int):=by
 have hg:∀ j (hj:j<l.length),l.getD j default=l[j]:=fun j hj=>by rw [bE,bY hj];rfl
 have e:l.findIdx pr=i:=by
  rw [List.findIdx_eq hi]
  refine⟨by rw [<-hg i hi];exact h,fun j hj=>?_⟩
  rw [<-hg j J];exact h0 j hj
 have ha:l.any pr=true:=List.any_eq_true.2 ⟨l[i],qx hi,by rw [<-hg i hi];exact h⟩
 unfold xq
 rw [if_pos ha,e]
theorem aw3 {α:Type} [Inhabited α] {pr:α->Bool} {l:List α} (h0:∀ j,j<l.length->pr (l.getD j default)=false):xq pr l=-1:=by
 have ha:l.any pr=false:=by
  rw [List.any_eq_false]
  intro x hx
  obtain⟨i,hi,rfl⟩:=asb.1 hx
  have:=h0 i hi
  rw [bE,bY hi] at this
  simpa using this
 unfold xq
 rw [if_neg (by rw [ha];decide)]
theorem aBR {α:Type} (pr:α->Bool) (l:List α):decide (xq pr l>=0)=l.any pr:=by
 unfold xq
 split
 ·rename_i h
  rw [h];exact decide_eq_true J
 ·rename_i h
  rw [ad9] at h
  rw [h];rfl
theorem aFK {α:Type} [Inhabited α] {l:List α} {i:Nat} (h:i<l.length):l.getD i default∈l:=by
 rw [bE,bY h];exact qx h
theorem awS {a b:Nat} (h:aq a=aq b):a=b:=by rw [<-cb a,h,cb]
section
variable {a b:Rat}
theorem aEW (h2:decide (aq a.num.natAbs=aq b.num.natAbs)=false):false=decide (a=b):=by
 symm;rw [decide_eq_false_iff_not];rintro rfl;simp at h2
theorem aIf (h:(decide (a<0)==decide (b<0))=true) (h2:decide (aq a.num.natAbs=aq b.num.natAbs)=true):decide (aq (km a)=aq (km b))=decide (a=b):=by
 rw [decide_eq_decide,avt]
 exact⟨fun h3=>⟨eq_of_beq h,awS (of_decide_eq_true h2),awS h3⟩,fun h3=>by rw [h3.2.2]⟩
end
def iR (k:List Rat) (t:Rat):Nat->Nat
 | 0=>0
 | i+1=>iR k t i+(if k.getD i 0=t then 1 else 0)
theorem awE (k:List Rat) (t:Rat):∀ i,iR k t i<=i
 | 0=>bF _
 | i+1=>by have:=awE k t i;rw [iR];split<;>omega
def dy (k:List Rat):Nat->List Rat
 | 0=>[]
 | i+1=>if i=0\/k.getD i 0≠k.getD (i-1) 0 then dy k i++[k.getD i 0] else dy k i
theorem awH (k:List Rat):∀ i,(dy k i).length<=i
 | 0=>bF _
 | i+1=>by
  have:=awH k i
  rw [dy];split
  ·simp;omega
  ·omega
theorem akC (k:List Rat):∀ i,i<=k.length->∀ x∈dy k i,x∈k
 | 0,_,x,h=>by cases h
 | i+1,hi,x,h=>by
  rw [dy] at h
  split at h
  ·rcases oO.1 h with h | h
   ·exact akC k i J x h
   ·rw [fP.1 h];exact eU J
  ·exact akC k i J x h
structure yJ (k:List Rat) (d:Nat):Prop where
 d1:1<=d
 d6:d<=6
 len:2*d+2<=k.length
 max:k.length<=d+41
 srt:∀ i,i+1<k.length->k.getD i 0<=k.getD (i+1) 0
 ne:k.getD 0 0≠k.getD (k.length-1) 0
 aGR:∀ t∈k,(t=k.getD 0 0\/t=k.getD (k.length-1) 0)->iR k t k.length=d+1
 ink:∀ t∈k,t≠k.getD 0 0->t≠k.getD (k.length-1) 0->iR k t k.length<=d
 sz:∀ x∈k,rl x<=64
theorem aiI {k:List Rat}:∀ i,i<=k.length->(∀ j,1<=j->j<i->k.getD j 0≠k.getD (j-1) 0)->dy k i=k.take i
 | 0,_,_=>rfl
 | i+1,hi,h=>by
  rw [dy,aiI i J (fun j h1 h2=>h j h1 J),if_pos (by
   by_cases e:i=0
   ·exact .inl e
   ·exact .inr (h i J J)),v8,bE,bY J];rfl
theorem aon {k:List Rat} {i:Nat} (h0:0<i) (h:k.getD i 0≠k.getD (i-1) 0):dy k (i+1)=dy k i++[k.getD i 0]:=by rw [dy,if_pos (.inr h)]
theorem adl {k:List Rat} {i:Nat} (h0:0<i) (h:k.getD i 0=k.getD (i-1) 0):dy k (i+1)=dy k i:=by rw [dy,if_neg (fun e=>e.elim (fun e=>by omega) (fun e=>e h))]
theorem ayw {w:List Rat} {m n:Nat} (hm:m<=n) (hw:w.length=n):(w.map aa).take m++aV (n-m) (aa 0)++(w.map aa).drop (m+(n-m))=(w.take m++aV (n-m) 0).map aa:=by
 rw [kB bq]
 simp [w5]
theorem acX {l:List Rat} {k:Nat} (h:k<l.length):l.take k++[l.getD k 0]=l.take (k+1):=by
 rw [v8,bY h,bE,bY h];rfl
theorem aIe {α:Type} {e:α->LV} {ag:Bool} {bs:List Nat} {L:St} {b sz len:Nat} {l m:List α} {t:Bool} (he:gY e sz ag) (hb:L.heap b=some ⟨sz,(l++m).map e,t⟩) (tw:bs.contains b=true) (hl:len=l.length):da (L.ca bs).heap (.ref b sz 0 len) (.list sz (l.map e)):=by
 have:=abV (off:=0) (len:=len) hb tw (aP he _) bq
 subst hl
 rwa [List.drop_zero,<-w5,List.take_left] at this
open H0 in
theorem xK (a b:Rat) (h:rl a+rl b<=1099511627776):ax ak 134 [aa a,aa b] (bL (decide (a=b))):=by
 have a1:=oV a
 have a3:=qO a
 have c1:=oV b
 have c3:=qO b
 refine aR Tryz.func134 ?_
 refine eQ ?_
 refine ep 10 rfl ?_ ?_<;>intro pA sC
 ·refine aB ?_
  refine cp au (ahd _ _ J J) ?_
  refine aH ?_
  refine ep 17 rfl ?_ ?_<;>intro acD h17
  ·refine aB ?_
   refine cp au (ahd _ _ J J) ?_
   refine a7 ?_
   rw [<-aIf pA acD]
   exact dR
  ·refine bh ?_
   rw [<-aEW acD]
   exact dR
 ·refine iY ?_
  rw [<-aIu pA]
  exact dR
namespace ayf
theorem aw {p q:Prop} (k:q) (e:p=q:=by simp only [e1,e2,e3,e4,p1,p2,p3,q1,q2,q3,l1,t0,t1,r1,r2,r3,r4,Nat.zero_add,Nat.reduceMul,Nat.reduceAdd,b1,b2,b3,b4,b5,b6,i1,i2,i3,i4,i5,i6,Nat.reduceBEq,cn,kh,eii,List.set_cons_zero,List.set_cons_succ,Nat.reduceEqDiff,reduceIte,if_true,if_false,cB,dB,aG aX,aG bz,aG an,cA,cC,LV.kill,bH];exact rfl):p:=e.mpr k
end ayf
open ayf in
theorem aDp (f:Nat) (k:List Rat) (h0:0<k.length) (hl:k.length<=1048576) (hs:∀ i,i+1<k.length->k.getD i 0<=k.getD (i+1) 0) (hf:∀ x∈k,∀ y∈k,ax ak f [aa x,aa y] (iL (gp x y))):ax ak 215 [.list 3 (k.map aa),.bQ f []] (bL true):=by
 refine aR Tryz.func215 ?_
 have kh:True:=trivial
 have eii:True:=trivial
 refine bh ?_
 refine ah rfl nh ?_
 refine aB ?_
 refine dI (fun(i:Nat) L=>((((St.mk L.slot (hp [])).put (some 0) (.list 3 (k.map aa))).put (some 1) (.bQ f [])).put (some 5) (ae i))) (fun i=>i<k.length) (fun i=>i) (k.length-1) J ?_
 rintro i L1 hi
 refine bf ?_
 refine aL rfl ?_ ?_<;>intro pA sC
 ·have dq:0<i:=by omega
  have kh:((i:Int)-1).toNat=i-1:=by omega
  have eii:((i:Int)).toNat=i:=by omega
  have hc:=hf _ (eU (p:=k) (i:=i) hi) _ (eU (p:=k) (i:=i-1) J)
  have kP:=hs (i-1) J
  rw [Nat.sub_add_cancel J] at kP
  have hcg:0<=gp (k.getD i 0) (k.getD (i-1) 0):=zL.2 kP
  refine a7 ?_
  refine aY 12 al ?_
  refine bf ?_
  refine ah rfl nh ?_
  refine aH ?_
  refine eN [] rfl rfl (.bQ (f:=f) (cap:=[]) (args:=[aa (k.getD i 0),aa (k.getD (i-1) 0)]) rfl (.cons cG (.cons cG .nil)) ⟨rfl,fun _ h=>by cases h⟩ hc.1 ai (fun _ h=>by cases h)) (hc.2 _) ?_
  refine aQ ?_
  refine aL rfl ?_ ?_<;>intro rG vz
  ·omega
  ·refine a7 ?_
   refine ah rfl nh ?_
   refine aQ ?_
   exact lU (i-1) J
 ·refine bC ?_
  exact jL
namespace awl
theorem aw {p q:Prop} (k:q) (e:p=q:=by simp only [e1,e2,e3,e4,p1,p2,p3,q1,q2,q3,l1,t0,t1,r1,r2,r3,r4,Nat.zero_add,Nat.reduceMul,Nat.reduceAdd,b1,b2,b3,b4,b5,b6,i1,i2,i3,i4,i5,i6,Nat.reduceBEq,cn,List.set_cons_zero,List.set_cons_succ,Nat.reduceEqDiff,reduceIte,if_true,if_false,cB,dB,aG aX,aG bz,aG an,cA,cC,LV.kill,bH];exact rfl):p:=e.mpr k
end awl
open awl in
theorem amy (k:List Rat) (hl:k.length<=1048576) (hr:∀ x∈k,rl x<=549755813888) (t:Rat) (ht:rl t<=549755813888):ax ak 145 [.list 3 (k.map aa),aa t] (ae (iR k t k.length)):=by
 refine aR Tryz.func145 ?_
 refine lF ?_
 refine dI (fun(i:Nat) L=>((((((St.mk L.slot (hp [(3,⟨3,[aa t],true⟩)])).put (some 3) (.aF 3 3 0 0)).put (some 5) (ae (iR k t i))).put (some 8) (.list 3 (k.map aa))).put (some 9) (ae k.length)).put (some 10) (ae i))) (fun i=>i<=k.length) (fun i=>k.length-i) 0 (bS _) ?_
 rintro i L1 hi
 refine ay ?_
 refine aL rfl ?_ ?_<;>intro acj yc
 ·have dq:i<k.length:=by omega
  have hx:=hr _ (eU (i:=i) J)
  have htl:=awE k t i
  refine nm ?_
  refine cp au (xK (k.getD i 0) t J) ?_
  refine aH ?_
  refine aL rfl ?_ ?_<;>intro vT sa
  ·have hT:iR k t (i+1)=iR k t i+1:=by rw [iR,if_pos sa]
   refine aH ?_
   refine ah rfl cu ?_
   refine aB ?_
   refine bR (az.kill _ 7) ?_
   refine ah rfl cu ?_
   refine aQ ?_
   exact lK
  ·have hT:iR k t (i+1)=iR k t i:=by rw [iR,if_neg sa];rfl
   refine aQ ?_
   refine bR (az.kill _ 7) ?_
   refine ah rfl cu ?_
   refine aQ ?_
   exact lK
 ·obtain rfl:i=k.length:=by omega
  refine bw ?_
  exact jL
namespace arI
theorem aw {p q:Prop} (k:q) (e:p=q:=by simp only [e1,e2,e3,e4,p1,p2,p3,q1,q2,q3,l1,t0,t1,r1,r2,r3,r4,Nat.zero_add,Nat.reduceMul,Nat.reduceAdd,b1,b2,b3,b4,b5,b6,i1,i2,i3,i4,i5,i6,Nat.reduceBEq,cn,kh,eii,eik,eia,pB,eyl,ewa,ewb,Nat.zero_add,Nat.add_zero,List.length_set,List.length_map,List.set_cons_zero,List.set_cons_succ,Nat.reduceEqDiff,reduceIte,if_true,if_false,cB,dB,aG aX,aG bz,aG an,cA,cC,LV.kill,bH];exact rfl):p:=e.mpr k
end arI
open arI in
theorem aFv (f:Nat) (l:List Rat) (h0:0<l.length) (hl:l.length<=1048576) (hf:∀ x∈l,∀ y∈l,ax ak f [aa x,aa y] (bL (decide (x=y)))):uv ak 132 ⟨3,l.map aa,true⟩ [.ref 0 3 0 l.length,.bQ f []] (.ref 0 3 0 (dy l l.length).length) ⟨3,((dy l l.length)++aV (l.length-(dy l l.length).length) 0).map aa,true⟩:=by
 refine fnM Tryz.func132 ?_
 have kh:True:=trivial
 have eii:True:=trivial
 have eik:True:=trivial
 have eia:True:=trivial
 have pB:True:=trivial
 have eyl:True:=trivial
 have ewa:True:=trivial
 have ewb:True:=trivial
 refine dk ?_
 refine aL rfl ?_ ?_<;>intro pA sC
 ·obtain aKm:l.length=1:=by omega
  have hE:(dy l l.length)=l:=by rw [aiI _ (bF _) (fun j h1 h2=>by omega),mQ]
  refine bg ?_
  first | (rw [hE,sM,aok,qo];exact xS rfl .ref rfl rfl (aP an _)) | (exact xS rfl .ref (by first | rfl | (simp;done)) rfl (aP an _))
 ·refine bB ?_
  refine dI (fun(i:Nat) L=>((((St.mk L.slot (hp [(0,⟨3,l.map aa,true⟩)])).put (some 0) (.ref 0 3 0 l.length)).put (some 1) (.bQ f [])).put (some 5) (ae i))) (fun i=>1<=i/\i<=l.length/\∀ j,1<=j->j<i->l.getD j 0≠l.getD (j-1) 0) (fun i=>l.length-i) 1 ⟨bF _,J,fun j h1 h2=>by omega⟩ ?_
  rintro i L1 ⟨xo,hil,bj⟩
  refine bB ?_
  refine aL rfl ?_ ?_<;>intro oG mV
  ·have dq:i<l.length:=by omega
   have kh:((i:Int)-1).toNat=i-1:=by omega
   have eii:((i:Int)).toNat=i:=by omega
   have hc:=hf _ (eU (p:=l) (i:=i) dq) _ (eU (p:=l) (i:=i-1) J)
   refine a7 ?_
   refine aY 11 al ?_
   refine bf ?_
   refine ah rfl nh ?_
   refine aH ?_
   try simp only [t1,cn,kh,eii,fg]
   refine eN [] rfl rfl (.bQ (f:=f) (cap:=[]) (args:=[aa (l.getD i 0),aa (l.getD (i-1) 0)]) rfl (.cons cG (.cons cG .nil)) ⟨rfl,fun _ h=>by cases h⟩ hc.1 ai (fun _ h=>by cases h)) (hc.2 _) ?_
   refine aH ?_
   refine aL rfl ?_ ?_<;>intro zR ss
   ·have hdi:dy l (i+1)=dy l i:=adl J ss
    have mD:dy l i=l.take i:=aiI i hil bj
    have hln:(l.take i).length=i:=by rw [fQ];omega
    have eI:1<=1/\i+1<=l.length/\l.length=l.length/\(dy l (i+1)).length+1<=i+1/\l.take (dy l (i+1)).length=dy l (i+1)/\∀ x,i+1-1<=x->l.getD x 0=l.getD x 0:=⟨bF _,J,rfl,by rw [hdi,mD,hln];omega,by rw [hdi,mD,hln],fun _ _=>rfl⟩
    have eia:(dy l (i+1)).length=i:=by rw [hdi,mD,hln]
    refine aB ?_
    refine ah rfl (.wj (a:=i) (h:=l.length) rfl dY dC (fun y hy=>by cases hy;exact⟨_,rfl⟩) (fun h=>by cases h) (fun y hy=>by cases hy) (fun _=>rfl) om om om) ?_
    refine bh ?_
    refine iv (fun(j:Nat) (w:List Rat) L=>((((((St.mk L.slot (hp [(0,⟨3,w.map aa,true⟩)])).put (some 0) (.ref 0 3 0 l.length)).put (some 1) (.bQ f [])).put (some 5) (ae (dy l (i+j)).length)).put (some 6) (.ref 0 3 i (l.length-i))).put (some 7) (ae j))) (fun j w=>1<=j/\i+j<=l.length/\w.length=l.length/\(dy l (i+j)).length+1<=i+j/\w.take (dy l (i+j)).length=(dy l (i+j))/\∀ x,i+j-1<=x->w.getD x 0=l.getD x 0) (fun j w=>l.length-(i+j)) 1 l eI ?_
    rintro j w L2 ⟨hj1,pK,gh,mj,kG,hwx⟩
    refine bB ?_
    refine aL rfl ?_ ?_<;>intro wx uK
    ·have hi3:i+j<l.length:=by omega
     have ewa:w.getD (i+j) 0=l.getD (i+j) 0:=hwx _ J
     have ewb:w.getD (i+(j-1)) 0=l.getD (i+j-1) 0:=by rw [show i+(j-1)=i+j-1 by omega];exact hwx _ J
     have eik:((j:Int)-1).toNat=j-1:=by omega
     have hc:=hf _ (eU (p:=l) (i:=i+j) hi3) _ (eU (p:=l) (i:=i+j-1) J)
     have xb:(dy l (i+j)).length<l.length:=by omega
     refine a7 ?_
     refine aY 12 al ?_
     refine bf ?_
     refine ah rfl nh ?_
     refine aH ?_
     try simp only [t1,cn,eik,ewa,ewb]
     refine eN [] rfl rfl (.bQ (f:=f) (cap:=[]) (args:=[aa (l.getD (i+j) 0),aa (l.getD (i+j-1) 0)]) rfl (.cons cG (.cons cG .nil)) ⟨rfl,fun _ h=>by cases h⟩ hc.1 ai (fun _ h=>by cases h)) (hc.2 _) ?_
     refine aQ ?_
     refine aL rfl ?_ ?_<;>intro ab9 h49
     ·have hy:=aon (k:=l) (i:=i+j) J h49
      have eyl:(dy l (i+(j+1))).length=(dy l (i+j)).length+1:=by rw [<-oQ,hy];simp
      have yW:(dy l (i+j+1)).length=(dy l (i+j)).length+1:=by rw [hy];simp
      have hnA:1<=j+1/\i+(j+1)<=l.length/\(w.set (dy l (i+j)).length (l.getD (i+j) 0)).length=l.length/\(dy l (i+(j+1))).length+1<=i+(j+1)/\(w.set (dy l (i+j)).length (l.getD (i+j) 0)).take (dy l (i+(j+1))).length=dy l (i+(j+1))/\∀ x,i+(j+1)-1<=x->(w.set (dy l (i+j)).length (l.getD (i+j) 0)).getD x 0=l.getD x 0:=⟨J,J,by simp [gh],by rw [<-oQ,yW];omega,by rw [<-oQ,yW,hy,v8,att (bF _),kG,List.getElem?_set_self J];rfl,fun x hx=>by rw [aaj _ _ _ _ J,if_neg J];exact hwx x J⟩
      refine bB ?_
      try simp only [t1,cn,ewa,fg]
      refine a7 ?_
      refine ah rfl cu ?_
      refine ay ?_
      refine ah rfl cu ?_
      refine aQ ?_
      exact fO (j+1) (w.set (dy l (i+j)).length (l.getD (i+j) 0)) hnA
     ·have hy:=adl (k:=l) (i:=i+j) J h49
      have eyl:(dy l (i+(j+1))).length=(dy l (i+j)).length:=by rw [<-oQ,hy]
      have hnB:1<=j+1/\i+(j+1)<=l.length/\w.length=l.length/\(dy l (i+(j+1))).length+1<=i+(j+1)/\w.take (dy l (i+(j+1))).length=dy l (i+(j+1))/\∀ x,i+(j+1)-1<=x->w.getD x 0=l.getD x 0:=⟨J,J,gh,by rw [<-oQ,hy];omega,by rw [<-oQ,hy];exact kG,fun x hx=>hwx x J⟩
      refine a7 ?_
      refine ah rfl cu ?_
      refine aQ ?_
      exact fO (j+1) w hnB
    ·obtain rfl:j=l.length-i:=by omega
     have eia:i+(l.length-i)=l.length:=by omega
     have iP:=mj
     rw [eia] at mj kG
     have pB:=ayw (w:=w) (m:=(dy l l.length).length) (n:=l.length) J gh
     rw [kG] at pB
     refine bB ?_
     refine ah rfl (.wj (a:=(dy l (i+(l.length-i))).length) (h:=l.length) rfl dY dC (fun y hy=>by cases hy;exact⟨_,rfl⟩) (fun h=>by cases h) (fun y hy=>by cases hy) (fun _=>rfl) om om om) ?_
     refine bO rfl (.clr (n:=l.length-(dy l (i+(l.length-i))).length) (off:=0+(dy l (i+(l.length-i))).length) (z:=aa 0) (blk:=⟨3,w.map aa,true⟩) rfl rfl rfl rfl jQ dY (rQ ▸ kT) (an.av 0)) ?_
     refine ay ?_
     refine ah rfl (.ahZ rfl dY dC rfl om om) ?_
     refine bB ?_
     first | (rw [hE,sM,aok,qo];exact xS rfl .ref rfl rfl (aP an _)) | (exact xS rfl .ref (by first | rfl | (simp;done)) rfl (aP an _))
   ·have hnx:∀ j,1<=j->j<i+1->l.getD j 0≠l.getD (j-1) 0:=fun j h1 h2=>by
     rcases ae8.1 h2 with e | rfl
     ·exact bj j h1 e
     ·exact ss
    refine a7 ?_
    refine ah rfl cu ?_
    refine aQ ?_
    exact lU (i+1) ⟨J,J,hnx⟩
  ·obtain rfl:i=l.length:=by omega
   have hE:(dy l l.length)=l:=by rw [aiI _ (bF _) bj,mQ]
   refine bw ?_
   first | (rw [hE,sM,aok,qo];exact xS rfl .ref rfl rfl (aP an _)) | (exact xS rfl .ref (by first | rfl | (simp;done)) rfl (aP an _))
namespace anJ
theorem aw {p q:Prop} (k:q) (e:p=q:=by simp only [e1,e2,e3,e4,p1,p2,p3,q1,q2,q3,l1,t0,t1,r1,r2,r3,r4,Nat.zero_add,Nat.reduceMul,Nat.reduceAdd,b1,b2,b3,b4,b5,b6,i1,i2,i3,i4,i5,i6,Nat.reduceBEq,cn,Rat.add_zero,iH,eW,Nat.zero_add,fo,eO,dW,List.length_cons,List.length_nil,List.nil_append,List.map_nil,List.take_nil,List.append_nil,List.set_cons_zero,List.set_cons_succ,Nat.reduceEqDiff,reduceIte,if_true,if_false,cB,dB,aG aX,aG bz,aG an,cA,cC,LV.kill,bH];exact rfl):p:=e.mpr k
end anJ
open anJ in
theorem ap5 (p:List Rat) (hl:p.length<=1048576) (jn:∀ x∈p,rl x<=274877906944):pC ak 133 [.list 3 (p.map aa)] (.ref 1 3 0 p.length) [⟨3,p.map aa,true⟩]:=by
 refine fnO Tryz.func133 ?_
 have iH:True:=trivial
 have eW:True:=trivial
 refine bB ?_
 refine dF rfl rfl (.lf (n:=0) (m:=p.length) ml ml om om om) ?_
 refine bw ?_
 refine dI (fun(k:Nat) L=>(((((St.mk L.slot (hp [(8,⟨3,(p.take k).map aa,true⟩)])).put (some 3) (.ref 8 3 0 k)).put (some 9) (.list 3 (p.map aa))).put (some 10) (ae p.length)).put (some 11) (ae k))) (fun k=>k<=p.length) (fun k=>p.length-k) 0 (bS _) ?_
 rintro k L1 hk
 refine ay ?_
 refine aL rfl ?_ ?_<;>intro abL h12
 ·have lS:k<p.length:=by omega
  have hrk:=jn _ (eU lS)
  have hA:=fA (p.getD k 0) 0 (by rw [show rl 0=1 from rfl];omega)
  rw [jC] at hA
  have iH:=acX (l:=p) lS
  have eW:((p.take k).map aa).take k=(p.take k).map aa:=cE aai
  refine eQ ?_
  refine ah rfl rE ?_
  refine cp au (hA) ?_
  refine ao ?_
  refine bO rfl asL ?_
  refine aB ?_
  refine bR ((az.kill _ 5).trans (az.kill _ 19)) ?_
  refine ah rfl cu ?_
  refine aQ ?_
  exact yb
 ·obtain rfl:k=p.length:=by omega
  have hE:p.take p.length=p:=mQ
  refine bw ?_
  rw [hE]
  exact aga rfl rfl (aP an _)
namespace ig
theorem aw {p q:Prop} (k:q) (e:p=q:=by simp only [e1,e2,e3,e4,p1,p2,p3,q1,q2,q3,l1,t0,t1,r1,r2,r3,r4,Nat.zero_add,Nat.reduceMul,Nat.reduceAdd,b1,b2,b3,b4,b5,b6,i1,i2,i3,i4,i5,i6,Nat.reduceBEq,List.set_cons_zero,List.set_cons_succ,Nat.reduceEqDiff,reduceIte,if_true,if_false,cB,dB,aG aX,aG bz,aG an,cA,cC,LV.kill,bH];exact rfl):p:=e.mpr k
end ig
open ig in
theorem aii (k:List Rat) (h0:0<k.length) (hl:k.length<=1048576) (hr:∀ x∈k,rl x<=274877906944):ax ak 74 [.list 3 (k.map aa)] (.list 3 ((dy k k.length).map aa)):=by
 refine aR Tryz.func74 ?_
 refine bg ?_
 refine abB [] rfl rfl (.cons (.pure (cd an _ _)) .nil) (ap5 k hl hr) (aP an _) rfl ?_
 refine acy 1000065 rfl rfl rfl (aP an _) (.cons .ref (.cons (.eF (.pure rfl)) .nil)) (.ref h0) (aFv 134 k h0 hl (fun x hx y hy=>xK x y (by have:=hr x hx;have:=hr y hy;omega))) rfl (aP an _) ?_
 refine aB ?_
 exact lW [1000065] rfl rfl (aIe an rfl rfl rfl)
open H0 in
theorem aed (k:List Rat) (d:Nat) (h:d+1<=k.length) (hl:k.length<=1048576):ax ak 178 [.list 3 (k.map aa),ae d] (ae (k.length-d-1)):=by
 refine aR Tryz.func178 ?_
 refine bh ?_
 refine ah rfl aaK ?_
 refine ah rfl aaK ?_
 refine aB ?_
 refine dO ?_ (.pure rfl)
 simp only [e1,e2,e3,e4,p1,p2,p3,q1,q2,q3,Nat.reduceBEq]
 congr 2
 omega
namespace aq7
theorem aw {p q:Prop} (k:q) (e:p=q:=by simp only [e1,e2,e3,e4,p1,p2,p3,q1,q2,q3,l1,t0,t1,r1,r2,r3,r4,Nat.zero_add,Nat.reduceMul,Nat.reduceAdd,b1,b2,b3,b4,b5,b6,i1,i2,i3,i4,i5,i6,Nat.reduceBEq,cn,qA,List.set_cons_zero,List.set_cons_succ,Nat.reduceEqDiff,reduceIte,if_true,if_false,cB,dB,aG aX,aG bz,aG an,cA,cC,LV.kill,bH];exact rfl):p:=e.mpr k
end aq7
open aq7 in
theorem al7 (k:List Rat) (d:Nat) (h:yJ k d):ax ak 130 [.list 3 (k.map aa),ae d] (iL 0):=by
 have oa:=h.d1
 have hd6:=h.d6
 have hlen:=h.len
 have aK4:=h.max
 have hr:∀ x∈k,rl x<=274877906944:=fun x hx=>bb (h.sz x hx) ai
 have qA:((k.length:Int)-1).toNat=k.length-1:=by omega
 have lE:=h.sz _ (eU (p:=k) (i:=0) J)
 have gk:=h.sz _ (eU (p:=k) (i:=k.length-1) J)
 have hS:ax ak 215 [.list 3 (k.map aa),.bQ 108 []] (bL true):=aDp 108 k J J h.srt (fun x hx y hy=>mG x y (by have:=h.sz x hx;have:=h.sz y hy;omega))
 refine aR Tryz.func130 ?_
 refine bC ?_
 refine ah rfl aaK ?_
 refine ah rfl aaK ?_
 refine bB ?_
 refine ep 18 rfl ?_ ?_<;>intro aau xT
 ·omega
 ·refine ay ?_
  refine aL rfl ?_ ?_<;>intro oG mV
  ·omega
  ·refine a7 ?_
   refine ah rfl (.bin rfl rfl (afh J J)) ?_
   refine ah rfl afa ?_
   refine aB ?_
   refine aL rfl ?_ ?_<;>intro aem h22
   ·omega
   ·refine bf ?_
    refine aL rfl ?_ ?_<;>intro aa9 h29
    ·omega
    ·refine a7 ?_
     refine aY 15 al ?_
     refine ao ?_
     refine cp au (hS) ?_
     refine bg ?_
     refine ah (aM (v:=false) rfl rfl (rfl) rfl) (.bin rfl rfl (aaa J J)) ?_
     refine aH ?_
     try simp only [t1,cn,qA]
     refine cp au (xK (k.getD 0 0) (k.getD (k.length-1) 0) J) ?_
     refine aQ ?_
     refine dp (b:=_) rfl (decide_eq_false h.ne) ?_
     refine ay ?_
     refine cp aO (aii k J J hr) ?_
     refine a7 ?_
     refine dI (fun(i:Nat) L=>((((((St.mk L.slot (hp [])).put (some 0) (.list 3 (k.map aa))).put (some 1) (ae d)).put (some 48) (.list 3 ((dy k k.length).map aa))).put (some 49) (ae (dy k k.length).length)).put (some 50) (ae i))) (fun i=>i<=(dy k k.length).length) (fun i=>(dy k k.length).length-i) 0 (bS _) ?_
     rintro i L1 hi
     refine ay ?_
     refine aL rfl ?_ ?_<;>intro anB h51
     ·have mj:=awH k k.length
      have dq:i<(dy k k.length).length:=by omega
      have hm:=akC k k.length (bF _) _ (eU dq)
      have hrt:=h.sz _ hm
      have he1:=h.aGR _ hm
      have he2:=h.ink _ hm
      refine nm ?_
      refine cp au (amy k J (fun x hx=>bb (hr x hx) ai) ((dy k k.length).getD i 0) J) ?_
      refine aB ?_
      refine aY 16 al ?_
      refine aB ?_
      refine cp au (xK ((dy k k.length).getD i 0) (k.getD 0 0) J) ?_
      refine ao ?_
      refine ep 62 rfl ?_ ?_<;>intro apG h62
      ·refine bf ?_
       try simp only [t1,cn,qA]
       refine bC ?_
       refine ah (aM (v:=true) rfl rfl (rfl) rfl) (.bin rfl rfl (zj J J)) ?_
       refine aQ ?_
       refine ep 79 rfl ?_ ?_<;>intro aov h79
       ·have:=he1 (by first | exact .inl h62 | exact .inr h73)
        omega
       ·refine aQ ?_
        refine yd (aM (v:=false) rfl rfl (vr) rfl) ?_
        refine yd (aM (v:=false) rfl rfl (vr) rfl) ?_
        refine yd (aM (v:=false) rfl rfl (vr) rfl) ?_
        refine ah (aM (v:=false) rfl rfl (aov) rfl) (.m9 rfl (vr)) ?_
        refine bf ?_
        refine bR (az.kill _ 7) ?_
        refine ah rfl cu ?_
        refine aQ ?_
        exact lK
      ·refine aB ?_
       refine ah (aM (v:=false) rfl rfl (apG) rfl) (.bin rfl rfl (aaa J J)) ?_
       refine aH ?_
       try simp only [t1,cn,qA]
       refine cp au (xK ((dy k k.length).getD i 0) (k.getD (k.length-1) 0) J) ?_
       refine bg ?_
       refine ep 73 rfl ?_ ?_<;>intro au6 h73
       ·refine aH ?_
        refine ah (aM (v:=true) rfl rfl (au6) rfl) (.bin rfl rfl (zj J J)) ?_
        refine aQ ?_
        refine ep 79 rfl ?_ ?_<;>intro aov h79
        ·have:=he1 (by first | exact .inl h62 | exact .inr h73)
         omega
        ·refine aQ ?_
         refine yd (aM (v:=false) rfl rfl (vr) rfl) ?_
         refine yd (aM (v:=false) rfl rfl (vr) rfl) ?_
         refine yd (aM (v:=false) rfl rfl (vr) rfl) ?_
         refine ah (aM (v:=false) rfl rfl (aov) rfl) (.m9 rfl (vr)) ?_
         refine bf ?_
         refine bR (az.kill _ 7) ?_
         refine ah rfl cu ?_
         refine aQ ?_
         exact lK
       ·refine bB ?_
        refine ah (aM (v:=true) rfl rfl (vr) rfl) (.move _) ?_
        refine ah (aM (v:=true) rfl rfl (vr) rfl) (.move _) ?_
        refine ah (aM (v:=true) rfl rfl (vr) rfl) (.bin rfl rfl rfl) ?_
        refine ah (aM (v:=false) rfl rfl (rfl) rfl) (.gU rfl (vr)) ?_
        refine aQ ?_
        refine aL rfl ?_ ?_<;>intro aKY h87
        ·have:=he2 h62 h73
         omega
        ·refine aQ ?_
         refine bR (az.kill _ 7) ?_
         refine ah rfl cu ?_
         refine aQ ?_
         exact lK
     ·refine bC ?_
      exact jL
def iU (s:Rat × Rat):Rat × Rat:=if jr s 0=true then(0,er (s.1*s.1) (s.2*s.2)) else(eM (s.1*s.1) (s.2*s.2),er (s.1*s.1) (s.2*s.2))
def kz (a b:Rat × Rat):Rat × Rat:=iV (iV (iV (a.1*b.1,a.1*b.1) (a.1*b.2,a.1*b.2)) (a.2*b.1,a.2*b.1)) (a.2*b.2,a.2*b.2)
def rcS (b:Rat × Rat):Rat × Rat:=(eM (1/b.1) (1/b.2),er (1/b.1) (1/b.2))
def k6 (a b:Rat × Rat):Rat × Rat:=kz a (rcS b)
def dg (R:Nat) (s:Rat × Rat):Prop:=rl s.1<=R/\rl s.2<=R
theorem dg.le {R S:Nat} {s:Rat × Rat} (h:dg R s) (k:R<=S):dg S s:=⟨bb h.1 k,bb h.2 k⟩
theorem an1 {a b:Rat} {R:Nat} (ha:rl a<=R) (hb:rl b<=R):rl (eM a b)<=R:=by unfold eM;split<;>assumption
theorem ajD {a b:Rat} {R:Nat} (ha:rl a<=R) (hb:rl b<=R):rl (er a b)<=R:=by unfold er;split<;>assumption
theorem adY {R:Nat} {s t:Rat × Rat} (hs:dg R s) (ht:dg R t):dg R (iV s t):=⟨an1 hs.1 ht.1,ajD hs.2 ht.2⟩
theorem wB {R S:Nat} {a b:Rat × Rat} (ha:dg R a) (hb:dg S b):dg (R+S) (kz a b):=by
 obtain⟨a1,a2⟩:=ha
 obtain⟨b1,b2⟩:=hb
 have h:∀ x y:Rat,rl x<=R->rl y<=S->dg (R+S) (x*y,x*y):=fun x y hx hy=>by
  have:=cM x y
  exact⟨by show rl (x*y)<=_;omega,by show rl (x*y)<=_;omega⟩
 exact adY (adY (adY (h _ _ a1 b1) (h _ _ a1 b2)) (h _ _ a2 b1)) (h _ _ a2 b2)
theorem avL {R:Nat} {b:Rat × Rat} (hb:dg R b):dg (R+1) (rcS b):=by
 have h:∀ x:Rat,rl x<=R->rl (1/x)<=R+1:=fun x hx=>by
  have:=pH 1 x
  have:rl 1=1:=rfl
  omega
 exact⟨an1 (h _ hb.1) (h _ hb.2),ajD (h _ hb.1) (h _ hb.2)⟩
theorem ae9 {R S:Nat} {a b:Rat × Rat} (ha:dg R a) (hb:dg S b):dg (R+(S+1)) (k6 a b):=wB ha (avL hb)
theorem atJ {R:Nat} {s:Rat × Rat} (hs:dg R s) (hR:1<=R):dg (2*R) (iU s):=by
 have h1:=cM s.1 s.1
 have h2:=cM s.2 s.2
 have h3:=hs.1
 have h4:=hs.2
 have h0:rl 0=1:=rfl
 unfold iU
 split
 ·exact⟨by show rl 0<=_;omega,ajD J J⟩
 ·exact⟨an1 J J,ajD J J⟩
structure _root_.Go.Lg.jt where
 x:Rat × Rat
 y:Rat × Rat
 z:Rat × Rat
abbrev fY (b:jt):LV:=.agg [aD b.x,aD b.y,aD b.z]
theorem og:gY fY 18 true:=by
 refine⟨fun b=>?_,fun b=>rfl,fun b=>?_⟩
 ·simp [fY,LV.av,cL,bl.av]
 ·simp [fY,LV.pure,aK,bl.pure]
def gI (R:Nat) (b:jt):Prop:=dg R b.x/\dg R b.y/\dg R b.z
open ig in
theorem adW (a b:Rat × Rat) (R:Nat) (hR:R<=1000000000) (ha:dg R a) (hb:dg R b):ax ak 170 [aD a,aD b] (aD (kz a b)):=by
 obtain⟨a1,a2⟩:=ha
 obtain⟨y1,y2⟩:=hb
 have m11:=cM a.1 b.1
 have m12:=cM a.1 b.2
 have m21:=cM a.2 b.1
 have m22:=cM a.2 b.2
 have hP:∀ x:Rat,rl x<=2*R->dg (2*R) (x,x):=fun x hx=>⟨hx,hx⟩
 have c0:=hP (a.1*b.1) J
 have c1:=adY c0 (hP (a.1*b.2) J)
 have c2:=adY c1 (hP (a.2*b.1) J)
 obtain⟨d1,d2⟩:=c1
 obtain⟨f1,f2⟩:=c2
 refine aR Tryz.func170 ?_
 refine dk ?_
 refine cp au (ef a.1 b.1 J) ?_
 refine cp aO (nD (a.1*b.1) J) ?_
 refine ak9 ?_
 refine bc ?_
 refine ay ?_
 refine bI (b:=_) rfl ai ?_
 refine bC ?_
 refine aY 8 al ?_
 refine a7 ?_
 refine cp au (ef a.1 b.2 J) ?_
 refine cp aO (nD (a.1*b.2) J) ?_
 refine cp au (s9 ((a.1*b.1),(a.1*b.1)) ((a.1*b.2),(a.1*b.2)) (by show rl (a.1*b.1)+rl (a.1*b.2)<=_;omega) (by show rl (a.1*b.1)+rl (a.1*b.2)<=_;omega)) ?_
 refine aB ?_
 refine bR (az.kill _ 7) ?_
 refine aB ?_
 refine bc ?_
 refine ay ?_
 refine bI (b:=_) rfl ai ?_
 refine bC ?_
 refine aY 8 al ?_
 refine a7 ?_
 refine cp au (ef a.2 b.1 J) ?_
 refine cp aO (nD (a.2*b.1) J) ?_
 refine cp au (s9 (iV ((a.1*b.1),(a.1*b.1)) ((a.1*b.2),(a.1*b.2))) ((a.2*b.1),(a.2*b.1)) (by show _+rl (a.2*b.1)<=_;omega) (by show _+rl (a.2*b.1)<=_;omega)) ?_
 refine aB ?_
 refine bR (az.kill _ 7) ?_
 refine aB ?_
 refine bc ?_
 refine ay ?_
 refine bI (b:=_) rfl ai ?_
 refine bC ?_
 refine aY 8 al ?_
 refine a7 ?_
 refine cp au (ef a.2 b.2 J) ?_
 refine cp aO (nD (a.2*b.2) J) ?_
 refine cp au (s9 (iV (iV ((a.1*b.1),(a.1*b.1)) ((a.1*b.2),(a.1*b.2))) ((a.2*b.1),(a.2*b.1))) ((a.2*b.2),(a.2*b.2)) (by show _+rl (a.2*b.2)<=_;omega) (by show _+rl (a.2*b.2)<=_;omega)) ?_
 refine aB ?_
 refine bR (az.kill _ 7) ?_
 refine aB ?_
 refine bc ?_
 refine ay ?_
 refine dp (b:=_) rfl ai ?_
 refine bw ?_
 exact od
open H0 in
theorem adP (s:Rat × Rat) (x:Rat) (h1:rl s.1+rl x<=549755813888) (h2:rl x+rl s.2<=549755813888):ax ak 91 [aD s,aa x] (bL (jr s x)):=by
 refine aR Tryz.func91 ?_
 refine bw ?_
 refine cp au (mG _ _ J) ?_
 refine aH ?_
 refine ep 10 rfl ?_ ?_<;>intro pA sC
 ·refine aQ ?_
  refine cp au (mG _ _ J) ?_
  refine ay ?_
  rw [<-aqA pA]
  exact dR
 ·refine bh ?_
  rw [<-axx pA]
  exact dR
open ig in
theorem ayc (s:Rat × Rat) (R:Nat) (hR:R<=1000000000) (ha:dg R s):ax ak 157 [aD s] (aD (iU s)):=by
 obtain⟨a1,a2⟩:=ha
 have m1:=cM s.1 s.1
 have m2:=cM s.2 s.2
 have h0:rl 0=1:=rfl
 refine aR Tryz.func157 ?_
 refine bf ?_
 refine aY 12 al ?_
 refine aB ?_
 refine cp au (ef s.1 s.1 J) ?_
 refine aB ?_
 refine cp au (ef s.2 s.2 J) ?_
 refine cp au (xN (s.1*s.1) (s.2*s.2) J) ?_
 refine bg ?_
 refine ah rfl rE ?_
 refine cp au (adP s 0 J J) ?_
 refine aH ?_
 refine aL rfl ?_ ?_<;>intro acD h17
 ·have hS:iU s=(0,er (s.1*s.1) (s.2*s.2)):=if_pos h17
  refine ao ?_
  refine ah rfl rE ?_
  refine bC ?_
  rw [hS]
  exact od
 ·have hS:iU s=(eM (s.1*s.1) (s.2*s.2),er (s.1*s.1) (s.2*s.2)):=if_neg (by rw [h17];decide)
  refine bB ?_
  rw [hS]
  exact od
open ig in
theorem vc (a b:Rat × Rat) (R:Nat) (hR:R<=100000000) (ha:dg R a) (hb:dg R b) (hz:jr b 0=false):ax ak 161 [aD a,aD b] (.a9 [aD (k6 a b),iL 0]):=by
 have ha2:=ha.le (Nat.le_succ R)
 have hrc:=avL hb
 obtain⟨y1,y2⟩:=hb
 have h0:rl 0=1:=rfl
 have gk:rl 1=1:=rfl
 have qd1:=pH 1 b.1
 have qd2:=pH 1 b.2
 have xR:ax ak 187 [iL 1] (aa 1):=rZ 1 ai ai
 have tO:=sH 1 b.1 J
 have hq2:=sH 1 b.2 J
 refine aR Tryz.func161 (ht:=(iF (bl.pure _) rfl)) ?_
 refine bw ?_
 refine ah rfl rE ?_
 refine cp au (adP b 0 J J) ?_
 refine aH ?_
 refine aL rfl ?_ ?_<;>intro ahj h13
 ·rw [hz] at ahj
  cases ahj
 ·refine aB ?_
  refine cp aO (xR) ?_
  refine bB ?_
  refine cp au (tO) ?_
  refine dk ?_
  refine cp au (hq2) ?_
  refine bB ?_
  refine aY 5 al ?_
  refine aQ ?_
  refine cp au (xN (1/b.1) (1/b.2) J) ?_
  refine cp au (adW a (rcS b) (R+1) J ha2 hrc) ?_
  refine a7 ?_
  exact qE [] rfl rfl rfl (bl.av _) (wi _) jM (.pure (bl.pure _)) rfl (.pure rfl)
def d3V (l:List Int) (k:Nat):V3:=⟨(yF l k).1,(yF l (yF l k).2).1,(yF l (yF l (yF l k).2).2).1⟩
def d3K (l:List Int) (k:Nat):Nat:=(yF l (yF l (yF l k).2).2).2
def dwV (l:List Int) (k:Nat):Rat:=((1+(ti l k 3).tmod 3:Int):Rat)
def dpV (l:List Int) (k:Nat):ar:=⟨d3V l k,dwV l (d3K l k)⟩
def dpK (l:List Int) (k:Nat):Nat:=lM l (d3K l k)
def dqK (l:List Int):Nat->Nat->Nat
 | k,0=>k
 | k,c+1=>dqK l (dpK l k) c
def dtV (l:List Int) (k:Nat):Rat:=((ti l k 4-2:Int):Rat)
def cD (l:List Int) (k:Nat) (n:Nat):Nat:=(1+ti l k (n:Int)).toNat
theorem ab6 {P:Program} {ops:Array Oper} {D:Array Bool} {L:St} {K:St->Prop} {fuel:Nat} (i j k:Nat) (o o2 o3:Oper) (hr:Region.ready .any ops D=[i,j,k]) (ho:ops[i]?=some o) (ho2:ops[j]?=some o2) (ho3:ops[k]?=some o3)
  (h:opsL P false ops [o] L (fun L'=>ng P ops fuel (D.setIfInBounds i true) L' K)) (h2:opsL P false ops [o2] L (fun L'=>ng P ops fuel (D.setIfInBounds j true) L' K)) (h3:opsL P false ops [o3] L (fun L'=>ng P ops fuel (D.setIfInBounds k true) L' K)):ng P ops (fuel+1) D L K:=by
 simp only [opsL] at h h2 h3
 refine⟨fun e=>(by rw [hr] at e;cases e),fun x hx=>?_⟩
 rw [hr] at hx
 simp only [ff,iq,or_false] at hx
 rcases hx with rfl | rfl | rfl
 ·obtain⟨L',h1,h4⟩:=h
  exact⟨o,L',ho,h1,h4⟩
 ·obtain⟨L',h1,h4⟩:=h2
  exact⟨o2,L',ho2,h1,h4⟩
 ·obtain⟨L',h1,h4⟩:=h3
  exact⟨o3,L',ho3,h1,h4⟩
section
variable {P:Program} {H:b9} {ρ:Operand->LV} {T:TypeId}
theorem alU {o0 o1:Operand} {p:V3} {r:Rat} [z:ZI P T (.agg [.agg [aa 0,aa 0,aa 0],aa 0])] [s:SI P T [(9,true),(3,true)]] (h0:ρ o0=aE p) (h1:ρ o1=aa r) :
  aN P H ρ (.build T #[(0,o0),(1,o1)]) (bm ⟨p,r⟩):=by
 have:=aN.bd (H:=H) (ρ:=ρ) (ps:=#[(0,o0),(1,o1)]) (z:=z) (s:=s) (by simp [lay,LV.av,cL,an.av,an.isAgg,s6]) (by
  intro q hq
  simp only [ff,iq,or_false] at hq
  rcases hq with rfl | rfl
  ·exact⟨_,rfl,by rw [h0];simp [lay,aX.av,LV.av,cL,an.av];rfl,by rw [h0];exact LV.dT (aX.pure _),by rw [h0];exact LV.dG (aX.pure _)⟩
  ·exact⟨_,rfl,by rw [h1];simp [lay,an.av,an.isAgg],by rw [h1];exact LV.dT (an.pure _),by rw [h1];exact LV.dG (an.pure _)⟩)
 simp only [jK,uL,vx,vZ,h0,h1] at this
 exact this
end
theorem gD1 {a b:List Rat} {i:Nat} (h:i<a.length):(a++b).getD i 0=a.getD i 0:=by
 rw [bE,bE,aeo h]
theorem gD2 {a b:List Rat} {i:Nat} (h:a.length<=i):(a++b).getD i 0=b.getD (i-a.length) 0:=by
 rw [bE,bE,aeP h]
theorem zX {n i:Nat} {T:Rat} (h:i<n):(aV n T).getD i 0=T:=by
 rw [bE,bY nP];simp
theorem aph (a b:List Rat) (t:Rat):∀ i,i<=a.length->iR (a++b) t i=iR a t i
 | 0,_=>rfl
 | i+1,h=>by rw [iR,iR,aph a b t i J,gD1 J]
theorem ajM (a b:List Rat) (t:Rat):∀ i,iR (a++b) t (a.length+i)=iR a t a.length+iR b t i
 | 0=>by rw [mg,aph _ _ _ _ (bF _)];rfl
 | i+1=>by
  rw [<-oQ,iR,ajM a b t i,iR,gD2 J,Nat.add_sub_cancel_left];omega
theorem afr (n:Nat) (T t:Rat):∀ i,i<=n->iR (aV n T) t i=if T=t then i else 0
 | 0,_=>by split<;>rfl
 | i+1,h=>by
  rw [iR,afr n T t i J,zX J]
  split<;>rfl
theorem ag9 {α:Type} (l:List α):l.any (fun _=>false)=false:=by simp
theorem asq {P:Program} {L:St} {a u v:Nat} {T U:TypeId} {b c sz sy:Nat} {x y x' y' z z':LV} {m m':Bool} {n n':Nat} {ag ag':Bool} (bs:List Nat) (h0:bs.contains 0=false) (h:L.slot a=.aF b sz 0 0) (hb:L.heap b=some ⟨sz,[x],m⟩)
  (hx:x.av=sz) (wh:x.at 0 n ag=some x) (hT:bK P T n ag) (hi:da (L.ca bs).heap x y) (h':L.slot u=.aF c sy 0 0) (hc:L.heap c=some ⟨sy,[x'],m'⟩)
  (hx':x'.av=sy) (akH:x'.at 0 n' ag'=some x') (hT':bK P U n' ag') (nn:da (L.ca bs).heap x' y') (hz:L.slot v=z) (hiz:da (L.ca bs).heap z z'):qm P [.cell a T,.cell u U,.tmp v] L (.a9 [y,y',z']) [] :=
 ⟨[x,x',z],[y,y',z'],(L.ca bs).heap,[],.cons ⟨b,sz,0,0,_,x,n,ag,h,hb,rfl,rfl,hx,wh,hT⟩ (.cons ⟨c,sy,0,0,_,x',n',ag',h',hc,rfl,rfl,hx',akH,hT'⟩ (.cons hz .nil)),ux bs h0,.cons (.eF hi) (.cons (.eF nn) (.cons (.eF hiz) .nil)),yL,rfl,fun k b h=>by simp at h,rfl⟩
theorem aht {p:List Rat} {x:Rat} (hl:p.length<=10) (hp:∀ y∈p,rl y<=700000) (hx:rl x<=100000):HS p x:=by
 have h1:=fD 1 x
 have h0:rl 1=1:=rfl
 refine⟨rl (1-x)+rl x+1,bF _,J,fun y hy=>?_⟩
 have h2:=hp y hy
 have h3:2 ^ p.length<=2 ^ 10:=oy ai hl
 have h4:(rl y+(rl (1-x)+rl x+1))*2 ^ p.length<=1000000*2 ^ 10:=jG J h3
 omega
open H0 in
theorem abF (s:Rat × Rat) (h:rl s.2+rl s.1<=549755813888):ax ak 137 [aD s] (aa (s.2-s.1)):=by
 refine aR Tryz.func137 ?_
 refine bw ?_
 refine cp au (oW s.2 s.1 h) ?_
 refine aB ?_
 exact jJ
section
variable {P:Program} {H:b9} {ρ:Operand->LV} {T E:TypeId}
theorem bdW {o1:Operand} {r:Rat} [z:ZI P T (.agg [.agg [aa 0,aa 0,aa 0],aa 0])] [s:SI P T [(9,true),(3,true)]] (h1:ρ o1=aa r) :
  aN P H ρ (.build T #[(1,o1)]) (bm ⟨⟨0,0,0⟩,r⟩):=by
 have:=aN.bd (H:=H) (ρ:=ρ) (ps:=#[(1,o1)]) (z:=z) (s:=s) (by simp [lay,LV.av,cL,an.av,an.isAgg,s6]) (by
  intro q hq
  simp only [ff,iq,or_false] at hq
  subst hq
  exact⟨_,rfl,by rw [h1];simp [lay,an.av,an.isAgg],by rw [h1];exact LV.dT (an.pure _),by rw [h1];exact LV.dG (an.pure _)⟩)
 simp only [jK,uL,vx,vZ,h1] at this
 exact this
end
open ig in
theorem aAn :ax ak 31 [iL 0] (aE ⟨1,0,0⟩):=by
 have h1:ax ak 17 [iL 1] (aa 1):=aaX 1 ai ai
 refine aR avc (ht:=(fun r=>LV.cQ r _ (aX.pure _))) ?_
 refine dk ?_
 refine cp aO (h1) ?_
 refine bC ?_
 exact yI
open ig in
theorem azv :ax ak 31 [iL 1] (aE ⟨0,1,0⟩):=by
 have h1:ax ak 17 [iL 1] (aa 1):=aaX 1 ai ai
 refine aR avc (ht:=(fun r=>LV.cQ r _ (aX.pure _))) ?_
 refine dk ?_
 refine cp aO (h1) ?_
 refine bC ?_
 exact yI
theorem akO {P:Program} {H:b9} {ρ:Operand->LV} {T E:TypeId} [u:UN P T (.array 3 E)] [t:TI P E 3 true] [z:ZI P T (.agg [aa 0,aa 0,aa 0])]:aN P H ρ (.build T #[]) (aE ⟨0,0,0⟩) :=
 aN.bda (H:=H) (ρ:=ρ) (ps:=#[]) (u:=u) (t:=t) (z:=z) (by simp [lay,an.av,an.isAgg]) (fun q hq=>by simp at hq)
theorem atA {p:List Rat} (h:0<p.length):(de p).1<=(de p).2:=by
 have:=(aec p p.length).1 0 h
 exact ag5 this.1 this.2
theorem sq_pos {s:Rat × Rat} (h:0<s.1) (h2:s.1<=s.2):iU s=(s.1*s.1,s.2*s.2)/\jr (iU s) 0=false:=by
 have hn:jr s 0=false:=by unfold jr;rw [decide_eq_false dz];rfl
 have hm:s.1*s.1<=s.2*s.2:=ag5 (Rat.mul_le_mul_of_nonneg_left h2 (mZ h)) (Rat.mul_le_mul_of_nonneg_right h2 dz)
 have hp:=adr h h
 have e:iU s=(s.1*s.1,s.2*s.2):=by
  unfold iU
  rw [if_neg (by rw [hn];decide)]
  unfold eM er
  rw [if_neg dz]
  split
  ·rfl
  ·have:s.1*s.1=s.2*s.2:=by grind
   rw [this]
 refine⟨e,?_⟩
 rw [e]
 unfold jr
 rw [decide_eq_false (by show ¬(s.1*s.1<=0);grind)];rfl
def spK (po:List ar) (k:Nat):Rat × Rat:=kz (k6 (de (fZ po k)) (iU (de (aZ po)))) (1,1)
def spd (po:List ar):jt:=⟨spK po 0,spK po 1,spK po 2⟩
section
variable {po:List ar} {d:Nat} (h:nT po d)
include h
end
theorem aIo {po:List ar} {i:Nat} (h:i<po.length):(aZ po).getD i 0=(po.getD i default).w:=by
 unfold aZ
 rw [bE,gZ,bY h,bE,bY h];rfl
theorem afw {a b c:Nat} (h:a=b+c) (h2:a<=9223372036854775807):dM .sub .i64 (a:Nat) (b:Nat)=some (.int .i64 ((c:Nat):Int)):=by
 rw [aaa J J];congr 2;omega
def oh (l:List V3) (k:Nat):Nat->Rat × Rat
 | 0=>((l.getD 0 default).at k,(l.getD 0 default).at k)
 | j+1=>iV (oh l k j) ((l.getD (j+1) default).at k,(l.getD (j+1) default).at k)
def xH (l:List V3):jt:=⟨oh l 0 (l.length-1),oh l 1 (l.length-1),oh l 2 (l.length-1)⟩
theorem agd {l:List V3} {R:Nat} (h:∀ i,i<l.length->cP R (l.getD i default)) (k:Nat):∀ n,n<l.length->dg R (oh l k n)
 | 0,hn=>⟨acI (h 0 hn) k,acI (h 0 hn) k⟩
 | n+1,hn=>adY (agd h k n J) ⟨acI (h _ hn) k,acI (h _ hn) k⟩
section
variable {po:List ar} {d:Nat} (h:nT po d)
include h
end
section
variable {po:List ar} {d:Nat} (h:nT po d)
include h
end
theorem aft {a b:Rat}:∀ (n:Nat) (c:Nat->Rat) (R:Nat),(∀ i,rl (c i)<=R)->rl (fE a b n c)<=(R+(rl a+rl b+1))*2 ^ n
 | 0,c,R,h=>by
  have:=h 0
  show rl (c 0)<=_
  omega
 | n+1,c,R,h=>by
  have:=aft (a:=a) (b:=b) n (fun i=>a*c i+b*c (i+1)) (2*R+(rl a+rl b+1)) (fun i=>by
   have h0:=h i
   have h1:=h (i+1)
   have m0:=cM a (c i)
   have m1:=cM b (c (i+1))
   have s0:=nZ (a*c i) (b*c (i+1))
   omega)
  rw [fE]
  refine bb this ?_
  rw [jw,Nat.mul_comm (2 ^ n) 2,<-fJ]
  exact eT _ J
theorem al2 {p:List Rat} {t:Rat} {R:Nat} (hl:0<p.length) (hR:1<=R) (h:∀ x∈p,rl x<=R):rl (eB p t)<=(R+(rl (1-t)+rl t+1))*2 ^ (p.length-1):=by
 rw [aJr hl]
 exact aft _ _ R (fun i=>gQ hR h i)
theorem p9 (bs:List Nat):vD bs []=[]:=rfl
def sS (t:Rat) (f:Nat->Rat):Nat->Rat:=fun i=>(1-t)*f i+t*f (i+1)
def sI (t:Rat):Nat->(Nat->Rat)->(Nat->Rat)
 | 0,f=>f
 | n+1,f=>sI t n (sS t f)
theorem aJ5 (s t:Rat) (f:Nat->Rat):sS s (sS t f)=sS t (sS s f):=by
 funext i;unfold sS;grind
theorem ag7 (t s:Rat):∀ (n:Nat) (f:Nat->Rat),sI t n (sS s f)=sS s (sI t n f)
 | 0,f=>rfl
 | n+1,f=>by rw [sI,sI,aJ5,ag7 t s n]
theorem apo (t s:Rat) (n:Nat):∀ (m:Nat) (f:Nat->Rat),sI t n (sI s m f)=sI s m (sI t n f)
 | 0,f=>rfl
 | m+1,f=>by rw [sI,sI,apo t s n m,ag7]
theorem aoi (t:Rat) (n:Nat) (f:Nat->Rat):sI t (n+1) f=sS t (sI t n f):=by rw [sI,ag7]
theorem ana (t c d:Rat):∀ (n:Nat) (f g:Nat->Rat),sI t n (fun i=>c*f i+d*g i)=fun i=>c*sI t n f i+d*sI t n g i
 | 0,f,g=>rfl
 | n+1,f,g=>by
  rw [sI,sI,sI,<-ana t c d n]
  congr 1;funext i;unfold sS;grind
theorem wI (t:Rat):∀ (n:Nat) (f:Nat->Rat) (i:Nat),sI t n f i=fE (1-t) t n (fun m=>f (i+m))
 | 0,f,i=>rfl
 | n+1,f,i=>by rw [sI,wI t n,fE];rfl
theorem axn {t:Rat} (n:Nat) {f g:Nat->Rat} (i:Nat) (h:∀ m,m<=n->f (i+m)=g (i+m)):sI t n f i=sI t n g i:=by
 rw [wI,wI];exact yM _ _ _ _ _ h
def lT (a b:Rat) (n:Nat) (f:Nat->Rat) (j:Nat):Rat:=sI a (n-j) (sI b j f) 0
theorem alY {a b:Rat} {n j:Nat} {f g:Nat->Rat} (hj:j<=n) (h:∀ i,i<=n->f i=g i):lT a b n f j=lT a b n g j:=by
 unfold lT
 refine axn _ _ fun m hm=>?_
 exact axn _ _ fun m2 fc=>h _ J
theorem asS {p:List Rat} {a b:Rat} (ha:a≠1) {j:Nat} (hj:j<p.length):(fG p a b).getD j 0=lT a b (p.length-1) (fun i=>p.getD i 0) j:=by
 have bj:(1:Rat)-a≠0:=by grind
 have hq:(b-a)/(1-a)*(1-a)=b-a:=Rat.div_mul_cancel bj
 unfold fG
 rw [if_neg ha,ahQ (by rw [zV];exact hj)]
 generalize (b-a)/(1-a)=s at hq
 have key:∀ (k:Nat) (i:Nat),i+k<=p.length-1->sI s k (fun i=>(mS p a).getD i 0) i=sI a (p.length-1-i-k) (sI b k (fun m=>p.getD (i+m) 0)) 0:=by
  intro k
  induction k with
  | zero =>
   intro i hi
   show (mS p a).getD i 0=_
   rw [ahK J,wI,avr]
   exact yM _ _ _ _ _ fun m _=>by rw [fg];rfl
  | succ k ih =>
   intro i hi
   rw [aoi]
   unfold sS
   rw [ih i J,ih (i+1) J]
   obtain⟨m,hm⟩:∃ m,p.length-1-i-k=m+1:=⟨p.length-1-i-k-1,J⟩
   rw [hm,show p.length-1-(i+1)-k=m by omega,show p.length-1-i-(k+1)=m by omega,sI]
   have hsh:(fun m=>p.getD (i+1+m) 0)=fun m=>(fun m=>p.getD (i+m) 0) (m+1):=by funext m;simp only;congr 1;omega
   rw [hsh]
   generalize (fun m=>p.getD (i+m) 0)=f
   rw [<-ag7]
   have e:=ana a (1-s) s m (sI b k (sS a f)) (sI b k (fun m=>f (m+1)))
   have e2:=ana b (1-s) s k (sS a f) (fun m=>f (m+1))
   rw [<-e2] at e
   have e3:(fun i=>(1-s)*sS a f i+s*f (i+1))=sS b f:=by
    funext i;unfold sS
    have h1:(1-s)*(1-a)=1-b:=by grind
    have h2:(1-s)*a+s=b:=by grind
    rw [<-h1,<-h2];grind
   rw [e3] at e
   exact(congrFun e 0).symm
 have:=key j 0 J
 rw [wI] at this
 simp only [fg,avr] at this
 rw [this];rfl
structure rT (po:List ar) (d R:Nat):Prop where
 hl:po.length=d+1
 hd:1<=d
 h6:d<=6
 ok:∀ q∈po,k5 R q
theorem nT.r {po:List ar} {d:Nat} (h:nT po d):rT po d 1:=⟨h.hl,h.hd,h.h6,h.ok⟩
def wc (po:List ar) (x y:Rat) (j:Nat):ar :=
 ⟨⟨(fG (bn po 0) x y).getD j 0/(fG (aZ po) x y).getD j 0,(fG (bn po 1) x y).getD j 0/(fG (aZ po) x y).getD j 0,(fG (bn po 2) x y).getD j 0/(fG (aZ po) x y).getD j 0⟩,(fG (aZ po) x y).getD j 0⟩
def nS (po:List ar) (x y:Rat):List ar:=(fe po.length).map (wc po x y)
theorem aer (po:List ar) (x y:Rat):(nS po x y).length=po.length:=by simp [nS]
theorem aGi {po:List ar} {x y:Rat} {j:Nat} (h:j<po.length):(nS po x y).getD j default=wc po x y j:=by
 unfold nS;rw [bE,bY nP];simp
theorem aja (p:List Rat) (a b:Rat):(fG p a b).length=p.length:=by rw [<-arH,aAi]
theorem akD {a b:Rat} (ha:0<=a) (hb:0<=b) (cY:0<a+b):∀ (n:Nat) (f:Nat->Rat),(∀ i,i<=n->0<f i)->0<fE a b n f
 | 0,f,h=>h 0 (bF _)
 | n+1,f,h=>by
  rw [fE]
  refine akD ha hb cY n _ fun i hi=>?_
  have a1:=h i J
  have a2:=h (i+1) J
  have b1:=aa5 ha (mZ a1)
  have b2:=aa5 hb (mZ a2)
  rcases Rat.le_iff_lt_or_eq.1 ha with h0 | h0
  ·have:=adr h0 a1;grind
  ·have:=adr (show 0<b by grind) a2;grind
theorem ao0 {a b:Rat} (ha:0<=a) (ha1:a<=1) (hb:0<=b) (hb1:b<=1) {n j:Nat} {f:Nat->Rat} (hj:j<=n) (h:∀ i,i<=n->0<f i):0<lT a b n f j:=by
 unfold lT
 rw [wI]
 refine akD dz ha dz _ _ fun m hm=>?_
 rw [wI]
 exact akD dz hb dz _ _ fun m2 fc=>h _ J
theorem agG {a b:Rat} {R S:Nat} (ha:rl (1-a)+rl a+1<=S) (hb:rl (1-b)+rl b+1<=S) {n j:Nat} (hn:n<=6) (hj:j<=n) {f:Nat->Rat} (h:∀ i,rl (f i)<=R):rl (lT a b n f j)<=((R+S)*64+S)*64:=by
 unfold lT
 have hp:∀ k,k<=6->2 ^ k<=64:=fun k hk=>oy (n:=2) ai hk
 have h1:∀ m,rl (sI b j f m)<=(R+S)*64:=fun m=>by
  rw [wI]
  have:=aft (a:=1-b) (b:=b) j (fun i=>f (m+i)) R (fun i=>h _)
  refine bb this (jG J (hp j J))
 rw [wI]
 have:=aft (a:=1-a) (b:=a) (n-j) (fun i=>sI b j f (0+i)) ((R+S)*64) (fun i=>h1 _)
 exact bb this (jG J (hp (n-j) J))
section
variable {po:List ar} {d R:Nat} (h:rT po d R) {x y:Rat} (lH:0<=x) (ji:x<1) (kW:0<=y) (pG:y<=1)
include h
theorem ag2 (k:Nat):(bn po k).length=d+1:=by rw [qZ,h.hl]
theorem arZ:(aZ po).length=d+1:=by rw [vX,h.hl]
theorem ayQ {i:Nat} (hi:i<=d):0<(aZ po).getD i 0:=by
 have hl:=h.hl
 rw [aIo J]
 exact(h.ok _ (tG J)).2.2
include ji
theorem aj6 {j:Nat} (hj:j<=d):(fG (aZ po) x y).getD j 0=lT x y d (fun i=>(aZ po).getD i 0) j:=by
 have hw:=arZ h
 rw [asS dz J,hw,rO]
theorem aiJ (k:Nat) {j:Nat} (hj:j<=d):(fG (bn po k) x y).getD j 0=lT x y d (fun i=>(bn po k).getD i 0) j:=by
 have hw:=ag2 h k
 rw [asS dz J,hw,rO]
include lH kW pG
theorem apI {j:Nat} (hj:j<=d):0<(fG (aZ po) x y).getD j 0:=by
 rw [aj6 h ji hj]
 exact ao0 lH (mZ ji) kW pG hj fun i hi=>ayQ h hi
end
theorem alW {f:Nat} (hc:∀ s t:Rat × Rat,rl s.1+rl t.1<=34359738368->rl s.2+rl t.2<=34359738368->ax ak f [aD s,aD t] (aD (iV s t))) {l:List V3} {R:Nat} (hR:R<=1000000) (hb:∀ i,i<l.length->cP R (l.getD i default)) (k j:Nat) (hj:j+1<l.length) :
  ax ak f [aD (oh l k j),aD ((l.getD (j+1) default).at k,(l.getD (j+1) default).at k)] (aD (oh l k (j+1))):=by
 have q:=agd hb k j J
 have g:=acI (hb (j+1) hj) k
 have h1:R+R<=34359738368:=by omega
 exact hc _ _ (bb (arU q.1 g) h1) (bb (arU q.2 g) h1)
theorem aAE:(LV.agg [.agg [aa 0,aa 0],.agg [aa 0,aa 0],.agg [aa 0,aa 0]]).av=18:=by simp [LV.av,cL,an.av]
theorem aHk (a b c:Rat × Rat):(LV.agg [aD a,aD b,aD c]).av=18:=og.av ⟨a,b,c⟩
theorem dr1 (l:List V3) (j:Nat):(l.drop 1).getD j default=l.getD (j+1) default:=by
 rw [bE,bE,awm,Nat.add_comm]
namespace aqz
theorem aw {p q:Prop} (k:q) (e:p=q:=by simp only [e1,e2,e3,e4,p1,p2,p3,q1,q2,q3,l1,t0,t1,r1,r2,r3,r4,Nat.zero_add,Nat.reduceMul,Nat.reduceAdd,b1,b2,b3,b4,b5,b6,i1,i2,i3,i4,i5,i6,Nat.reduceBEq,aAE,aHk,dr1,cn,List.length_drop,List.length_map,List.set_cons_zero,List.set_cons_succ,Nat.reduceEqDiff,reduceIte,if_true,if_false,cB,dB,aG aX,aG bz,aG an,cA,cC,LV.kill,bH];exact rfl):p:=e.mpr k
end aqz
open aqz in
theorem auM (l:List V3) (h0:0<l.length) (hl:l.length<=1000) (R:Nat) (hR:R<=1000000) (hb:∀ i,i<l.length->cP R (l.getD i default)):ax ak 87 [.list 9 (l.map aE)] (.a9 [fY (xH l),iL 0]):=by
 obtain⟨z1,z2,z3⟩:=hb 0 h0
 refine aR Tryz.func87 (ht:=(iF (og.pure _) rfl)) ?_
 refine nc ?_
 refine aL rfl ?_ ?_<;>intro pA sC
 ·omega
 ·refine bB ?_
  refine bc ?_
  refine ay ?_
  refine bI (b:=_) rfl ai ?_
  refine nO ?_
  refine cp aO (nD (l.getD 0 default).x J) ?_
  refine bf ?_
  refine ah rfl (.abJ (a:=1) aX rfl ox iQ rfl om) ?_
  refine a7 ?_
  refine dI (fun(j:Nat) L=>(((((((((St.mk L.slot (hp [(2,⟨18,[.agg [.agg [aa 0,aa 0],.agg [aa 0,aa 0],.agg [aa 0,aa 0]]],true⟩),(4,⟨18,[.agg [aD (oh l 0 j),.agg [aa 0,aa 0],.agg [aa 0,aa 0]]],true⟩)])).put (some 0) (.list 9 (l.map aE))).put (some 2) (.aF 2 18 0 0)).put (some 4) (.aF 4 18 0 0)).put (some 5) (iL 0)).put (some 12) (iL 0)).put (some 24) (.list 9 ((l.drop 1).map aE))).put (some 25) (ae (l.length-1))).put (some 26) (ae j))) (fun j=>j<=l.length-1) (fun j=>l.length-1-j) 0 (bS _) ?_
  rintro j L2 hj
  refine ay ?_
  refine aL rfl ?_ ?_<;>intro zP h27
  ·have dL:j<l.length-1:=by omega
   obtain⟨g1,g2,g3⟩:=hb (j+1) J
   have hH0:ax ak 156 [aD (oh l 0 j),aD ((l.getD (j+1) default).x,(l.getD (j+1) default).x)] (aD (oh l 0 (j+1))):=alW (fun s t h1 h2=>s9 s t J J) hR hb 0 j J
   refine bw ?_
   refine aY 10 al ?_
   refine bf ?_
   refine cp aO (nD (l.getD (j+1) default).x J) ?_
   refine cp au (hH0) ?_
   refine a7 ?_
   refine bR (az.kill _ 7) ?_
   refine ah rfl cu ?_
   refine aQ ?_
   exact qp
  ·obtain rfl:j=l.length-1:=by omega
   refine bC ?_
   refine bc ?_
   refine ay ?_
   refine bI (b:=_) rfl ai ?_
   refine nO ?_
   refine cp aO (nD (l.getD 0 default).y J) ?_
   refine bf ?_
   refine ah rfl (.abJ (a:=1) aX rfl ox iQ rfl om) ?_
   refine a7 ?_
   refine dI (fun(j:Nat) L=>(((((((((St.mk L.slot (hp [(2,⟨18,[.agg [.agg [aa 0,aa 0],.agg [aa 0,aa 0],.agg [aa 0,aa 0]]],true⟩),(4,⟨18,[.agg [aD (oh l 0 (l.length-1)),aD (oh l 1 j),.agg [aa 0,aa 0]]],true⟩)])).put (some 0) (.list 9 (l.map aE))).put (some 2) (.aF 2 18 0 0)).put (some 4) (.aF 4 18 0 0)).put (some 5) (iL 1)).put (some 12) (iL 1)).put (some 24) (.list 9 ((l.drop 1).map aE))).put (some 25) (ae (l.length-1))).put (some 26) (ae j))) (fun j=>j<=l.length-1) (fun j=>l.length-1-j) 0 (bS _) ?_
   rintro j L2 hj
   refine ay ?_
   refine aL rfl ?_ ?_<;>intro zP h27
   ·have dL:j<l.length-1:=by omega
    obtain⟨g1,g2,g3⟩:=hb (j+1) J
    have wS:ax ak 156 [aD (oh l 1 j),aD ((l.getD (j+1) default).y,(l.getD (j+1) default).y)] (aD (oh l 1 (j+1))):=alW (fun s t h1 h2=>s9 s t J J) hR hb 1 j J
    refine bw ?_
    refine aY 10 al ?_
    refine bf ?_
    refine cp aO (nD (l.getD (j+1) default).y J) ?_
    refine cp au (wS) ?_
    refine a7 ?_
    refine bR (az.kill _ 7) ?_
    refine ah rfl cu ?_
    refine aQ ?_
    exact qp
   ·obtain rfl:j=l.length-1:=by omega
    refine bC ?_
    refine bc ?_
    refine ay ?_
    refine bI (b:=_) rfl ai ?_
    refine nO ?_
    refine cp aO (nD (l.getD 0 default).z J) ?_
    refine bf ?_
    refine ah rfl (.abJ (a:=1) aX rfl ox iQ rfl om) ?_
    refine a7 ?_
    refine dI (fun(j:Nat) L=>(((((((((St.mk L.slot (hp [(2,⟨18,[.agg [.agg [aa 0,aa 0],.agg [aa 0,aa 0],.agg [aa 0,aa 0]]],true⟩),(4,⟨18,[.agg [aD (oh l 0 (l.length-1)),aD (oh l 1 (l.length-1)),aD (oh l 2 j)]],true⟩)])).put (some 0) (.list 9 (l.map aE))).put (some 2) (.aF 2 18 0 0)).put (some 4) (.aF 4 18 0 0)).put (some 5) (iL 2)).put (some 12) (iL 2)).put (some 24) (.list 9 ((l.drop 1).map aE))).put (some 25) (ae (l.length-1))).put (some 26) (ae j))) (fun j=>j<=l.length-1) (fun j=>l.length-1-j) 0 (bS _) ?_
    rintro j L2 hj
    refine ay ?_
    refine aL rfl ?_ ?_<;>intro zP h27
    ·have dL:j<l.length-1:=by omega
     obtain⟨g1,g2,g3⟩:=hb (j+1) J
     have hH2:ax ak 156 [aD (oh l 2 j),aD ((l.getD (j+1) default).z,(l.getD (j+1) default).z)] (aD (oh l 2 (j+1))):=alW (fun s t h1 h2=>s9 s t J J) hR hb 2 j J
     refine bw ?_
     refine aY 10 al ?_
     refine bf ?_
     refine cp aO (nD (l.getD (j+1) default).z J) ?_
     refine cp au (hH2) ?_
     refine a7 ?_
     refine bR (az.kill _ 7) ?_
     refine ah rfl cu ?_
     refine aQ ?_
     exact qp
    ·obtain rfl:j=l.length-1:=by omega
     refine bC ?_
     refine bc ?_
     refine ay ?_
     refine dp (b:=_) rfl ai ?_
     refine dk ?_
     exact qE [] rfl rfl rfl cs (cr cs rfl) T98 (.pure pu) rfl (.pure rfl)
end Go.Proofs.YthcadngkamjpdaaGreat
end
section
set_option linter.unusedVariables false
set_option linter.unusedSimpArgs false
namespace Go.Lg
def zY:Op->Bool
 | .move _=>true
 | .pick ..=>true
 | .binOp ..=>true
 | .load ..=>true
 | .fieldAddr ..=>true
 | .indexAddr ..=>true
 | .call ⟨.builtin .len,_,_⟩=>true
 | _=>false
section
variable {P:Program} {H:b9} {ρ qt:Operand->LV}
theorem aN.am5 {op:Op} {r:LV} (h:aN P H ρ op r) (hp:zY op=true) (hr:∀ x∈op.operands,qt x=ρ x):aN P H qt op r:=by
 cases h with
 | move x=>rw [<-hr x ck];exact .move x
 | pick hc =>
  rename_i c x y t
  have e1:=hr x ck
  have e2:=hr y ck
  have:=aN.pick (P:=P) (H:=H) (ρ:=qt) (x:=x) (y:=y) ((hr _ ck).trans hc)
  rw [e1,e2] at this
  exact this
 | bin hx hy h=>exact .bin ((hr _ ck).trans hx) ((hr _ ck).trans hy) h
 | sh hx hy h=>exact .sh ((hr _ ck).trans hx) ((hr _ ck).trans hy) h
 | beq hx hy hT=>exact .beq ((hr _ ck).trans hx) ((hr _ ck).trans hy) hT
 | bne hx hy hT=>exact .bne ((hr _ ck).trans hx) ((hr _ ck).trans hy) hT
 | eqN hx hy hT=>exact .eqN ((hr _ ck).trans hx) ((hr _ ck).trans hy) hT
 | abX hx hy hT=>exact .abX ((hr _ ck).trans hx) ((hr _ ck).trans hy) hT
 | abt hq hT vY=>exact .abt ((hr _ ck).trans hq) hT vY
 | adC hq hT hk=>exact .adC ((hr _ ck).trans hq) hT hk
 | abz hq hT hc=>exact .abz ((hr _ ck).trans hq) hT hc
 | dU hq hb hs hi hx vY hT=>exact .dU ((hr _ ck).trans hq) hb hs hi hx vY hT
 | adZ hx hT hE hi h0 hm=>exact .adZ ((hr _ ck).trans hx) hT hE ((hr _ ck).trans hi) h0 hm
 | adJ hx hT hE hf hi h0 vY=>exact .adJ ((hr _ ck).trans hx) hT hE hf ((hr _ ck).trans hi) h0 vY
 | gD hx hT hE hi h0 vY hc=>exact .gD ((hr _ ck).trans hx) hT hE ((hr _ ck).trans hi) h0 vY hc
 | abp hx hT hE hi h0 hn=>exact .abp ((hr _ ck).trans hx) hT hE ((hr _ ck).trans hi) h0 hn
 | abK hx has hT=>exact .abK ((hr _ ll).trans hx) has hT
 | ac4 hx has hT=>exact .ac4 ((hr _ ll).trans hx) has hT
 | acK hx has hT=>exact .acK ((hr _ ll).trans hx) has hT
 | adg hx has hT=>exact .adg ((hr _ ll).trans hx) has hT
 | _=>first | (cases hp;done) | (simp [zY] at hp;done)
end
section
variable {P:Program} {ops:Array Oper}
end
theorem put_comm (L:St) {d e:Nat} (h:d≠e) (v r:LV):(L.put (some d) v).put (some e) r=(L.put (some e) r).put (some d) v:=by
 have:∀ t,((L.put (some d) v).put (some e) r).slot t=((L.put (some e) r).put (some d) v).slot t:=fun t=>by
  rw [iI,iI,iI,iI]
  by_cases h1:t=e
  ·rw [if_pos h1,if_neg J,if_pos h1]
  ·rw [if_neg h1,if_neg h1]
 exact congrArg (fun f=>St.mk f L.heap) (funext this)
theorem yH (L:St) {d:Nat} {e:Option Nat} (h:e≠some d) (v r:LV):(L.put (some d) v).put e r=(L.put e r).put (some d) v:=by
 cases e with
 | none=>rfl
 | some e=>exact put_comm L (fun q=>h (by rw [q])) v r
section
variable {P:Program} {ops:Array Oper}
theorem aFx {L:St} {d:Nat} {v:LV} {o:Oper} (h:d∉o.looksAt ops):∀ x∈o.op.operands,(L.put (some d) v).ev x=L.ev x:=fun x hx=>by
 cases x with
 | tmp t =>
  have ht:t∈o.looksAt ops:=by
   unfold Oper.looksAt
   simp only [oO,aaF]
   exact .inl ⟨.tmp t,by simpa using hx,rfl⟩
  show (L.put (some d) v).slot t=L.slot t
  rw [iI,if_neg (fun q=>h (by rw [<-q];exact ht))]
 | const v=>rfl
 | func f=>rfl
 | global f=>rfl
theorem zS {L:St} {d:Nat} {v:LV} {o:Oper} {res:Bool} (h:d∉o.looksAt ops) (hg:eE ops (L.put (some d) v) o res):eE ops L o res:=by
 unfold eE at hg ⊢
 cases hh:o.guard with
 | none=>rw [hh] at hg;exact hg
 | some pr =>
  obtain⟨j,want⟩:=pr
  rw [hh] at hg
  obtain⟨t,q1',q'⟩:=hg
  have bj:t≠d:=fun q=>h (by rw [<-q];unfold Oper.looksAt;rw [hh];simp [q1'])
  have e1:(L.put (some d) v).slot t=L.slot t:=by rw [iI,if_neg bj]
  refine⟨t,q1',?_⟩
  show (∃ b,L.slot t=_/\_)\/(L.slot t=_/\_)
  rw [<-e1]
  exact q'
theorem afc {f:Operand} {xs:Array Operand} {zx:Array TypeId} {x:Operand} (h:x∈xs.toList):x∈(Op.call ⟨.value f,xs,zx⟩).operands:=by
 have:=afI.1 h
 simp [Op.operands,Call.operands,this]
end
theorem az.ca {L:St} {t:Nat} {x y:LV} (bs:List Nat) (h0:bs.contains 0=false) (h:L.slot t=x) (hi:da (L.ca bs).heap x y):az L ((L.ca bs).put (some t) y):=by
 rintro n W X Z0 a w ⟨eh,bT,μ,Z,hc,hr⟩
 obtain⟨Z',hc',hz⟩:=hc.v7 (ux bs h0)
 refine⟨eh,bT,μ,Z',by rw [mz];exact hc',fun s=>?_⟩
 have hm:=bu.mono hz (fun _ _ h=>h) (Frame.refl Z μ w) (hr s)
 rw [iI]
 split
 ·rename_i eI
  subst eI
  rw [h] at hm
  exact bu.sn (LV.dG hi.lay.2.2) (da.abf (bD:=μ) hc' hi hm)
 ·exact hm
theorem az.hand {L:St} {t:Nat} {α:Type} {e:α->LV} {ag:Bool} {b sz len:Nat} {l:List α} {m:Bool} (he:gY e sz ag) (h:L.slot t=.ref b sz 0 len) (hb:L.heap b=some ⟨sz,l.map e,m⟩) (hl:len=l.length) (h0:b≠0:=by decide) :
  az L ((L.put (some t) (.list sz (l.map e))).kill b):=by
 have h0':([b]:List Nat).contains 0=false:=by simp;omega
 have e1:=(az.ca [b] h0' h (dH (bs:=[b]) he hb aW hl)).trans (az.kill _ b h0)
 have e2:((L.ca [b]).put (some t) (.list sz (l.map e))).kill b=(L.put (some t) (.list sz (l.map e))).kill b:=by
  unfold St.kill
  congr 1
  funext c
  rw [mz,mz]
  by_cases oF:c=b
  ·simp [oF]
  ·simp only [St.ca,if_neg oF]
   cases L.heap c with
   | none=>rfl
   | some blk=>simp [oF]
 rw [<-e2]
 exact e1
theorem az.ba {L:St} {t b sz:Nat} {y:LV} {m:Bool} (h:L.slot t=.aF b sz 0 0) (hb:L.heap b=some ⟨sz,[y],m⟩) (hs:y.av=sz) (ha:y.isAgg=true) (hp:y.pure=true) (h0:b≠0:=by decide):az L ((L.put (some t) (.ba y)).kill b):=by
 have h0':([b]:List Nat).contains 0=false:=by simp;omega
 have e1:=(az.ca [b] h0' h (.aF (blk:=⟨sz,[y],m && !([b]:List Nat).contains b⟩) (x:=y) (n:=sz) (ag:=true) (by simp only [St.ca,hb,Option.map_some]) rfl rfl hs (cr hs ha) hp aW)).trans (az.kill _ b h0)
 have e2:((L.ca [b]).put (some t) (.ba y)).kill b=(L.put (some t) (.ba y)).kill b:=by
  unfold St.kill
  congr 1
  funext c
  rw [mz,mz]
  by_cases oF:c=b
  ·simp [oF]
  ·simp only [St.ca,if_neg oF]
   cases L.heap c with
   | none=>rfl
   | some blk=>simp [oF]
 rw [<-e2]
 exact e1
theorem alr {P:Program} {L L0:St} {Q:jT->St->Prop} {ops:Array Oper} {id:Nat} (hw:az L L0) (h:ng P ops ops.size (Array.replicate ops.size false) L0 (Q .normal)):cU P (.region id ops true) Q L:=⟨L0,hw,.inr (.inl ⟨rfl,h⟩)⟩
def ai6:List (Nat × bA)->List (Nat × bA)->Prop
 | [],_=>True
 | (b,x) :: t,l=>hp l b=some x/\ai6 t l
theorem anZ {l':List (Nat × bA)}:∀ {l:List (Nat × bA)},ai6 l l'->∀ c x,hp l c=some x->hp l' c=some x
 | [],_,c,x,h=>by cases h
 | (b,y) :: t,h,c,x,hc=>by
  simp only [hp] at hc
  by_cases hb:c=b
  ·subst hb
   simp only [Nat.beq_refl,cond_true,fv] at hc
   subst hc
   exact h.1
  ·have:Nat.beq c b=false:=by rw [<-ad9,Nat.beq_eq];exact hb
   rw [this] at hc
   exact anZ h.2 c x hc
theorem jo {l l':List (Nat × bA)} (h:ai6 l l') (h':ai6 l' l):hp l=hp l':=by
 funext c
 cases hc:hp l c with
 | some x=>exact(anZ h c x hc).symm
 | none =>
  cases hc':hp l' c with
  | none=>rfl
  | some x=>rw [anZ h' c x hc'] at hc;cases hc
def af3:Op->Bool
 | .store ..=>true
 | .build ..=>true
 | .box ..=>true
 | .alloc ..=>true
 | .buildSlice ..=>true
 | .makeSlice ..=>true
 | .call ⟨.value (.func _),_,_⟩=>true
 | .call ⟨.builtin .append,_,_⟩=>true
 | op=>zY op
section
variable {P:Program} {H:b9} {ρ qt:Operand->LV}
theorem akK {ps:Array (Nat × Operand)} (hr:∀ p∈ps.toList,qt p.2=ρ p.2):(ps.toList.map fun p=>(p.1,ρ p.2))=ps.toList.map fun p=>(p.1,qt p.2) :=
 ajk fun p hp=>by rw [hr p hp]
theorem dA.am5 {d:Nat} {op:Op} {r:LV} {blk:bA} (h:dA P ρ d op r blk) (hr:∀ x∈op.operands,qt x=ρ x):dA P qt d op r blk:=by
 cases h with
 | make hT hz hE dP hb hl hc ki hm fc=>exact .make hT hz hE dP hb ((hr _ ck).trans hl) ((hr _ ck).trans hc) ki hm fc
 | @lit T E n ps z sz hT hz hE dP hn h0 dx hp =>
  have hq:∀ p∈ps.toList,qt p.2=ρ p.2:=fun p hp=>hr _ (by simp only [Op.operands,awu];exact ga.2 ⟨p,hp,rfl⟩)
  rw [akK hq]
  exact .lit hT hz hE dP hn h0 dx fun p l6=>by rw [hq p l6];exact hp p l6
 | ain hT hE=>exact .ain hT hE
 | @box T x bj =>
  have e:=hr x ck
  rw [<-e]
  rw [<-e] at bj
  exact .box bj
 | alloc hz=>exact .alloc hz
theorem aN.azx {T:TypeId} {ps:Array (Nat × Operand)} {r:LV} (h:aN P H ρ (.build T ps) r) (hr:∀ x∈(Op.build T ps).operands,qt x=ρ x):aN P H qt (.build T ps) r:=by
 have hq:∀ p∈ps.toList,qt p.2=ρ p.2:=fun p hp=>hr _ (by simp only [Op.operands,awu];exact ga.2 ⟨p,hp,rfl⟩)
 cases h with
 | yT hT hE hf hz hp =>
  rw [akK hq]
  exact .yT hT hE hf hz fun p l6=>by rw [hq p l6];exact hp p l6
 | build hT hz hp =>
  rw [akK hq]
  exact .build hT hz fun p l6=>by rw [hq p l6];exact hp p l6
end
theorem aHx (L:St) {d:Nat} {v:LV} (hv:∀ b,v.kill b=v) (b:Nat):(L.put (some d) v).kill b=(L.kill b).put (some d) v:=by
 have h1:∀ t,((L.put (some d) v).kill b).slot t=((L.kill b).put (some d) v).slot t:=fun t=>by
  rw [iI]
  show (((L.put (some d) v).slot t).kill b)=_
  rw [iI]
  split
  ·exact hv b
  ·rfl
 exact congrArg (fun f=>St.mk f (L.kill b).heap) (funext h1)
section
variable {P:Program} {ops:Array Oper}
def an5 (L:St):List Operand->Prop
 | []=>True
 | x :: xs=>(∀ b,(L.ev x).kill b=L.ev x)/\an5 L xs
theorem aqn {L:St}:∀ {l:List Operand},an5 L l->∀ x∈l,∀ b,(L.ev x).kill b=L.ev x
 | _ :: _,h,_,.head _=>h.1
 | _ :: _,h,_,.tail _ hx=>aqn h.2 _ hx
theorem lb {p:Prop} (h:p:=by first | exact And.intro (fun _=>rfl) trivial | exact And.intro (fun _=>rfl) (And.intro (fun _=>rfl) trivial) | exact And.intro (fun b=>LV.nz b _ pu) trivial):p:=h
theorem pQ {p:Prop} (h:p:=by first | exact(fun _=>rfl) | exact(fun b=>LV.nz b _ pu) | exact(fun b=>LV.nz b _ (by assumption))):p:=h
end
section
variable {P:Program} {ops:Array Oper}
inductive aKj (P:Program) (ops:Array Oper) (o:Oper) (L L':St):Prop
 | base (h:Step P false ops o L L')
 | hand {M:St} {t b sz len:Nat} {vals:List LV} {m:Bool} (h:Step P false ops o L M) (ht:M.slot t=.ref b sz 0 len) (hb:M.heap b=some ⟨sz,vals,m⟩) (hp:aK vals=true) (hl:len=vals.length) (h0:b≠0)
   (e:L'=(M.put (some t) (.list sz vals)).kill b)
section
variable {D:Array Bool} {L:St} {K:St->Prop} {fuel:Nat}
end
section
variable {W w:World} {X:XS} {Z0:Nat->Prop} {a:Act} {n:Nat}
end
end
def y9:Op->Bool
 | .extract ..=>true
 | .assign _=>true
 | op=>af3 op
section
variable {P:Program} {H:b9} {ρ qt:Operand->LV}
theorem lZ.ary {d:Nat} {op:Op} {r:LV} {fr:List (Nat × bA)} (n9:lZ P H ρ d op r fr) (hk:y9 op=true) (hr:∀ x∈op.operands,qt x=ρ x):lZ P H qt d op r fr:=by
 cases n9 with
 | pure hp =>
  by_cases jf:zY op=true
  ·exact .pure (hp.am5 jf hr)
  ·by_cases hbq:∃ T ps,op=.build T ps
   ·obtain⟨T,ps,rfl⟩:=hbq
    exact .pure (hp.azx hr)
   ·cases hp with
    | adq hf uE hb hn he hx h1' h1 h2 =>
     refine .pure (.adq hf uE hb hn he ?_ h1' h1 h2)
     rw [<-hx]
     exact ajk fun x hxm=>hr x (afc hxm)
    | assign x=>rw [<-hr x ck];exact .pure (.assign x)
    | extract ht hq bj=>exact .pure (.extract ((hr _ ck).trans ht) hq bj)
    | build=>exact absurd ⟨_,_,rfl⟩ hbq
    | yT=>exact absurd ⟨_,_,rfl⟩ hbq
    | _=>first | (exfalso;exact jf rfl) | (exfalso;revert hk jf;simp [y9,af3,zY])
 | alloc ha=>exact .alloc (ha.am5 hr)
 | call hc =>
  cases hc with
  | func ha hkk hlen kI =>
   refine .call (.func ?_ hkk hlen kI)
   rw [show (_:Array Operand).toList.map qt=_ from ajk fun x hxm=>hr x (afc hxm)]
   exact ha
  | bQ=>exfalso;revert hk;simp [y9,af3,zY]
  | mk=>exfalso;revert hk;simp [y9,af3,zY]
theorem aje {f:FuncId} {xs:Array Operand} {tas:Array TypeId} {args:List LV} {r:LV} {d:Nat} (ha:fH H (xs.toList.map ρ) args) (hk:ax P f args r):lZ P H ρ d (.call ⟨.value (.func f),xs,tas⟩) r []:=by
 have:=lZ.call (op:=.call ⟨.value (.func f),xs,tas⟩) (OpC.func (d:=d) ha hk.1 aW aW)
 rw [hk.2] at this
 exact this
end
section
variable {P:Program} {ops:Array Oper}
theorem aFZ {L L2:St} {d:Nat} {v:LV} {o:Oper} (hv:∀ b,v.kill b=v) (hk:y9 o.op=true) (hl:d∉o.looksAt ops) (hd:o.dst≠some d) (h:Step P false ops o (L.put (some d) v) L2) :
  ∃ L1,Step P false ops o L L1/\L2=L1.put (some d) v/\∀ t,o.dst≠some t->(∀ b,(L.slot t).kill b=L.slot t)->L1.slot t=L.slot t:=by
 have ie:=aFx (L:=L) (v:=v) hl
 have gO:∀ (M:St) (r:LV) t,M.slot t=L.slot t->o.dst≠some t->(M.put o.dst r).slot t=L.slot t:=fun M r t hM bj=>by
  cases hh:o.dst with
  | none=>exact hM
  | some e=>rw [iI,if_neg (fun q=>bj (by rw [hh,q]))];exact hM
 cases h with
 | skip hg hL=>exact⟨L.put o.dst (.a9 []),.skip (zS hl hg) rfl,by rw [hL,yH L hd],fun t ht _=>gO L _ t rfl ht⟩
 | @val r fr H1 hg hle dS n9 hL =>
  obtain⟨dst,op,ty,pos,after,gd⟩:=o
  have aJk:∀ x∈op.operands,L.ev x=(L.put (some d) v).ev x:=fun x hx=>(ie x hx).symm
  have aha:lZ P H1 L.ev (dst.getD 0) op r fr:=n9.ary hk aJk
  refine⟨⟨(L.put dst r).slot,H1⟩,.val (zS hl hg) hle dS aha rfl,?_,fun t ht _=>gO L r t rfl ht⟩
  rw [hL]
  have:=yH L hd v r
  exact congrArg (fun M=>St.mk (St.slot M) H1) this
 | st hg vE =>
  obtain⟨dst,op,ty,pos,after,gd⟩:=o
  cases vE with
  | store hp hb hs hm hi hy pJ hT bj =>
   rename_i T p x b sz i o' blk y y'
   have e1:=ie p ck
   have e2:=ie x ck
   rw [e1] at hp
   rw [e2] at pJ hT bj
   refine⟨_,.st (zS hl hg) (.store hp hb hs hm hi hy pJ hT bj),?_,fun t ht _=>?_⟩
   ·exact yH (L.bU b _) hd v .any
   ·exact gO (L.bU b _) .any t rfl ht
  | fV hx hb hs hm hlen gX gJ hT hU hz hE dP je hy bT gv dx =>
   rename_i T U E E' d' b sz len blk x y news z dN
   have e1:=ie x ll
   have e2:=ie y ll
   rw [e1] at hx
   rw [e2] at hy
   refine⟨_,.st (zS hl hg) (.fV hx hb hs hm hlen gX gJ hT hU hz hE dP je hy bT gv dx),?_,fun t ht hf=>?_⟩
   ·rw [aHx L hv]
    exact yH ((L.kill b).bU d' _) hd v _
   ·exact gO ((L.kill b).bU d' _) _ t (hf b) ht
  | xG hx gX hT hU hz hE dP je hy hn bT gv dx =>
   rename_i T U E E' d' sz x y news z dN
   have e1:=ie x ll
   have e2:=ie y ll
   rw [e1] at hx
   rw [e2] at hy
   refine⟨_,.st (zS hl hg) (.xG hx gX hT hU hz hE dP je hy hn bT gv dx),?_,fun t ht hf=>?_⟩
   ·exact yH (L.bU d' _) hd v _
   ·exact gO (L.bU d' _) _ t rfl ht
  | _=>exfalso;revert hk;simp [y9,af3,zY]
 | stM iP hg lB =>
  obtain⟨dst,op,ty,pos,after,gd⟩:=o
  cases lB with
  | call hb hm hp ha hn hkk ta l6 =>
   rename_i f xs zx args r b blk blk'
   have em:xs.toList.map (L.put (some d) v).ev=xs.toList.map L.ev:=ajk fun x hxm=>ie x (afc hxm)
   rw [em] at ha hn
   refine⟨_,.stM iP (zS hl hg) (.call hb hm hp ha hn hkk ta l6),?_,fun t ht _=>?_⟩
   ·exact yH (L.bU b _) hd v _
   ·exact gO (L.bU b _) _ t rfl ht
  | ajj hT hU hz hE dP hb hx lY pd hlen hy gX hgr dx hm gv =>
   rename_i T U E x y z k kl sz dN len cp n d' b blk
   rw [ie x ll] at hx
   rw [ie y ll] at hy
   refine⟨_,.stM iP (zS hl hg) (.ajj hT hU hz hE dP hb hx lY pd hlen hy gX hgr dx hm gv),?_,fun t ht _=>?_⟩
   ·exact yH (L.bU d' _) hd v _
   ·exact gO (L.bU d' _) _ t rfl ht
  | ovl hf uE hb hn he ht hE hx hy xm h1 h2 dx =>
   rw [ie _ (afc aW)] at hx
   rw [ie _ (afc aW)] at hy
   refine⟨_,.stM iP (zS hl hg) (.ovl hf uE hb hn he ht hE hx hy xm h1 h2 dx),?_,fun t ht _=>?_⟩
   ·exact yH L hd v _
   ·exact gO L _ t rfl ht
  | anG hT hU hz hE dP hb hx hy gX h0 dx hm gv =>
   rename_i T U E x y z k kl sz dN n d'
   have e1:=ie x ll
   have e2:=ie y ll
   rw [e1] at hx
   rw [e2] at hy
   refine⟨_,.stM iP (zS hl hg) (.anG hT hU hz hE dP hb hx hy gX h0 dx hm gv),?_,fun t ht _=>?_⟩
   ·exact yH (L.bU d' _) hd v _
   ·exact gO (L.bU d' _) _ t rfl ht
def awD (ops:Array Oper) (i:Nat) (D:Array Bool):Bool :=
 D.size==ops.size && !D.getD i true && (m8 (ops.getD i default)).all (fun j=>D.getD j false) && (ops.getD i default).guard.isNone && y9 (ops.getD i default).op &&
 (fe ops.size).all fun j=>j==i || D.getD j true || (y9 (ops.getD j default).op && ((ops.getD j default).dst != (ops.getD i default).dst) &&
  (match (ops.getD i default).dst with | some d=>!((ops.getD j default).looksAt ops).contains d || (m8 (ops.getD j default)).contains i | none=>false) &&
  (match (ops.getD j default).dst with | some e=>!((ops.getD i default).looksAt ops).contains e | none=>true))
theorem iT {m:Nat} {K:St->Prop} {L:St} {D:Array Bool} {d:Nat} {v:LV} (i:Nat) {o:Oper} (ho:ops[i]?=some o) (ams:o.dst=some d) (nE:awD ops i D=true) (hv:lZ P (fun _=>none) L.ev d o.op v [])
  (hfv:∀ b,v.kill b=v) (hfo:an5 L o.op.operands.toList)
  (h:ng P ops m (D.setIfInBounds i true) (L.put (some d) v) K):ng P ops (m+1) D L K:=by
 have jz:∀ i o,ops[i]?=some o->ops.getD i default=o:=fun i o h=>by rw [gH,h];rfl
 have uo:i<ops.size:=(nC.1 ho).1
 let C:Array Bool->Prop:=fun D=>D.size=ops.size/\D.getD i false=false/\(∀ j∈m8 o,D.getD j false=true)/\∀ j oj,ops[j]?=some oj->j≠i->D.getD j false=false ->
  y9 oj.op=true/\oj.dst≠some d/\(d∈oj.looksAt ops->i∈m8 oj)/\∀ e,oj.dst=some e->e∉o.looksAt ops
 unfold awD at nE
 rw [jz i o ho,ams] at nE
 simp only [Bool.and_eq_true,List.all_eq_true,List.mem_range,Bool.or_eq_true,beq_iff_eq,zr,Option.isNone_iff_eq_none,bne_iff_ne,ne_eq] at nE
 obtain⟨⟨⟨⟨⟨bT,hni⟩,hrd⟩,hgd⟩,aHp⟩,gC⟩:=nE
 have hC:C D:=by
  refine⟨bT,by rw [af1 J false true];exact hni,hrd,fun j oj hj bj hDj=>?_⟩
  have hjl:j<ops.size:=(nC.1 hj).1
  have:=gC j hjl
  rw [jz j oj hj] at this
  rcases this with(q | q) | q
  ·exact absurd q bj
  ·rw [af1 J true false,hDj] at q;cases q
  ·obtain⟨⟨⟨q1,q2⟩,q3⟩,q4⟩:=q
   refine⟨q1,q2,fun hm=>?_,fun e he hm=>?_⟩
   ·rcases q3 with q | q
    ·rw [qW.2 hm] at q;cases q
    ·exact qW.1 q
   ·rw [he] at q4
    simp only [zr] at q4
    rw [qW.2 hm] at q4;cases q4
 have axL:∀ L:St,lZ P (fun _=>none) L.ev d o.op v []->Step P false ops o L (L.put (some d) v):=fun L hv=>by
  refine .val (fr:=[]) (H1:=L.heap) (r:=v) (by unfold eE;rw [hgd]) (b9.le_refl _) (fun _ _ hh=>by cases hh) (by rw [ams];exact hv.le fun b blk h=>by cases h) ?_
  rw [ams];rfl
 clear bT hni hrd gC
 have azh:∀ x∈o.op.operands,∀ b,(L.ev x).kill b=L.ev x:=fun x hx=>aqn hfo x (afI.2 hx)
 clear hfo
 have main:∀ (n:Nat) (D:Array Bool) (L:St),C D->lZ P (fun _=>none) L.ev d o.op v []->(∀ x∈o.op.operands,∀ b,(L.ev x).kill b=L.ev x)->ng P ops n (D.setIfInBounds i true) (L.put (some d) v) K->ng P ops (n+1) D L K:=by
  intro n
  induction n with
  | zero =>
   intro D L ⟨c1,c2,c3,c4⟩ hv _ hh
   have tX:i∈Region.ready .any ops D:=(zA c1).2 ⟨o,ho,by rw [af1 J true false];exact c2,c3⟩
   refine⟨fun hr=>(by rw [hr] at tX;cases tX),fun j hj=>?_⟩
   by_cases rn:j=i
   ·subst rn
    exact⟨o,_,ho,axL L hv,hh⟩
   ·exfalso
    obtain⟨oj,h1,h2,h3⟩:=(zA c1).1 hj
    have:j∈Region.ready .any ops (D.setIfInBounds i true):=(zA (by simpa using c1)).2 ⟨oj,h1,by
     rw [gH,qf (Ne.symm rn),<-gH];exact h2,fun k hk=>by
     by_cases vN:i=k
     ·subst vN
      rw [gH,vW J];rfl
     ·rw [gH,qf vN,<-gH];exact h3 k hk⟩
    rw [hh.1] at this;cases this
  | succ n ih =>
   intro D L ⟨c1,c2,c3,c4⟩ hv hfo hh
   have tX:i∈Region.ready .any ops D:=(zA c1).2 ⟨o,ho,by rw [af1 J true false];exact c2,c3⟩
   refine⟨fun hr=>(by rw [hr] at tX;cases tX),fun j hj=>?_⟩
   by_cases rn:j=i
   ·subst rn
    exact⟨o,_,ho,axL L hv,hh⟩
   ·obtain⟨oj,h1,h2,h3⟩:=(zA c1).1 hj
    have hjl:j<ops.size:=(nC.1 h1).1
    have hDj:D.getD j false=false:=by rw [af1 J false true];exact h2
    have aJX:j∈Region.ready .any ops (D.setIfInBounds i true):=(zA (by simpa using c1)).2 ⟨oj,h1,by
     rw [gH,qf (Ne.symm rn),<-gH];exact h2,fun k hk=>by
     by_cases vN:i=k
     ·subst vN
      rw [gH,vW J];rfl
     ·rw [gH,qf vN,<-gH];exact h3 k hk⟩
    obtain⟨oj',L2,g1,g2,g3⟩:=hh.2 j aJX
    rw [h1] at g1;cases g1
    obtain⟨k1,k2,k3,k4⟩:=c4 j oj h1 rn hDj
    have rK:d∉oj.looksAt ops:=fun hm=>by
     have:=h3 i (k3 hm)
     rw [c2] at this;cases this
    obtain⟨L1,s1,s2,s3⟩:=aFZ hfv k1 rK k2 g2
    have afN:∀ x∈o.op.operands,L1.ev x=L.ev x:=fun x hx=>by
     cases x with
     | tmp t =>
      have ht:t∈o.looksAt ops:=by
       unfold Oper.looksAt
       simp only [oO,aaF]
       exact .inl ⟨.tmp t,by simpa using hx,rfl⟩
      exact s3 t (fun q=>k4 t q ht) (hfo _ hx)
     | const v=>rfl
     | func f=>rfl
     | global f=>rfl
    refine⟨oj,L1,h1,s1,ih (D.setIfInBounds j true) L1 ⟨by simpa using c1,?_,fun k hk=>?_,fun k ok hk bj fM=>?_⟩ (hv.ary aHp afN) (fun x hx b=>by rw [afN x hx];exact hfo x hx b) ?_⟩
    ·rw [gH,qf rn,<-gH];exact c2
    ·by_cases hjk:j=k
     ·subst hjk
      rw [gH,vW J];rfl
     ·rw [gH,qf hjk,<-gH];exact c3 k hk
    ·by_cases hjk:j=k
     ·subst hjk
      rw [gH,vW J] at fM
      cases fM
     ·rw [gH,qf hjk,<-gH] at fM
      exact c4 k ok hk bj fM
    ·rw [<-s2]
     have:(D.setIfInBounds j true).setIfInBounds i true=(D.setIfInBounds i true).setIfInBounds j true:=by
      refine Array.ext_getElem? fun k=>?_
      by_cases q1:i=k
      ·subst q1
       rw [vW bq,qf rn,vW J]
      ·by_cases q2:j=k
       ·subst q2
        rw [qf q1,vW J,vW bq]
       ·rw [qf q1,qf q2,qf q2,qf q1]
     rw [this];exact g3
 exact main m D L hC hv azh h
end
end Go.Lg
end
section
set_option linter.unusedVariables false
set_option linter.unusedSimpArgs false
set_option maxHeartbeats 8000000
set_option maxRecDepth 100000
attribute [local irreducible] Go.Lg.opsL Go.Lg.cU Go.Lg.oq Go.Lg.qK
namespace Go.Proofs.YthcadngkamjpdaaGreat
open Go.Lg
def aA (d:Nat) (a b:Rat):List Rat:=aV (d+1) a++aV (d+1) b
theorem gW (d:Nat) (a b:Rat):(aA d a b).length=2*(d+1):=by simp [aA];omega
theorem im (d:Nat) (a b:Rat) (i:Nat) (h:i<2*(d+1)):(aA d a b).getD i 0=if i<d+1 then a else b:=by
 unfold aA
 split
 ·rw [gD1 bq,zX J]
 ·rw [gD2 bq,List.length_replicate,zX J]
theorem yN (d:Nat) (a b:Rat):(aA d a b).getD 0 0=a:=by rw [im _ _ _ _ J,if_pos J]
theorem abo (d:Nat) (a b:Rat):(aA d a b).getD (2*(d+1)-1) 0=b:=by rw [im _ _ _ _ J,if_neg J]
theorem mw {d:Nat} {a b:Rat} {R:Nat} (ha:rl a<=R) (hb:rl b<=R):∀ x∈aA d a b,rl x<=R:=fun x hx=>by
 rcases oO.1 hx with g | g
 ·rw [(uc.1 g).2];exact ha
 ·rw [(uc.1 g).2];exact hb
theorem aGO {d m:Nat} {a b:Rat} (h:m<2*(d+1)) (h2:m<=d):(aA d a b).take m++[a]=(aA d a b).take (m+1):=by
 have e:=im d a b m h
 rw [if_pos J] at e
 rw [<-acX (l:=aA d a b) (k:=m) (by rw [gW];exact h),e]
theorem aDQ {d m:Nat} {a b:Rat} (h:m<2*(d+1)) (h2:¬m<=d):(aA d a b).take m++[b]=(aA d a b).take (m+1):=by
 have e:=im d a b m h
 rw [if_neg J] at e
 rw [<-acX (l:=aA d a b) (k:=m) (by rw [gW];exact h),e]
theorem ajx {a b:Rat} (h:a<b):eM a b=a:=by unfold eM;rw [if_neg dz]
theorem ahV {a b:Rat} (h:a<b):er a b=b:=by unfold er;rw [if_pos h]
theorem adx {p:List Rat} {x:Rat} (hl:p.length<=7) (hp:∀ y∈p,rl y<=7000000) (hx:rl x<=100000):HS p x:=by
 have h1:=fD 1 x
 have h0:rl 1=1:=rfl
 refine⟨rl (1-x)+rl x+1,bF _,J,fun y hy=>?_⟩
 have h2:=hp y hy
 have h3:2 ^ p.length<=2 ^ 7:=oy ai hl
 have h4:(rl y+(rl (1-x)+rl x+1))*2 ^ p.length<=8000000*2 ^ 7:=jG J h3
 omega
theorem aDL {p:List Rat} {x:Rat} {R S:Nat} (hl:p.length<=7) (hp:∀ y∈p,rl y<=R) (hR:1<=R) (hx:rl (1-x)+rl x+1<=S):∀ y∈mS p x,rl y<=(R+S)*64:=fun y hy=>by
 obtain⟨j,hj,rfl⟩:=asb.1 hy
 have dL:j<p.length:=by rw [zV] at hj;exact hj
 have e:(mS p x)[j]=(mS p x).getD j 0:=by rw [bE,bY hj];rfl
 rw [e,ahK dL]
 have h1:=aft (a:=1-x) (b:=x) (p.length-1-j) (fun i=>p.getD (j+i) 0) R (fun i=>gQ hR hp _)
 have h2:2 ^ (p.length-1-j)<=64:=oy (n:=2) ai (show p.length-1-j<=6 by omega)
 exact bb h1 (jG J h2)
theorem aBb {n:Nat} (h:2*n<=9223372036854775807):dM .mul .i64 2 (n:Nat)=some (.int .i64 ((2*n:Nat):Int)):=by
 rw [afh J J];congr 2
theorem ax5 (d sz:Nat) (x z:LV) (Z:Nat->Prop) (μ:Nat->Option Nat) (w:World) (cs:List Value) (h:aJ Z μ w (.agg [x,.v (.slice none 0 0),z]) cs):aJ Z μ w (.agg [x,.ref d sz 0 0,z]) cs:=by
 simp only [aJ,cj] at h ⊢
 obtain⟨c1,c2,e1,e2,e3,c3,c4,e4,e5,e6,c5,c6,e7,e8,e9,e10⟩:=h
 exact⟨c1,c2,e1,e2,e3,c3,c4,e4,e5,.inl ⟨e6.1,trivial⟩,c5,c6,e7,e8,e9,e10⟩
namespace atd
theorem aw {p q:Prop} (k:q) (e:p=q:=by simp only [e1,e2,e3,e4,p1,p2,p3,q1,q2,q3,l1,t0,t1,r1,r2,r3,r4,Nat.zero_add,Nat.reduceMul,Nat.reduceAdd,b1,b2,b3,b4,b5,b6,i1,i2,i3,i4,i5,i6,Nat.reduceBEq,eW,iH,fo,eO,dW,List.length_cons,List.length_nil,List.nil_append,List.map_nil,List.take_nil,List.append_nil,List.set_cons_zero,List.set_cons_succ,Nat.reduceEqDiff,reduceIte,if_true,if_false,cB,dB,aG aX,aG bz,aG an,cA,cC,LV.kill,bH];exact rfl):p:=e.mpr k
end atd
open atd in
theorem aIl (d:Nat) (kn:List Rat) (po:List ar) (R:Nat) (hR:R<=1000000) (h:rT po d R):ax ak 113 [.agg [ae d,.list 3 (kn.map aa),.list 12 (po.map bm)]] (.list 9 ((po.map (·.p)).map aE)):=by
 have hl:=h.hl
 have hd:=h.hd
 have h6:=h.h6
 have fx:LV.pure (.agg [ae d,.list 3 (kn.map aa),.list 12 (po.map bm)])=true:=by simp [LV.pure,aK,aP an,aP bz]
 refine aR Tryz.func113 (ht:=(fun g=>LV.cQ g _ (cd aX _ _))) ?_
 have eW:True:=trivial
 have iH:True:=trivial
 refine sE ?_
 refine jm ((az.kill _ 1).trans (az.own (t:=3) 17 9 rfl rfl)) ?_
 refine dI (fun(i:Nat) L=>(((((St.mk L.slot (hp [(17,⟨9,((po.map (·.p)).take i).map aE,true⟩)])).put (some 3) (.ref 17 9 0 i)).put (some 7) (.list 12 (po.map bm))).put (some 8) (ae po.length)).put (some 9) (ae i))) (fun i=>i<=po.length) (fun i=>po.length-i) 0 (bS _) ?_
 rintro i L1 hi
 refine ay ?_
 refine aL rfl ?_ ?_<;>intro pA sC
 ·have dq:i<po.length:=by omega
  have iH:=abZ (·.p) po dq
  have htl:((po.map (·.p)).take i).length=i:=by rw [fQ,eD];omega
  have eW:(((po.map (·.p)).take i).map aE).take i=((po.map (·.p)).take i).map aE:=cE jQ
  refine iY ?_
  refine bO rfl (.fV (d:=17) (news:=[aE (po.getD i default).p]) rfl rfl rfl rfl bq (.inl rfl) ai ox ox Z54 iQ cs B54 (.inl ⟨16,0,_,rfl,by decide,rfl,rfl,by simp,rfl,by simp [aK,aX.pure]⟩) bq bq ai) ?_
  refine aB ?_
  refine bR ((az.kill _ 5).trans (az.kill _ 16)) ?_
  refine ah rfl cu ?_
  refine aQ ?_
  exact lK
 ·obtain rfl:i=po.length:=by omega
  have hE:(po.map (·.p)).take po.length=(po.map (·.p)):=cE aW
  refine bw ?_
  simp only [hE]
  exact lW [17] rfl rfl (dH aX rfl rfl aW)
open ig in
theorem ajv (q:ar) (R:Nat) (hR:R<=1000000) (h:k5 R q):ax ak 179 [bm q] (.agg [aa (q.w*q.p.x),aa (q.w*q.p.y),aa (q.w*q.p.z),aa q.w]):=by
 obtain⟨⟨a1,a2,a3⟩,a4,_⟩:=h
 have hA:=fA q.w 0 (by have:rl 0=1:=rfl;omega)
 rw [jC] at hA
 refine aR Tryz.func179 (ht:=(fun g=>LV.cQ g _ pu)) ?_
 refine lF ?_
 refine bc ?_
 refine ay ?_
 refine bI (b:=_) rfl ai ?_
 refine nO ?_
 refine cp au (ef q.w q.p.x J) ?_
 refine a7 ?_
 refine bR (az.kill _ 5) ?_
 refine aB ?_
 refine bc ?_
 refine ay ?_
 refine bI (b:=_) rfl ai ?_
 refine nO ?_
 refine cp au (ef q.w q.p.y J) ?_
 refine a7 ?_
 refine bR (az.kill _ 5) ?_
 refine aB ?_
 refine bc ?_
 refine ay ?_
 refine bI (b:=_) rfl ai ?_
 refine nO ?_
 refine cp au (ef q.w q.p.z J) ?_
 refine a7 ?_
 refine bR (az.kill _ 5) ?_
 refine aB ?_
 refine bc ?_
 refine ay ?_
 refine dp (b:=_) rfl ai ?_
 refine bB ?_
 refine ah rfl rE ?_
 refine cp au (hA) ?_
 refine bC ?_
 exact fi [] rfl rfl rfl cs (cr cs rfl) kF (.pure pu)
namespace axg
theorem aw {p q:Prop} (k:q) (e:p=q:=by simp only [e1,e2,e3,e4,p1,p2,p3,q1,q2,q3,l1,t0,t1,r1,r2,r3,r4,Nat.zero_add,Nat.reduceMul,Nat.reduceAdd,b1,b2,b3,b4,b5,b6,i1,i2,i3,i4,i5,i6,Nat.reduceBEq,afQ,afL,aat,age,ago,afq,agh,afO,fo,eO,dW,List.length_cons,List.length_nil,List.nil_append,List.map_nil,List.take_nil,List.append_nil,List.set_cons_zero,List.set_cons_succ,Nat.reduceEqDiff,reduceIte,if_true,if_false,cB,dB,aG aX,aG bz,aG an,cA,cC,LV.kill,bH];exact rfl):p:=e.mpr k
end axg
open axg in
theorem ahB (d:Nat) (kn:List Rat) (po:List ar) (R:Nat) (hR:R<=1000000) (h:rT po d R):ax ak 109 [.agg [ae d,.list 3 (kn.map aa),.list 12 (po.map bm)]] (.agg [.list 3 ((bn po 0).map aa),.list 3 ((bn po 1).map aa),.list 3 ((bn po 2).map aa),.list 3 ((aZ po).map aa)]):=by
 have hl:=h.hl
 have hd:=h.hd
 have h6:=h.h6
 have fx:LV.pure (.agg [ae d,.list 3 (kn.map aa),.list 12 (po.map bm)])=true:=by simp [LV.pure,aK,aP an,aP bz]
 have iy:=qZ po 0
 have mi:=qZ po 1
 have lN:=qZ po 2
 have vV:=vX po
 refine aR Tryz.func109 (ht:=(fun g=>LV.cQ g _ (by simp [LV.pure,aK,aP an]))) ?_
 have afQ:True:=trivial
 have afL:True:=trivial
 have aat:True:=trivial
 have age:True:=trivial
 have ago:True:=trivial
 have afq:True:=trivial
 have agh:True:=trivial
 have afO:True:=trivial
 refine sE ?_
 refine jm (((az.kill _ 1).trans (az.cell 3 rfl (fun Z μ w cs h=>aFS 1001 1002 1003 1004 3 Z μ w cs h))).trans ((az.ov _ 1001 3 rfl).trans ((az.ov _ 1002 3 rfl).trans ((az.ov _ 1003 3 rfl).trans (az.ov _ 1004 3 rfl))))) ?_
 refine dI (fun(j:Nat) L=>((((((St.mk L.slot (hp [(2,⟨4,[.agg [.v (.slice none 0 0),.v (.slice none 0 0),.v (.slice none 0 0),.v (.slice none 0 0)]],true⟩),(3,⟨4,[.agg [.ref 1001 3 0 j,.ref 1002 3 0 j,.ref 1003 3 0 j,.ref 1004 3 0 j]],true⟩),(1001,⟨3,((bn po 0).take j).map aa,true⟩),(1002,⟨3,((bn po 1).take j).map aa,true⟩),(1003,⟨3,((bn po 2).take j).map aa,true⟩),(1004,⟨3,((aZ po).take j).map aa,true⟩)])).put (some 2) (.aF 2 4 0 0)).put (some 3) (.aF 3 4 0 0)).put (some 9) (.list 12 (po.map bm))).put (some 10) (ae po.length)).put (some 11) (ae j))) (fun j=>j<=po.length) (fun j=>po.length-j) 0 (bS _) ?_
 rintro j L1 hj
 refine ay ?_
 refine aL rfl ?_ ?_<;>intro abL h12
 ·have dL:j<po.length:=by omega
  have nE:=h.ok _ (tG dL)
  have ago:(bn po 0).take j++[(po.getD j default).w*(po.getD j default).p.x]=(bn po 0).take (j+1):=abZ (fun q:ar=>q.w*q.p.at 0) po dL
  have afq:(bn po 1).take j++[(po.getD j default).w*(po.getD j default).p.y]=(bn po 1).take (j+1):=abZ (fun q:ar=>q.w*q.p.at 1) po dL
  have agh:(bn po 2).take j++[(po.getD j default).w*(po.getD j default).p.z]=(bn po 2).take (j+1):=abZ (fun q:ar=>q.w*q.p.at 2) po dL
  have afO:(aZ po).take j++[(po.getD j default).w]=(aZ po).take (j+1):=abZ (fun q:ar=>q.w) po dL
  have afQ:(((bn po 0).take j).map aa).take j=((bn po 0).take j).map aa:=cE aai
  have afL:(((bn po 1).take j).map aa).take j=((bn po 1).take j).map aa:=cE aai
  have aat:(((bn po 2).take j).map aa).take j=((bn po 2).take j).map aa:=cE aai
  have age:(((aZ po).take j).map aa).take j=((aZ po).take j).map aa:=cE aai
  refine eQ ?_
  refine cp aO (ajv (po.getD j default) R hR nE) ?_
  refine aB ?_
  refine bc ?_
  refine ay ?_
  refine bI (b:=_) rfl ai ?_
  refine dk ?_
  refine eZ 6 [0] al ?_
  refine ay ?_
  refine bO rfl (.fV (d:=1001) (news:=[aa ((po.getD j default).w*(po.getD j default).p.x)]) rfl rfl rfl rfl bq (.inl rfl) ai me me kT dC rfl kX (.inl ⟨26,0,_,rfl,by decide,rfl,rfl,by simp,rfl,by simp [aK,an.pure]⟩) bq bq ai) ?_
  refine a7 ?_
  refine bR ((az.kill _ 7).trans (az.kill _ 26)) ?_
  refine aB ?_
  refine bc ?_
  refine ay ?_
  refine bI (b:=_) rfl ai ?_
  refine dk ?_
  refine eZ 6 [0] al ?_
  refine ay ?_
  refine bO rfl (.fV (d:=1002) (news:=[aa ((po.getD j default).w*(po.getD j default).p.y)]) rfl rfl rfl rfl bq (.inl rfl) ai me me kT dC rfl kX (.inl ⟨26,0,_,rfl,by decide,rfl,rfl,by simp,rfl,by simp [aK,an.pure]⟩) bq bq ai) ?_
  refine a7 ?_
  refine bR ((az.kill _ 7).trans (az.kill _ 26)) ?_
  refine aB ?_
  refine bc ?_
  refine ay ?_
  refine bI (b:=_) rfl ai ?_
  refine dk ?_
  refine eZ 6 [0] al ?_
  refine ay ?_
  refine bO rfl (.fV (d:=1003) (news:=[aa ((po.getD j default).w*(po.getD j default).p.z)]) rfl rfl rfl rfl bq (.inl rfl) ai me me kT dC rfl kX (.inl ⟨26,0,_,rfl,by decide,rfl,rfl,by simp,rfl,by simp [aK,an.pure]⟩) bq bq ai) ?_
  refine a7 ?_
  refine bR ((az.kill _ 7).trans (az.kill _ 26)) ?_
  refine aB ?_
  refine bc ?_
  refine ay ?_
  refine bI (b:=_) rfl ai ?_
  refine dk ?_
  refine eZ 6 [0] al ?_
  refine ay ?_
  refine bO rfl (.fV (d:=1004) (news:=[aa ((po.getD j default).w)]) rfl rfl rfl rfl bq (.inl rfl) ai me me kT dC rfl kX (.inl ⟨26,0,_,rfl,by decide,rfl,rfl,by simp,rfl,by simp [aK,an.pure]⟩) bq bq ai) ?_
  refine a7 ?_
  refine bR ((az.kill _ 7).trans (az.kill _ 26)) ?_
  refine aB ?_
  refine bc ?_
  refine ay ?_
  refine dp (b:=_) rfl ai ?_
  refine ay ?_
  refine bR (az.kill _ 5) ?_
  refine ah rfl cu ?_
  refine aQ ?_
  exact qp
 ·obtain rfl:j=po.length:=by omega
  have hE0:(bn po 0).take po.length=(bn po 0):=cE J
  have hE1:(bn po 1).take po.length=(bn po 1):=cE J
  have hE2:(bn po 2).take po.length=(bn po 2):=cE J
  have hE3:(aZ po).take po.length=(aZ po):=cE J
  refine bw ?_
  simp only [hE0,hE1,hE2,hE3]
  exact fi [1001,1002,1003,1004] rfl rfl rfl cs (cr cs rfl) apH (.agg (.cons (dH an rfl rfl iy.symm) (.cons (dH an rfl rfl mi.symm) (.cons (dH an rfl rfl lN.symm) (.cons (dH an rfl rfl vV.symm) .nil)))))
namespace alN
theorem aw {p q:Prop} (k:q) (e:p=q:=by simp only [e1,e2,e3,e4,p1,p2,p3,q1,q2,q3,l1,t0,t1,r1,r2,r3,r4,Nat.zero_add,Nat.reduceMul,Nat.reduceAdd,b1,b2,b3,b4,b5,b6,i1,i2,i3,i4,i5,i6,Nat.reduceBEq,cn,jb,cq,iZ,List.length_map,List.set_cons_zero,List.set_cons_succ,Nat.reduceEqDiff,reduceIte,if_true,if_false,cB,dB,aG aX,aG bz,aG an,cA,cC,LV.kill,bH];exact rfl):p:=e.mpr k
end alN
open alN in
theorem ahg (d:Nat) (a b:Rat) (po:List ar) (ha:rl a<=100) (hb:rl b<=100) (cY:a<b) (h9:d<=6):ax ak 52 [.agg [ae d,.list 3 ((aA d a b).map aa),.list 12 (po.map bm)]] (aD (a,b)):=by
 have jb:=gW d a b
 have cq:=yN d a b
 have iZ:=abo d a b
 have fx:LV.pure (.agg [ae d,.list 3 ((aA d a b).map aa),.list 12 (po.map bm)])=true:=by simp [LV.pure,aK,aP an,aP bz]
 have hS:=xN a b J
 rw [ajx cY,ahV cY] at hS
 refine aR Tryz.func52 ?_
 refine eQ ?_
 refine aL rfl ?_ ?_<;>intro h6r h6
 ·omega
 ·refine aQ ?_
  refine aY 13 al ?_
  refine bB ?_
  refine ah rfl nh ?_
  refine aH ?_
  try simp only [t1,cn,jb,cq,iZ,eD]
  refine cp au (hS) ?_
  refine aB ?_
  exact od
open ig in
theorem an2 (d:Nat) (a b:Rat) (po:List ar) (ha:rl a<=100) (hb:rl b<=100) (cY:a<b) (h9:d<=6) (t x:Rat) (ht:rl t<=100) (h1:a<=t) (h2:t<=b) (hx:(t-a)/(b-a)=x) (lA:0<po.length):ax ak 107 [.agg [ae d,.list 3 ((aA d a b).map aa),.list 12 (po.map bm)],aa t] (.a9 [aa x,aa (b-a),bL true]):=by
 have jb:=gW d a b
 have cq:=yN d a b
 have iZ:=abo d a b
 have fx:LV.pure (.agg [ae d,.list 3 ((aA d a b).map aa),.list 12 (po.map bm)])=true:=by simp [LV.pure,aK,aP an,aP bz]
 have qG:=fD t a
 have r7:=fD b a
 have hD:=ahg d a b po ha hb cY h9
 have hW:ax ak 137 [aD (a,b)] (aa (b-a)):=abF (a,b) (by show rl b+rl a<=_;omega)
 have hQ:ax ak 180 [aa (t-a),aa (b-a)] (.a9 [aa x,iL 0]):=by
  have:=sH (t-a) (b-a) J
  rw [if_neg dz,hx] at this
  exact this
 have hH:ax ak 91 [aD (a,b),aa t] (bL true):=by
  have:=adP (a,b) t (by show rl a+rl t<=_;omega) (by show rl t+rl b<=_;omega)
  unfold jr at this
  rw [decide_eq_true h1,decide_eq_true h2] at this
  exact this
 refine aR Tryz.func107 (ht:=(ac6 (an.pure _) (an.pure _) rfl)) ?_
 refine bw ?_
 refine cp aO (hD) ?_
 refine bw ?_
 refine ep 15 rfl ?_ ?_<;>intro oG mV
 ·omega
 ·refine aH ?_
  refine cp au (hH) ?_
  refine aB ?_
  refine aL rfl ?_ ?_<;>intro aae ze
  ·first | exact ze.elim | cases aae
  ·refine a7 ?_
   refine cp aO (hW) ?_
   refine aB ?_
   refine eZ 9 [8] al ?_
   refine aQ ?_
   refine cp au (oW t a J) ?_
   refine ao ?_
   refine cp au (hQ) ?_
   refine bg ?_
   refine ahp ?_
   refine iT 2 rfl rfl al (.pure (.move _)) pQ lb ?_
   refine iT 3 rfl rfl al (.pure biA) pQ lb ?_
   refine eG 0 1 _ _ al rfl rfl ?_ ?_
   ·refine ao ?_
    refine aC ?_
    refine eG 1 4 _ _ al rfl rfl ?_ ?_
    ·refine ao ?_
     refine aC ?_
     refine aS 4 _ al rfl ?_
     refine ao ?_
     refine aC ?_
     refine aS 5 _ al rfl ?_
     refine ao ?_
     refine aC ?_
     refine aS 6 _ al rfl ?_
     refine ao ?_
     refine aC ?_
     refine dt al ?_
     refine aH ?_
     exact fq
    ·refine ao ?_
     refine aC ?_
     refine aS 1 _ al rfl ?_
     refine ao ?_
     refine aC ?_
     refine aS 5 _ al rfl ?_
     refine ao ?_
     refine aC ?_
     refine aS 6 _ al rfl ?_
     refine ao ?_
     refine aC ?_
     refine dt al ?_
     refine aH ?_
     exact fq
   ·refine ao ?_
    refine aC ?_
    refine aS 0 _ al rfl ?_
    refine ao ?_
    refine aC ?_
    refine aS 4 _ al rfl ?_
    refine ao ?_
    refine aC ?_
    refine aS 5 _ al rfl ?_
    refine ao ?_
    refine aC ?_
    refine aS 6 _ al rfl ?_
    refine ao ?_
    refine aC ?_
    refine dt al ?_
    refine aH ?_
    exact fq
namespace aoN
theorem aw {p q:Prop} (k:q) (e:p=q:=by simp only [e1,e2,e3,e4,p1,p2,p3,q1,q2,q3,l1,t0,t1,r1,r2,r3,r4,Nat.zero_add,Nat.reduceMul,Nat.reduceAdd,b1,b2,b3,b4,b5,b6,i1,i2,i3,i4,i5,i6,Nat.reduceBEq,List.getD_cons_zero,List.set_cons_zero,List.set_cons_succ,Nat.reduceEqDiff,reduceIte,if_true,if_false,cB,dB,aG aX,aG bz,aG an,cA,cC,LV.kill,bH];exact rfl):p:=e.mpr k
end aoN
open aoN in
theorem ae4 (n0 n1 n2 w:Rat) (R:Nat) (hR:R<=1000000000) (h0:rl n0<=R) (h1:rl n1<=R) (h2:rl n2<=R) (hw:rl w<=R) (kp:0<w):ax ak 112 [.agg [aa n0,aa n1,aa n2,aa w]] (bm ⟨⟨n0/w,n1/w,n2/w⟩,w⟩):=by
 have hA:=fA w 0 (by have:rl 0=1:=rfl;omega)
 rw [jC] at hA
 have bj:w≠0:=by grind
 have hQ0:ax ak 180 [aa n0,aa w] (.a9 [aa (n0/w),iL 0]):=by
  have:=sH n0 w J
  rwa [if_neg bj] at this
 have hQ1:ax ak 180 [aa n1,aa w] (.a9 [aa (n1/w),iL 0]):=by
  have:=sH n1 w J
  rwa [if_neg bj] at this
 have hQ2:ax ak 180 [aa n2,aa w] (.a9 [aa (n2/w),iL 0]):=by
  have:=sH n2 w J
  rwa [if_neg bj] at this
 refine aR Tryz.func112 (ht:=(fun g=>LV.cQ g _ (bz.pure _))) ?_
 refine bg ?_
 try simp only [List.getD_cons_zero]
 refine aH ?_
 refine ah rfl rE ?_
 refine cp au (hA) ?_
 refine aag (bdW rfl) ?_
 refine bC ?_
 refine bc ?_
 refine ay ?_
 refine bI (b:=_) rfl ai ?_
 refine bh ?_
 refine eZ 12 [9] al ?_
 refine ay ?_
 refine cp au (hQ0) ?_
 refine df ?_
 refine bc ?_
 refine ay ?_
 refine bI (b:=_) rfl ai ?_
 refine bh ?_
 refine eZ 12 [9] al ?_
 refine ay ?_
 refine cp au (hQ1) ?_
 refine df ?_
 refine bc ?_
 refine ay ?_
 refine bI (b:=_) rfl ai ?_
 refine bh ?_
 refine eZ 12 [9] al ?_
 refine ay ?_
 refine cp au (hQ2) ?_
 refine df ?_
 refine bc ?_
 refine ay ?_
 refine dp (b:=_) rfl ai ?_
 refine bw ?_
 exact fi [] rfl rfl rfl cs (cr cs rfl) mO (.pure pu)
namespace axd
theorem aw {p q:Prop} (k:q) (e:p=q:=by simp only [e1,e2,e3,e4,p1,p2,p3,q1,q2,q3,l1,t0,t1,r1,r2,r3,r4,Nat.zero_add,Nat.reduceMul,Nat.reduceAdd,b1,b2,b3,b4,b5,b6,i1,i2,i3,i4,i5,i6,Nat.reduceBEq,List.take_zero,eW,axf,asx,iH,cn,iy,mi,lN,vV,List.length_map,fo,eO,dW,List.length_cons,List.length_nil,List.nil_append,List.map_nil,List.take_nil,List.append_nil,List.set_cons_zero,List.set_cons_succ,Nat.reduceEqDiff,reduceIte,if_true,if_false,cB,dB,aG aX,aG bz,aG an,cA,cC,LV.kill,bH];exact rfl):p:=e.mpr k
end axd
open axd in
theorem aBI (d:Nat) (a b:Rat) (po:List ar) (ha:rl a<=100) (hb:rl b<=100) (cY:a<b) (h9:d<=6) (lo hi x y:Rat) (qg:rl lo<=100) (ud:rl hi<=100) (k1:a<=lo) (k2:lo<hi) (k3:hi<=b) (hx:(lo-a)/(b-a)=x) (hy:(hi-a)/(b-a)=y) (ji:x<1) (zp:rl (1-x)+rl x+1<=20) (hyr:rl (1-y)+rl y+1<=20) (R:Nat) (hR:R<=1000000) (h:rT po d R) (hN:∀ k,∀ z∈bn po k,rl z<=100000) (hW:∀ z∈aZ po,rl z<=100000) (lH:0<=x) (kW:0<=y) (pG:y<=1):ax ak 54 [.agg [ae d,.list 3 ((aA d a b).map aa),.list 12 (po.map bm)],aa lo,aa hi] (.a9 [.agg [ae d,.list 3 ((aA d lo hi).map aa),.list 12 ((nS po x y).map bm)],iL 0]):=by
 have hl:=h.hl
 have hd:=h.hd
 have h6:=h.h6
 have fx:LV.pure (.agg [ae d,.list 3 ((aA d a b).map aa),.list 12 (po.map bm)])=true:=by simp [LV.pure,aK,aP an,aP bz]
 have hOx:=an2 d a b po ha hb cY h9 lo x qg k1 dz hx J
 have hOy:=an2 d a b po ha hb cY h9 hi y ud dz k3 hy J
 have hcm:¬0<=gp lo hi:=fun e=>by have:=zL.1 e;grind
 have hrx:rl x<=20:=by omega
 have hry:rl y<=20:=by omega
 have lE:rl 0=1:=rfl
 have zw:=fA lo 0 J
 have hAh:=fA hi 0 J
 rw [jC] at zw hAh
 have jb:=gW d lo hi
 have hw3:=arZ h
 have lj:=ag2 h 0
 have tO:=ag2 h 1
 have hq2:=ag2 h 2
 have iy:(fG (bn po 0) x y).length=d+1:=by rw [aja];omega
 have mi:(fG (bn po 1) x y).length=d+1:=by rw [aja];omega
 have lN:(fG (bn po 2) x y).length=d+1:=by rw [aja];omega
 have vV:(fG (aZ po) x y).length=d+1:=by rw [aja];omega
 have hsy:=fD y x
 have kI:∀ l:List Rat,aK (l.map aa)=true:=fun l=>aP an l
 have aBu:∀ q0 q1' q2' q3':Rat,LV.pure (.agg [aa q0,aa q1',aa q2',aa q3'])=true:=fun _ _ _ _=>by simp [LV.pure,aK,an.pure]
 have o5:=fD 1 x
 have oR:=pH (y-x) (1-x)
 have bj:1-x≠0:=by grind
 have hP:∀ p:List Rat,p.length=d+1->(∀ z∈p,rl z<=100000)->ax ak 110 [.list 3 (p.map aa),aa x,aa y] (.list 3 ((fG p x y).map aa)):=fun p hp hz=>by
  have:=aEy p x y J J (fun z hh=>bb (hz z hh) ai) J (fun _=>⟨adx J (fun z hh=>bb (hz z hh) ai) J,adx (by rw [zV];omega) (fun z hh=>bb (aDL J hz ai zp z hh) ai) J⟩) (fun e=>absurd e bj)
  rwa [arH] at this
 have hP0:=hP (bn po 0) J (hN 0)
 have hP1:=hP (bn po 1) J (hN 1)
 have hP2:=hP (bn po 2) J (hN 2)
 have hP3:=hP (aZ po) J hW
 refine aR Tryz.func54 (ht:=(iF agb rfl)) ?_
 have eW:True:=trivial
 have axf:True:=trivial
 have asx:True:=trivial
 have iH:True:=trivial
 refine dk ?_
 refine cp au (hOx) ?_
 refine eQ ?_
 refine cp au (hOy) ?_
 refine iY ?_
 refine ah (aM (v:=false) rfl rfl ((rfl)) rfl) (.move _) ?_
 refine ah (aM (v:=false) rfl rfl ((rfl)) rfl) (.not rfl) ?_
 refine ah rfl (.m9 rfl ((rfl))) ?_
 refine ao ?_
 refine ah (aM (v:=false) rfl rfl ((rfl)) rfl) dE ?_
 refine ah (aM (v:=false) rfl rfl ((rfl)) rfl) dE ?_
 refine bM (aM (v:=false) rfl rfl ((rfl)) rfl) (.cons cG (.cons cG .nil)) (mG lo hi J) ?_
 refine ah (aM (v:=false) rfl rfl ((rfl)) rfl) (.bin rfl rfl rfl) ?_
 refine ah rfl (.m9 rfl ((rfl))) ?_
 refine aH ?_
 refine aL rfl ?_ ?_<;>intro aLg h46
 ·first | exact hcm h46 | omega
 ·refine bC ?_
  refine cp aO (ahB d (aA d a b) po R hR h) ?_
  refine aB ?_
  refine bc ?_
  refine ay ?_
  refine bI (b:=_) rfl ai ?_
  refine iY ?_
  refine cp gM (hP0) ?_
  refine bh ?_
  refine bc ?_
  refine ay ?_
  refine bI (b:=_) rfl ai ?_
  refine iY ?_
  refine cp gM (hP1) ?_
  refine bh ?_
  refine bc ?_
  refine ay ?_
  refine bI (b:=_) rfl ai ?_
  refine iY ?_
  refine cp gM (hP2) ?_
  refine bh ?_
  refine bc ?_
  refine ay ?_
  refine bI (b:=_) rfl ai ?_
  refine iY ?_
  refine cp gM (hP3) ?_
  refine bh ?_
  refine bc ?_
  refine ay ?_
  refine dp (b:=_) rfl ai ?_
  refine nc ?_
  refine ah rfl cu ?_
  refine ah rfl (.bin rfl rfl (aBb J)) ?_
  refine aB ?_
  refine jm ((az.cell 17 rfl (fun Z μ w cs h=>ax5 83 3 _ _ Z μ w cs h)).trans (az.ov _ 83 3 rfl)) ?_
  refine dI (fun(m:Nat) L=>(((((((((St.mk L.slot (hp [(3,⟨3,[.agg [ae d,.list 3 ((aA d a b).map aa),.list 12 (po.map bm)]],true⟩),(4,⟨3,[aa lo],true⟩),(5,⟨3,[aa hi],true⟩),(6,⟨3,[.agg [.v (.int .i64 0),.v (.slice none 0 0),.v (.slice none 0 0)]],true⟩),(8,⟨3,[aa x],true⟩),(9,⟨3,[aa (b-a)],true⟩),(11,⟨3,[aa y],true⟩),(12,⟨3,[aa (b-a)],true⟩),(14,⟨4,[.agg [.list 3 ((fG (bn po 0) x y).map aa),.list 3 ((fG (bn po 1) x y).map aa),.list 3 ((fG (bn po 2) x y).map aa),.list 3 ((fG (aZ po) x y).map aa)]],true⟩),(17,⟨3,[.agg [ae d,.ref 83 3 0 m,.v (.slice none 0 0)]],true⟩),(83,⟨3,((aA d lo hi).take m).map aa,true⟩)])).put (some 3) (.aF 3 3 0 0)).put (some 4) (.aF 4 3 0 0)).put (some 5) (.aF 5 3 0 0)).put (some 6) (.aF 6 3 0 0)).put (some 14) (.aF 14 4 0 0)).put (some 17) (.aF 17 3 0 0)).put (some 67) (ae (2*(d+1)))).put (some 68) (ae m))) (fun m=>m<=2*(d+1)) (fun m=>2*(d+1)-m) 0 (bS _) ?_
  rintro m L2 hm
  refine ay ?_
  refine aL rfl ?_ ?_<;>intro aqs h69
  ·have fc:m<2*(d+1):=by omega
   have mD:((aA d lo hi).take m).length=m:=by rw [fQ];omega
   have eW:(((aA d lo hi).take m).map aa).take m=((aA d lo hi).take m).map aa:=cE jQ
   refine ao4 ?_
   refine aL rfl ?_ ?_<;>intro aL2 h75
   ·have hmd:¬m<=d:=by omega
    have asx:=aDQ (a:=lo) (b:=hi) fc hmd
    refine a7 ?_
    refine aY 6 al ?_
    refine aB ?_
    first | refine cp au zw ?_ | refine cp au hAh ?_
    refine ao ?_
    first | refine bO rfl (.app (news:=[aa lo]) rfl rfl rfl rfl rfl jQ (.inl rfl) ai dY dY kT dC rfl kX (.inl ⟨82,0,_,rfl,by decide,rfl,rfl,by simp,rfl,by simp [aK,an.pure]⟩) bq bq ai) ?_ | refine bO rfl (.app (news:=[aa hi]) rfl rfl rfl rfl rfl jQ (.inl rfl) ai dY dY kT dC rfl kX (.inl ⟨82,0,_,rfl,by decide,rfl,rfl,by simp,rfl,by simp [aK,an.pure]⟩) bq bq ai) ?_
    refine a7 ?_
    refine bR ((az.kill _ 19).trans (az.kill _ 82)) ?_
    refine ah rfl cu ?_
    refine aQ ?_
    exact lU (m+1) J
   ·have hmd:m<=d:=by omega
    have axf:=aGO (a:=lo) (b:=hi) fc hmd
    refine aH ?_
    refine aY 6 al ?_
    refine aB ?_
    first | refine cp au zw ?_ | refine cp au hAh ?_
    refine ao ?_
    first | refine bO rfl (.app (news:=[aa lo]) rfl rfl rfl rfl rfl jQ (.inl rfl) ai dY dY kT dC rfl kX (.inl ⟨82,0,_,rfl,by decide,rfl,rfl,by simp,rfl,by simp [aK,an.pure]⟩) bq bq ai) ?_ | refine bO rfl (.app (news:=[aa hi]) rfl rfl rfl rfl rfl jQ (.inl rfl) ai dY dY kT dC rfl kX (.inl ⟨82,0,_,rfl,by decide,rfl,rfl,by simp,rfl,by simp [aK,an.pure]⟩) bq bq ai) ?_
    refine a7 ?_
    refine bR ((az.kill _ 19).trans (az.kill _ 82)) ?_
    refine ah rfl cu ?_
    refine aQ ?_
    exact lU (m+1) J
  ·obtain rfl:m=2*(d+1):=by omega
   have hEk:(aA d lo hi).take (2*(d+1))=(aA d lo hi):=cE J
   simp only [hEk]
   refine eQ ?_
   refine jm ((az.cell 17 rfl (fun Z μ w cs h=>vU 117 12 _ _ Z μ w cs h)).trans (az.ov _ 117 12 rfl)) ?_
   refine dI (fun(j:Nat) L=>(((((((((St.mk L.slot (hp [(3,⟨3,[.agg [ae d,.list 3 ((aA d a b).map aa),.list 12 (po.map bm)]],true⟩),(4,⟨3,[aa lo],true⟩),(5,⟨3,[aa hi],true⟩),(6,⟨3,[.agg [.v (.int .i64 0),.v (.slice none 0 0),.v (.slice none 0 0)]],true⟩),(8,⟨3,[aa x],true⟩),(9,⟨3,[aa (b-a)],true⟩),(11,⟨3,[aa y],true⟩),(12,⟨3,[aa (b-a)],true⟩),(14,⟨4,[.agg [.list 3 ((fG (bn po 0) x y).map aa),.list 3 ((fG (bn po 1) x y).map aa),.list 3 ((fG (bn po 2) x y).map aa),.list 3 ((fG (aZ po) x y).map aa)]],true⟩),(17,⟨3,[.agg [ae d,.ref 83 3 0 (2*(d+1)),.ref 117 12 0 j]],true⟩),(83,⟨3,(aA d lo hi).map aa,true⟩),(117,⟨12,((nS po x y).take j).map bm,true⟩)])).put (some 3) (.aF 3 3 0 0)).put (some 4) (.aF 4 3 0 0)).put (some 5) (.aF 5 3 0 0)).put (some 6) (.aF 6 3 0 0)).put (some 14) (.aF 14 4 0 0)).put (some 17) (.aF 17 3 0 0)).put (some 88) (ae (d+1))).put (some 89) (ae j))) (fun j=>j<=d+1) (fun j=>d+1-j) 0 (bS _) ?_
   rintro j L3 hj
   refine ay ?_
   refine aL rfl ?_ ?_<;>intro aFX h90
   ·have dL:j<d+1:=by omega
    have hpj:=apI h lH ji kW pG (j:=j) J
    have mD:((nS po x y).take j).length=j:=by rw [fQ,aer];omega
    have eW:(((nS po x y).take j).map bm).take j=((nS po x y).take j).map bm:=cE jQ
    have iH:(nS po x y).take j++[wc po x y j]=(nS po x y).take (j+1):=by
     rw [<-aGi (x:=x) (y:=y) (show j<po.length by omega),v8,bE,bY (by rw [aer];omega)];rfl
    have hcw:rl ((fG (aZ po) x y).getD j 0)<=500000000:=by
     rw [aj6 h ji J]
     exact bb (agG (R:=100000) zp hyr h6 J fun i=>gQ ai hW i) ai
    have aCK:rl ((fG (bn po 0) x y).getD j 0)<=500000000:=by
     rw [aiJ h ji 0 J]
     exact bb (agG (R:=100000) zp hyr h6 J fun i=>gQ ai (hN 0) i) ai
    have aEG:rl ((fG (bn po 1) x y).getD j 0)<=500000000:=by
     rw [aiJ h ji 1 J]
     exact bb (agG (R:=100000) zp hyr h6 J fun i=>gQ ai (hN 1) i) ai
    have aGJ:rl ((fG (bn po 2) x y).getD j 0)<=500000000:=by
     rw [aiJ h ji 2 J]
     exact bb (agG (R:=100000) zp hyr h6 J fun i=>gQ ai (hN 2) i) ai
    have hFP:ax ak 112 [.agg [aa ((fG (bn po 0) x y).getD j 0),aa ((fG (bn po 1) x y).getD j 0),aa ((fG (bn po 2) x y).getD j 0),aa ((fG (aZ po) x y).getD j 0)]] (bm (wc po x y j)):=ae4 _ _ _ _ 500000000 ai aCK aEG aGJ hcw hpj
    refine bh ?_
    refine aY 25 al ?_
    refine aaJ ?_
    have aKD:=aBu ((fG (bn po 0) x y).getD j 0) ((fG (bn po 1) x y).getD j 0) ((fG (bn po 2) x y).getD j 0) ((fG (aZ po) x y).getD j 0)
    refine cp aO (hFP) ?_
    refine ao ?_
    refine bO rfl (.app (news:=[bm (wc po x y j)]) rfl rfl rfl rfl rfl jQ (.inl rfl) ai kj kj pz mO cs abO (.inl ⟨116,0,_,rfl,by decide,rfl,rfl,by simp,rfl,by simp [aK,bz.pure]⟩) bq bq ai) ?_
    refine a7 ?_
    refine bR (az.kill _ 116) ?_
    refine ah rfl cu ?_
    refine aQ ?_
    exact qp
   ·obtain rfl:j=d+1:=by omega
    have hEp:(nS po x y).take (d+1)=(nS po x y):=cE (by rw [aer];omega)
    refine dk ?_
    simp only [hEp]
    exact qE [83,117] rfl rfl rfl cs (cr cs rfl) ob (.agg (.cons (.pure rfl) (.cons (dH (l:=aA d lo hi) an rfl rfl jb.symm) (.cons (dH (l:=nS po x y) bz rfl rfl (by rw [aer];omega)) .nil)))) rfl (.pure rfl)
theorem aEX {P:Program} {L:St} {a:Nat} {T:TypeId} {b sz t:Nat} {x y x' y':LV} {m:Bool} {n:Nat} {ag:Bool} {blk:bA} (h:L.slot a=.aF b sz 0 0) (hb:L.heap b=some ⟨sz,[x],m⟩)
  (hx:x.av=sz) (wh:x.at 0 n ag=some x) (hT:bK P T n ag) (hi:wy L.heap 0 x y) (h':L.slot t=x') (nn:wy L.heap 0 x' y') (gJ:L.heap 0=some blk) (hm:blk.mt=true) (hp:aK blk.vals=true):ab5 P [.cell a T,.tmp t] L (.a9 [y,y']) blk :=
 ⟨[x,x'],[y,y'],L.heap,.cons ⟨b,sz,0,0,_,x,n,ag,h,hb,rfl,rfl,hx,wh,hT⟩ (.cons h' .nil),b9.le_refl _,.cons hi (.cons nn .nil),gJ,hm,hp,rfl⟩
def bsj (f:Rat) (v:List Rat) (j:Nat):List Rat:=(fe v.length).map fun i=>if j<i then v.getD (i-1) 0+f*(v.getD i 0-v.getD (i-1) 0) else v.getD i 0
theorem apg (f:Rat) (v:List Rat) (j:Nat):(bsj f v j).length=v.length:=by simp [bsj]
theorem av5 (f:Rat) (v:List Rat) (j i:Nat) (h:i<v.length):(bsj f v j).getD i 0=if j<i then v.getD (i-1) 0+f*(v.getD i 0-v.getD (i-1) 0) else v.getD i 0:=by
 unfold bsj
 rw [bE,gZ,List.getElem?_range h]
 rfl
theorem amP {p q:List Rat} (h:p.length=q.length) (hg:∀ i,i<p.length->p.getD i 0=q.getD i 0):p=q:=by
 refine yf h fun i h1 h2=>?_
 have:=hg i h1
 rwa [bE,bE,bY h1,bY h2] at this
def bfi (F:Rat->Rat) (args v:List Rat):Nat->List Rat
 | 0=>v
 | r+1=>bsj (F (args.getD r 0)) (bfi F args v r) r
theorem afk (F:Rat->Rat) (args v:List Rat):∀ r,(bfi F args v r).length=v.length
 | 0=>rfl
 | r+1=>by rw [bfi,apg,afk F args v r]
def zF (Q R:Nat):Nat->Nat
 | 0=>R
 | r+1=>3*zF Q R r+Q+2
theorem atb {Q R:Nat} (hR:1<=R):∀ r,1<=zF Q R r
 | 0=>hR
 | r+1=>by have:=atb (Q:=Q) hR r;unfold zF;omega
theorem avb {Q R:Nat} (hR:1<=R):∀ {r s},r<=s->zF Q R r<=zF Q R s
 | r,0,h=>by
         obtain rfl:r=0:=by omega
         exact bF _
 | r,s+1,h=>by
  rcases kD s r with g | g
  ·obtain rfl:r=s+1:=by omega
   exact bF _
  ·have:=avb (Q:=Q) hR (r:=r) (s:=s) g
   show _<=3*zF Q R s+Q+2
   omega
def zu (d:Nat) (a b:Rat) (v args:List Rat):Rat:=(bfi (fun t=>(t-a)/(b-a)) args v d).getD d 0
open anJ in
theorem aG7 (p:List Rat) (hl:p.length<=1048576) (jn:∀ x∈p,rl x<=274877906944):pC ak 142 [.list 3 (p.map aa)] (.ref 1 3 0 p.length) [⟨3,p.map aa,true⟩]:=by
 refine fnO Tryz.func142 ?_
 have iH:True:=trivial
 have eW:True:=trivial
 refine bB ?_
 refine dF rfl rfl (.lf (n:=0) (m:=p.length) ml ml om om om) ?_
 refine bw ?_
 refine dI (fun(k:Nat) L=>(((((St.mk L.slot (hp [(8,⟨3,(p.take k).map aa,true⟩)])).put (some 3) (.ref 8 3 0 k)).put (some 9) (.list 3 (p.map aa))).put (some 10) (ae p.length)).put (some 11) (ae k))) (fun k=>k<=p.length) (fun k=>p.length-k) 0 (bS _) ?_
 rintro k L1 hk
 refine ay ?_
 refine aL rfl ?_ ?_<;>intro abL h12
 ·have lS:k<p.length:=by omega
  have hrk:=jn _ (eU lS)
  have hA:=fA (p.getD k 0) 0 (by rw [show rl 0=1 from rfl];omega)
  rw [jC] at hA
  have iH:=acX (l:=p) lS
  have eW:((p.take k).map aa).take k=(p.take k).map aa:=cE aai
  refine eQ ?_
  refine ah rfl rE ?_
  refine cp au (hA) ?_
  refine ao ?_
  refine bO rfl asL ?_
  refine aB ?_
  refine bR ((az.kill _ 5).trans (az.kill _ 19)) ?_
  refine ah rfl cu ?_
  refine aQ ?_
  exact yb
 ·obtain rfl:k=p.length:=by omega
  have hE:p.take p.length=p:=mQ
  refine bw ?_
  rw [hE]
  exact aga rfl rfl (aP an _)
theorem aap (p:List Rat) (hl:p.length<=1048576) (jn:∀ x∈p,rl x<=274877906944):ax ak 142 [.list 3 (p.map aa)] (.list 3 (p.map aa)):=amU (aG7 p hl jn) (aP an _) aW
open ig in
theorem au0 (a b t:Rat) (h:rl a+rl b+rl t<=100000) (cY:a<b):ax ak 281 [aa a,aa b,aa t] (aa ((t-a)/(b-a))):=by
 have h1:=fD t a
 have h2:=fD b a
 have hQ:ax ak 180 [aa (t-a),aa (b-a)] (.a9 [aa ((t-a)/(b-a)),iL 0]):=by
  have:=sH (t-a) (b-a) J
  rwa [if_neg dz] at this
 refine aR Tryz.func281 ?_
 refine bB ?_
 refine eZ 11 [9] al ?_
 refine aH ?_
 refine cp au (oW t a J) ?_
 refine aH ?_
 refine cp au (oW b a J) ?_
 refine cp au (hQ) ?_
 refine eQ ?_
 exact jJ
namespace axq
theorem aw {p q:Prop} (k:q) (e:p=q:=by simp only [e1,e2,e3,e4,p1,p2,p3,q1,q2,q3,l1,t0,t1,r1,r2,r3,r4,Nat.zero_add,Nat.reduceMul,Nat.reduceAdd,b1,b2,b3,b4,b5,b6,i1,i2,i3,i4,i5,i6,Nat.reduceBEq,jb,cq,iZ,qA,afy,List.length_map,cn,List.set_cons_zero,List.set_cons_succ,Nat.reduceEqDiff,reduceIte,if_true,if_false,cB,dB,aG aX,aG bz,aG an,cA,cC,LV.kill,bH];exact rfl):p:=e.mpr k
end axq
open axq in
theorem azs (d:Nat) (a b t:Rat) (hd:d<=6) (hT:rl a<=100) (hT1:rl b<=100) (ht:rl t<=1000) (h1:a<=t) (h2:t<b):ax ak 220 [.list 3 ((aA d a b).map aa),ae d,aa t] (.a9 [ae d,iL 0]):=by
 have jb:=gW d a b
 have cq:=yN d a b
 have iZ:=abo d a b
 have c1:¬gp t a<0:=fun e=>by have:=zL.2 h1;omega
 have c2:¬gp t b > 0:=fun e=>by have:=sv.1 e;grind
 have qA:((2*(d+1):Nat):Int).toNat-1=2*(d+1)-1:=by omega
 have afy:(((2*(d+1):Nat):Int)-1).toNat=2*(d+1)-1:=by omega
 have c3:gp t b<0:=aen.2 h2
 refine aR Tryz.func220 (ht:=(iF rfl rfl)) ?_
 refine bB ?_
 refine aY 22 al ?_
 refine aB ?_
 refine ah (aM (v:=false) rfl rfl ((beq_eq_false_iff_ne.2 J)) rfl) dE ?_
 refine ah (aM (v:=false) rfl rfl ((beq_eq_false_iff_ne.2 J)) rfl) (.move _) ?_
 refine ah (aM (v:=false) rfl rfl ((beq_eq_false_iff_ne.2 J)) rfl) wY ?_
 refine ah (aM (v:=false) rfl rfl ((beq_eq_false_iff_ne.2 J)) rfl) dE ?_
 try simp only [t1,cn,cq]
 refine bM (aM (v:=false) rfl rfl ((beq_eq_false_iff_ne.2 J)) rfl) (.cons cG (.cons cG .nil)) (mG t a J) ?_
 refine ah (aM (v:=false) rfl rfl ((beq_eq_false_iff_ne.2 J)) rfl) (.bin rfl rfl rfl) ?_
 refine ah rfl (.m9 rfl ((beq_eq_false_iff_ne.2 J))) ?_
 refine ao ?_
 refine ah (aM (v:=false) rfl rfl ((decide_eq_false c1)) rfl) dE ?_
 refine ah (aM (v:=false) rfl rfl ((decide_eq_false c1)) rfl) (.move _) ?_
 refine ah (aM (v:=false) rfl rfl ((decide_eq_false c1)) rfl) (.move _) ?_
 refine ah (aM (v:=false) rfl rfl ((decide_eq_false c1)) rfl) pM ?_
 refine ah (aM (v:=false) rfl rfl ((decide_eq_false c1)) rfl) (.bin rfl rfl (afC J J)) ?_
 refine ah (aM (v:=false) rfl rfl ((decide_eq_false c1)) rfl) wY ?_
 refine ah (aM (v:=false) rfl rfl ((decide_eq_false c1)) rfl) dE ?_
 try simp only [t1,cn,jb,iZ,afy]
 refine bM (aM (v:=false) rfl rfl ((decide_eq_false c1)) rfl) (.cons cG (.cons cG .nil)) (mG t b J) ?_
 refine ah (aM (v:=false) rfl rfl ((decide_eq_false c1)) rfl) (.bin rfl rfl rfl) ?_
 refine ah rfl (.m9 rfl ((decide_eq_false c1))) ?_
 refine aH ?_
 refine dp (b:=_) rfl (decide_eq_false c2) ?_
 refine df ?_
 refine dI (fun(i:Nat) L=>(((((St.mk L.slot (hp [(5,⟨3,[aa t],true⟩)])).put (some 0) (.list 3 ((aA d a b).map aa))).put (some 5) (.aF 5 3 0 0)).put (some 8) (ae 0)).put (some 9) (ae i))) (fun i=>i<=d) (fun i=>d-i) 0 (bS _) ?_
 rintro i L1 hi
 have hA:i<d->¬gp ((aA d a b).getD i 0) ((aA d a b).getD (i+1) 0)<0:=fun g=>by
  rw [im _ _ _ _ J,im _ _ _ _ J,if_pos J,if_pos J]
  exact fun e=>by have:=zL.2 (show a<=a by grind);omega
 have hB:i=d->gp ((aA d a b).getD i 0) ((aA d a b).getD (i+1) 0)<0:=fun g=>by
  rw [im _ _ _ _ J,im _ _ _ _ J,if_pos J,if_neg J]
  exact aen.2 dz
 have tX:=mw (d:=d) hT hT1
 have gk:=tX _ (eU (p:=aA d a b) (i:=i) J)
 have mW:=tX _ (eU (p:=aA d a b) (i:=i+1) J)
 refine aB ?_
 refine ah rfl cu ?_
 refine a7 ?_
 refine bI (b:=_) rfl (decide_eq_true (by first | omega | (simp only [eD,jb];omega))) ?_
 refine ay ?_
 refine aY 11 al ?_
 refine ay ?_
 refine ah rfl cu ?_
 refine aH ?_
 try simp only [t1,cn]
 refine cp au (mG ((aA d a b).getD i 0) ((aA d a b).getD (i+1) 0) J) ?_
 refine aQ ?_
 refine aL rfl ?_ ?_<;>intro ab9 h49
 ·have dq:i<d:=by
   rcases kD i d with g | g
   ·exact g
   ·have:=hB J
    omega
  refine ay ?_
  refine ah rfl cu ?_
  refine aQ ?_
  exact lK
 ·obtain rfl:i=d:=by
   rcases kD i d with g | g
   ·have:=hA g
    omega
   ·omega
  have aHl:(aA i a b).getD (i+1) 0=b:=by rw [im _ _ _ _ J,if_neg J]
  refine bB ?_
  refine aY 8 al ?_
  refine aQ ?_
  refine ah rfl cu ?_
  refine aH ?_
  try simp only [t1,cn,aHl]
  refine cp au (mG t b J) ?_
  refine aQ ?_
  refine aL rfl ?_ ?_<;>intro awJ h58
  ·refine df ?_
   exact aak
  ·omega
structure Q4 where
 x:Rat
 y:Rat
 z:Rat
 w:Rat
instance:Inhabited Q4:=⟨⟨0,0,0,0⟩⟩
def cy (q:Q4):LV:=.agg [aa q.x,aa q.y,aa q.z,aa q.w]
theorem dD:gY cy 12 true:=⟨fun q=>by simp [cy,LV.av,cL,an.av],fun _=>rfl,fun q=>by simp [cy,LV.pure,aK,an.pure]⟩
theorem ur (b:Nat) (q:Q4):(cy q).kill b=cy q:=LV.nz b _ (dD.pure q)
def nB (R:Nat) (q:Q4):Prop:=rl q.x<=R/\rl q.y<=R/\rl q.z<=R/\rl q.w<=R
def pol (d:Nat) (a b:Rat) (C:List Q4) (args:List Rat):Q4:=⟨zu d a b (C.map (·.x)) args,zu d a b (C.map (·.y)) args,zu d a b (C.map (·.z)) args,zu d a b (C.map (·.w)) args⟩
theorem aCV {C:List Q4} {i:Nat} (h:i<C.length):C.getD i default∈C:=by
 rw [bE,bY h];exact qx h
theorem agH {C:List Q4} {i:Nat} (h:i<C.length) (f:Q4->Rat):(C.map f).getD i 0=f (C.getD i default):=by
 rw [bE,gZ,bE,bY h];rfl
theorem agV {A B:List Rat} {i:Nat} (hl:A.length=B.length) (h:i<A.length):(A.take i++B.drop i).set i (A.getD i 0)=A.take (i+1)++B.drop (i+1):=by
 rw [List.set_append_right _ _ (by rw [fQ];omega),fQ,Nat.min_eq_left J,sM,<-acX h,an0]
 congr 1
 rw [xd (by omega:i<B.length),List.set_cons_zero];rfl
theorem ail {A B:List Rat} {i:Nat} (hl:A.length=B.length) (h:i<=A.length):(A.take i++B.drop i).length=A.length:=by
 rw [List.length_append,fQ,List.length_drop];omega
theorem ahR {A B:List Rat} {i:Nat} (hl:A.length=B.length) (h:A.length<=i):A.take i++B.drop i=A:=by
 rw [cE h,kB J,qo]
theorem agL {P:Program} {dst:Option Tmp} {ty:TypeId} {pos:String} {af:Array Edge} {g:Option (Nat × Bool)} {rest:List Oper} {L:St} {K:St->Prop} {f:FuncId} {xs:Array Operand} {zx:Array TypeId} {args:List LV} {r:LV} {ops:Array Oper} (b:Nat) {blk blk':bA} (hg:eE ops L ⟨dst,.call ⟨.value (.func f),xs,zx⟩,ty,pos,af,g⟩ true)
  (hb:L.heap b=some blk) (hm:blk.mt=true) (hp:aK blk.vals=true) (ha:yt L.heap b (xs.toList.map L.ev) args) (hn:Names b (xs.toList.map L.ev)) (hk:uv P f blk args r blk')
  (ta:blk'.mt=true) (l6:aK blk'.vals=true) (hr:∀ g,r.b7 g=r) (k:opsL P false ops rest ((L.bU b (some blk')).put dst r) K) :
  opsL P false ops (⟨dst,.call ⟨.value (.func f),xs,zx⟩,ty,pos,af,g⟩ :: rest) L K :=
 acy b hg hb hm hp ha hn hk ta l6 (by rw [hr];exact k)
instance:EC ak 190 cy 12 true ⟨0,0,0,0⟩:=⟨dD,abl,kF⟩
namespace atQ
theorem aw {p q:Prop} (k:q) (e:p=q:=by simp only [e1,e2,e3,e4,p1,p2,p3,q1,q2,q3,l1,t0,t1,r1,r2,r3,r4,Nat.zero_add,Nat.reduceMul,Nat.reduceAdd,b1,b2,b3,b4,b5,b6,i1,i2,i3,i4,i5,i6,Nat.reduceBEq,cn,List.set_cons_zero,List.set_cons_succ,Nat.reduceEqDiff,reduceIte,if_true,if_false,cB,dB,aG aX,aG bz,aG an,cA,cC,LV.kill,bH,List.length_map];exact rfl):p:=e.mpr k
end atQ
open atQ in
theorem au9 (f:Nat) (cap:List LV) (fx:aK cap=true) (jB:∀ x∈cap,x.av=1/\x.isAgg=false) (pr:Rat->Bool) (l:List Rat) (hl:l.length<=1048576) (hf:∀ x∈l,ax ak f ([aa x]++cap) (bL (pr x))):ax ak 148 [.list 3 (l.map aa),.bQ f cap] (iL (xq pr l)):=by
 refine aR Tryz.func148 ?_
 refine df ?_
 refine dI (fun(i:Nat) L=>((((((St.mk L.slot (hp [])).put (some 0) (.list 3 (l.map aa))).put (some 1) (.bQ f cap)).put (some 6) (.list 3 (l.map aa))).put (some 7) (ae l.length)).put (some 8) (ae i))) (fun i=>i<=l.length/\∀ j,j<i->pr (l.getD j default)=false) (fun i=>l.length-i) 0 ⟨bS _,fun j hj=>absurd hj (Nat.not_lt_zero j)⟩ ?_
 rintro i L1 ⟨hi,h0⟩
 refine ay ?_
 refine aL rfl ?_ ?_<;>intro wg h9
 ·have dq:i<l.length:=by omega
  have hc:=hf _ (eU dq)
  refine iY ?_
  refine eN [] rfl rfl (.bQ (f:=f) (cap:=cap) (args:=[aa (l.getD i 0)]) rfl (.cons cG .nil) ⟨fx,jB⟩ hc.1 ai (fun _ h=>by cases h)) (hc.2 _) ?_
  refine aH ?_
  refine aL rfl ?_ ?_<;>intro vT sa
  ·have hV:xq pr l=(i:Int):=ajm dq h0 (by first | exact vT | exact sa)
   refine bw ?_
   rw [hV]
   exact jL
  ·have hn:∀ j,j<i+1->pr (l.getD j default)=false:=fun j hj=>by
    rcases ae8.1 hj with e | rfl
    ·exact h0 j e
    ·first | exact vT | (simpa using sa)
   refine aB ?_
   refine ah rfl cu ?_
   refine aQ ?_
   exact lU (i+1) ⟨J,hn⟩
 ·obtain rfl:i=l.length:=by omega
  refine bC ?_
  rw [aw3 h0]
  exact jL
open ig in
theorem aCx (a x:Rat) (h:rl a+rl x<=100000):ax ak 149 [aa x,.ba (aa a)] (bL (decide (gp x a > 0))):=by
 refine aR Tryz.func149 ?_
 refine bh ?_
 refine cp au (mG x a J) ?_
 refine a7 ?_
 exact jL
open ig in
theorem aDW (a x:Rat) (h:rl a+rl x<=100000):ax ak 150 [aa x,.ba (aa a)] (bL (decide (gp x a>=0))):=by
 refine aR Tryz.func150 ?_
 refine bh ?_
 refine cp au (mG x a J) ?_
 refine a7 ?_
 exact jL
def kx (d:Nat) (T:Rat) (w9:List Rat) (E:Rat):List Rat:=aV (d+1) T++(w9++aV (d+1) E)
structure aLK (d:Nat) (T:Rat) (w9:List Rat) (E:Rat):Prop where
 btw:∀ x∈w9,T<x/\x<E
 srt:∀ i,i+1<w9.length->w9.getD i 0<=w9.getD (i+1) 0
 tms:∀ x∈w9,iR w9 x w9.length<=d
 len:w9.length<=2
 sz:∀ x∈w9,rl x<=64
open ig in
theorem aCw (d:Nat) (kn:List Rat) (po:List ar) (R:Nat) (hR:R<=1000000) (h:rT po d R):ax ak 55 [.agg [ae d,.list 3 (kn.map aa),.list 12 (po.map bm)]] (fY (xH (po.map (·.p)))):=by
 have hl:=h.hl
 have hd:=h.hd
 have h6:=h.h6
 have hpb:∀ i,i<(po.map (·.p)).length->cP R ((po.map (·.p)).getD i default):=fun i hi=>by
  rw [eD] at hi
  rw [aoQ]
  exact(h.ok _ (tG hi)).1
 have fx:LV.pure (.agg [ae d,.list 3 (kn.map aa),.list 12 (po.map bm)])=true:=by simp [LV.pure,aK,aP an,aP bz]
 refine aR Tryz.func55 (ht:=(fun r=>LV.cQ r _ (og.pure _))) ?_
 refine bB ?_
 refine cp aO (aIl d kn po R hR h) ?_
 refine cp aO (auM (po.map (·.p)) jQ jQ R hR hpb) ?_
 refine eQ ?_
 exact aeF
def ksF (l:List Int) (j:Nat):Rat:=((1+ti l j 3:Int):Rat)/((1+ti l (lM l j) 2:Int):Rat)
def ksJ (l:List Int) (d:Nat) (k:List Rat) (j:Nat):Nat:=if k.length=d+1 then j else lM l j
def ksB (l:List Int) (d:Nat) (k:List Rat) (t:Rat) (j:Nat):Prop:=k.length=d+1\/0<ti l j 3\/t=k.getD (k.length-d) 0
instance (l:List Int) (d:Nat) (k:List Rat) (t:Rat) (j:Nat):Decidable (ksB l d k t j):=by unfold ksB;infer_instance
def kiV (l:List Int) (d:Nat):Nat->List Rat->Rat->Nat->List Rat × Rat × Nat
 | 0,k,t,j=>(k,t,j)
 | n+1,k,t,j=>if ksB l d k t j then kiV l d n (k++[t+ksF l (ksJ l d k j)]) (t+ksF l (ksJ l d k j)) (lM l (lM l (ksJ l d k j))) else kiV l d n (k++[t]) t (ksJ l d k j)
def kiN (l:List Int) (k n:Nat):Nat:=(ti l (lM l k) ((n+1:Nat):Int)).toNat
def kiR (l:List Int) (d k n:Nat):List Rat × Rat × Nat:=kiV l d (kiN l k n) (aV (d+1) (dtV l k)) (dtV l k) (lM l (lM l k))
def knX (l:List Int) (d k n:Nat):List Rat:=(kiR l d k n).1++aV (d+1) ((kiR l d k n).2.1+1)
structure kiI (l:List Int) (d N c:Nat) (K:List Rat) (t:Rat) (j:Nat) (R:List Rat × Rat × Nat):Prop where
 hj:j<=500
 hl:K.length+c=d+1+N
 ht:rl t+3*c<=1+3*N
 hK:∀ x∈K,rl x<=7
 hR:kiV l d c K t j=R
theorem aHr {K:List Rat} {t:Rat} {R:Nat} (h:∀ x∈K,rl x<=R) (ht:rl t<=R):∀ x∈K++[t],rl x<=R:=fun x hx=>by
 rcases oO.1 hx with h1 | h1
 ·exact h x h1
 ·rw [fP.1 h1];exact ht
theorem aDF {l:List Int} {d j:Nat} {K:List Rat} (hl:l.length<=500) (hj:j<=500):ksJ l d K j<=500:=by
 unfold ksJ;split
 ·exact hj
 ·exact azR hl hj
theorem kiI.no {l:List Int} {d N c:Nat} {K:List Rat} {t:Rat} {j:Nat} {R:List Rat × Rat × Nat} (hl:l.length<=500) (hN:N<=2) (h:kiI l d N (c+1) K t j R) (hb:¬ksB l d K t j) :
  kiI l d N c (K++[t]) t (ksJ l d K j) R:=by
 have h2:=h.ht
 have h3:=h.hl
 have h4:=h.hR
 rw [kiV,if_neg hb] at h4
 exact⟨aDF hl h.hj,by simp;omega,J,aHr h.hK J,h4⟩
def a5 (r:List ar):LV:=.list 12 (r.map bm)
theorem cN:gY a5 1 false:=⟨fun _=>rfl,fun _=>rfl,fun p=>cd bz 12 p⟩
theorem prZ:cF ak 62 (a5 []):=⟨Tryz.t62,_,by kernel_rfl,rfl,rfl,fun _ _ _=>aa6 12⟩
theorem nW (r:List ar) (b:Nat):(a5 r).kill b=a5 r:=LV.nz b _ (cN.pure r)
instance:EC ak 62 a5 1 false []:=⟨cN,prZ,uT⟩
theorem aIM (d sz:Nat) (x y z u:LV) (Z:Nat->Prop) (μ:Nat->Option Nat) (w:World) (cs:List Value) (h:aJ Z μ w (.agg [x,y,z,u,.v (.slice none 0 0)]) cs):aJ Z μ w (.agg [x,y,z,u,.ref d sz 0 0]) cs:=by
 simp only [aJ,cj] at h ⊢
 obtain⟨c1,c2,e1,e2,e3,c3,c4,e4,e5,e6,c5,c6,e7,e8,e9,c7,c8,g1,g2,g3,c9,c10,g4,g5,g6,g7⟩:=h
 exact⟨c1,c2,e1,e2,e3,c3,c4,e4,e5,e6,c5,c6,e7,e8,e9,c7,c8,g1,g2,g3,c9,c10,g4,g5,.inl ⟨g6.1,trivial⟩,g7⟩
def gpV (w:Bool) (i j:Nat) (q:ar):ar :=
 bif w then q else⟨⟨((2*(i:Int):Int):Rat)+q.p.x*(((1:Int):Rat)/((8:Int):Rat)),((2*(j:Int):Int):Rat)+q.p.y*(((1:Int):Rat)/((8:Int):Rat)),q.p.z*(((1:Int):Rat)/((4:Int):Rat))⟩,q.w⟩
def srV (l:List Int) (w:Bool) (i:Nat):Nat->Nat->Nat->List ar
 | _,0,_=>[]
 | j,c+1,k=>gpV w i j (dpV l k) :: srV l w i (j+1) c (dpK l k)
def ssV (l:List Int) (w:Bool) (b:Nat):Nat->Nat->Nat->List (List ar)
 | _,0,_=>[]
 | i,c+1,k=>srV l w i 0 b k :: ssV l w b (i+1) c (dqK l k b)
def sU (l:List Int) (k n:Nat):Nat:=cD l k n
def sV (l:List Int) (k n:Nat):Nat:=cD l (lM l k) n
def sJ2 (l:List Int) (k:Nat):Nat:=lM l (lM l k)
def sJ3 (l:List Int) (k n m:Nat):Nat:=(kiR l (sU l k n) (sJ2 l k) m).2.2
def sJ4 (l:List Int) (k n m:Nat):Nat:=(kiR l (sV l k n) (sJ3 l k n m) m).2.2
def sKU (l:List Int) (k n m:Nat):List Rat:=knX l (sU l k n) (sJ2 l k) m
def sKV (l:List Int) (k n m:Nat):List Rat:=knX l (sV l k n) (sJ3 l k n m) m
def sWd (l:List Int) (k n m:Nat):Bool:=decide (ti l (sJ4 l k n m) 3=2)
def sA (l:List Int) (k n m:Nat):Nat:=sU l k n+1+kiN l (sJ2 l k) m
def sB (l:List Int) (k n m:Nat):Nat:=sV l k n+1+kiN l (sJ3 l k n m) m
def sR (l:List Int) (k n m:Nat):List (List ar):=ssV l (sWd l k n m) (sB l k n m) 0 (sA l k n m) (lM l (sJ4 l k n m))
structure sIn (l:List Int) (k n m:Nat):Prop where
 u1:1<=sU l k n
 un:sU l k n<=n
 ue:(sU l k n:Int)=1+ti l k (n:Int)
 v1:1<=sV l k n
 vn:sV l k n<=n
 ve:(sV l k n:Int)=1+ti l (lM l k) (n:Int)
 j1:lM l k<=500
 j2:sJ2 l k<=500
 j3:sJ3 l k n m<=500
 j4:sJ4 l k n m<=500
 j5:lM l (sJ4 l k n m)<=500
 ku:yJ (sKU l k n m) (sU l k n)
 kv:yJ (sKV l k n m) (sV l k n)
 lu:(sKU l k n m).length=sU l k n+1+sA l k n m
 lv:(sKV l k n m).length=sV l k n+1+sB l k n m
 a8:sA l k n m<=9
 b8:sB l k n m<=9
 rl:(sR l k n m).length=sA l k n m
 rk:∀ r∈sR l k n m,r.length=sB l k n m/\∀ q∈r,k5 4 q
end Go.Proofs.YthcadngkamjpdaaGreat
end
