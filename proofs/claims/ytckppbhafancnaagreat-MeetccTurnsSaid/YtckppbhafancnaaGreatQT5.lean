/- Texts B1, M1, R6, B2, C1, C2, D1, E1, E3, E4, K1, H1, H2, C3, V1, TW, K3, K4, E2, S1, S2, K5, K8, K9, K13, K2, K10, K7, K11, K14, K16, U1, P1, P2, P4, K17, K18, P5, K20 of this proof, joined. -/
import Derived.Test.YtckppbhafancnaaGreatQT4
set_option linter.unusedVariables false
set_option linter.unusedSimpArgs false
open Classical renaming byContradiction->pY
open Go.Proofs.Tryz renaming func232->arF,func73->aoB,prog->an,underlying123->atV,underlying155->sD,underlying165->wK,underlying25->dI
open Int renaming emod_lt_of_pos->sT,emod_nonneg->ta
open List renaming append_assoc->xS,append_nil->ng,drop_drop->rm,drop_eq_getElem_cons->aaC,drop_left'->acq,drop_of_length_le->kg,eq_nil_of_length_eq_zero->nM,ext_getElem->vk,foldl->tW,getD_cons_succ->ati,getD_cons_zero->au4,getD_eq_getElem?_getD->bp,getElem?_append_left->aaM,getElem?_append_right->ae8,getElem?_drop->tc,getElem?_eq_getElem->b7,getElem?_eq_none->yj,getElem?_map->g8,getElem?_replicate->adP,getElem?_set->akT,getElem_mem->qk,getElem_of_mem->awX,length_append->lT,length_take->eP,map->tF,map_take->xR,mem_cons->fx,mem_map->cQ,nodup_nil->zN,not_mem_nil->jy,range->c9,replicate->ay,replicate_zero->acQ,set->vx,take_add_one->zB,take_left'->af5,take_length->nT,take_of_length_le->dg,take_set_of_le->atw,take_succ_eq_append_getElem->ab5
open Nat renaming add_assoc->p8,add_comm->qB,add_le_add->adu,add_sub_cancel->mi,add_sub_cancel_left->aoH,add_zero->mS,le_add_left->avJ,le_mul_of_pos_right->asb,le_refl->bq,le_trans->ba,lt_or_ge->gC,min_eq_left->mf,mod_eq_of_lt->iW,mul_assoc->fM,mul_le_mul->mM,mul_le_mul_right->fU,pow_le_pow_right->mh,pow_pos->my,pow_succ->jt,pow_zero->acv,sub_self->qn,sub_zero->acA,succ_mul->v9,zero_add->fF,zero_le->b8,zero_lt_one->ava
open Option.some renaming injEq->fB
open Rat renaming add_nonneg->aod,add_zero->kP,div_def->iV,div_mul_cancel->kf,intCast_add->abD,intCast_eq_zero_iff->axr,intCast_le_intCast->adC,intCast_nonneg->z8,intCast_pos->sK,inv_mul_cancel->akB,inv_pos->aiK,le_of_lt->ib,le_refl->gf,le_total->adq,le_trans->gR,mul_assoc->wk,mul_comm->oW,mul_inv_cancel->aoc,mul_le_mul_of_nonneg_left->u5,mul_le_mul_of_nonneg_right->pb,mul_nonneg->iN,mul_one->pI,mul_pos->aak,mul_zero->xi,ne_of_gt->axH,not_lt->asc,one_mul->ph,zero_mul->vQ
section
set_option linter.unusedVariables false
set_option linter.unusedSimpArgs false
set_option maxHeartbeats 8000000
set_option maxRecDepth 100000
attribute [local irreducible] Go.Lg.opsL Go.Lg.cP Go.Lg.qi Go.Lg.s7
namespace Go.Proofs.YtckppbhafancnaaGreat
open Go.Lg
end Go.Proofs.YtckppbhafancnaaGreat
namespace Go.Lg
open Go.Proofs.YtckppbhafancnaaGreat in
theorem aF.aH8 {P:Program} {H:bW} {ρ:Operand->LV} {T:TypeId} (hT:mo P T [(1,false),(1,false),(1,false)]) (hz:dp P T (.agg [.v (.bool false),.list 1 [],.list 1 []])):aF P H ρ (.build T #[]) (ah 0):=by
 rw [q8]
 exact aF.build (zs:=[.v (.bool false),.list 1 [],.list 1 []]) (ps:=#[]) hT hz (by intro p hp;cases hp)
end Go.Lg
namespace Go.Proofs.YtckppbhafancnaaGreat
open Go.Lg
theorem cN:(default:Rat)=0:=rfl
def jP (t:Rat):List Rat->List Rat
 | x :: y :: r=>((1-t)*x+t*y) :: jP t (y :: r)
 | _=>[]
theorem rQ (t:Rat):∀ p:List Rat,(jP t p).length=p.length-1
 | []=>rfl
 | [_]=>rfl
 | x :: y :: r=>by simp [jP,rQ t (y :: r)]
theorem adh (t:Rat):∀ (p:List Rat) (i:Nat),i+1<p.length->(jP t p).getD i 0=(1-t)*p.getD i 0+t*p.getD (i+1) 0
 | [],i,h=>by simp at h
 | [_],i,h=>by simp at h
 | x :: y :: r,0,_=>by simp [jP]
 | x :: y :: r,i+1,h=>by
   have:=adh t (y :: r) i nH
   simpa [jP] using this
theorem dK {p:List Rat} {i:Nat} (h:i<p.length):p.getD i 0∈p:=by
 rw [bp,b7 h];exact qk h
theorem afW {p:List Rat} {x:Rat} (h:x∈p):∃ i,i<p.length/\p.getD i 0=x:=by
 obtain⟨i,hi,rfl⟩:=awX h
 exact⟨i,hi,by rw [bp,b7 hi];rfl⟩
theorem aCQ {p q:List Rat} (hl:p.length=q.length) (h:∀ i,i<p.length->p.getD i 0=q.getD i 0):p=q:=by
 apply vk hl
 intro i h1 h2
 have:=h i h1
 rw [bp,bp,b7 h1,b7 h2] at this
 exact this
def v7 (t:Rat):Nat->List Rat->List Rat
 | 0,_=>[]
 | k+1,p=>p.getD 0 0 :: v7 t k (jP t p)
def vy (t:Rat):Nat->List Rat->List Rat->List Rat
 | 0,q,tl=>q++tl
 | k+1,q,tl=>vy t k (jP t q) (q.getD k 0 :: tl)
def rk (p:List Rat) (t:Rat):List Rat:=v7 t p.length p
def nU (p:List Rat) (t:Rat):List Rat:=vy t p.length p []
theorem alY (t:Rat):∀ (k:Nat) (p:List Rat),(v7 t k p).length=k
 | 0,_=>rfl
 | k+1,p=>by simp [v7,alY t k]
theorem aut (t:Rat):∀ (k:Nat) (q tl:List Rat),q.length=k->(vy t k q tl).length=k+tl.length
 | 0,q,tl,h=>by simp [vy,h]
 | k+1,q,tl,h=>by rw [vy,aut t k _ _ (by rw [rQ];omega)];simp;omega
theorem z6 (p:List Rat) (t:Rat):(rk p t).length=p.length:=alY t _ _
theorem aaA (p:List Rat) (t:Rat):(nU p t).length=p.length:=by rw [nU,aut t _ _ _ rfl];simp
theorem aB7 {α:Type} (A B:List α) (x v:α) {n:Nat} (h:n=A.length):(A++x :: B).set n v=A++v :: B:=by subst h;simp
theorem aiC {α:Type} (A B:List α) (d:α) {i:Nat} (h:i<A.length):(A++B).getD i d=A.getD i d:=by simp [bp,aaM h]
theorem alB {α:Type} (A B:List α) (d:α) {i:Nat} (h:A.length<=i):(A++B).getD i d=B.getD (i-A.length) d:=by simp [bp,ae8 h]
theorem atl (l:List Rat) (k p:Nat):(l.drop k).getD p 0=l.getD (k+p) 0:=by
 rw [bp,bp,tc]
theorem aD9 {t:Rat} {q tl:List Rat} {i:Nat} (h:i+1<q.length) :
  ((jP t q).take i++(q.drop i++tl)).getD i 0=q.getD i 0/\((jP t q).take i++(q.drop i++tl)).getD (i+1) 0=q.getD (i+1) 0:=by
 have hl:((jP t q).take i).length=i:=by rw [eP,rQ];omega
 constructor
 ·rw [alB _ _ _ ae,hl,qn,aiC _ _ _ bz,atl,mS]
 ·rw [alB _ _ _ ae,hl,aiC _ _ _ bz,atl];congr 1;omega
theorem aEa {t:Rat} {q tl:List Rat} {i:Nat} (h:i+1<q.length) :
  ((jP t q).take i++(q.drop i++tl)).set i ((1-t)*q.getD i 0+t*q.getD (i+1) 0)=(jP t q).take (i+1)++(q.drop (i+1)++tl):=by
 have hl:((jP t q).take i).length=i:=by rw [eP,rQ];omega
 rw [aaC ae,List.cons_append,aB7 _ _ _ _ hl.symm,<-adh t q i h]
 have hs:i<(jP t q).length:=by rw [rQ];omega
 rw [ab5 hs,xS]
 congr 1
 rw [bp,b7 hs]
 simp
theorem aEZ {t:Rat} {q tl:List Rat} {k:Nat} (h:q.length=k+1):(jP t q).take k++(q.drop k++tl)=jP t q++(q.getD k 0 :: tl):=by
 rw [dg (by rw [rQ];omega),aaC ae,kg ae,bp,b7 ae]
 simp
theorem akg {t:Rat} {q:List Rat} {C M k:Nat} (hC:rl (1-t)+rl t+1<=C) (h:∀ x∈q,(rl x+C)*2 ^ (k+1)<=M):∀ x∈jP t q,(rl x+C)*2 ^ k<=M:=by
 intro x hx
 obtain⟨i,hi,rfl⟩:=afW hx
 rw [rQ] at hi
 rw [adh t q i ae]
 have h1:=h _ (dK (p:=q) (i:=i) ae)
 have h2:=h _ (dK (p:=q) (i:=i+1) ae)
 have e1:=lN ((1-t)*q.getD i 0) (t*q.getD (i+1) 0)
 have e2:=df (1-t) (q.getD i 0)
 have e3:=df t (q.getD (i+1) 0)
 rw [jt] at h1 h2
 have hle:rl ((1-t)*q.getD i 0+t*q.getD (i+1) 0)+C<=(rl (q.getD i 0)+C)+(rl (q.getD (i+1) 0)+C):=by omega
 have:=fU (2 ^ k) hle
 have e6:=Nat.add_mul (rl (q.getD i 0)+C) (rl (q.getD (i+1) 0)+C) (2 ^ k)
 have e4:(rl (q.getD i 0)+C)*(2 ^ k*2)=(rl (q.getD i 0)+C)*2 ^ k*2:=by rw [fM]
 have e5:(rl (q.getD (i+1) 0)+C)*(2 ^ k*2)=(rl (q.getD (i+1) 0)+C)*2 ^ k*2:=by rw [fM]
 omega
theorem ase {o p:List Rat} {k:Nat} (hk:k<p.length) (de:o.length=p.length) (ht:o.take k=p.take k):(o.set k (p.getD k 0)).take (k+1)=p.take (k+1):=by
 rw [ab5 (by simpa [de] using hk),ab5 hk,atw (bq _),ht]
 congr 1
 simp [bp,b7 hk]
theorem r1r:((1:Int):Rat)=1:=rfl
theorem acO {x:Rat} {C M k:Nat} (h:(rl x+C)*2 ^ k<=M):rl x+C<=M:=by
 have:1<=2 ^ k:=my ae
 exact ba (asb _ this) h
theorem ao8 {p:List Rat} {C:Nat} (hC:1<=C) (h:∀ x∈p,(rl x+C)*2 ^ p.length<=1073741824):p.length<=30:=by
 cases p with
 | nil=>simp
 | cons x r =>
  have h1:=h x aM
  have h2:1*2 ^ (x :: r).length<=(rl x+C)*2 ^ (x :: r).length:=fU _ ae
  rcases gC 30 (x :: r).length with h3 | h3
  ·have h4:2 ^ 31<=2 ^ (x :: r).length:=mh ae h3
   omega
  ·exact h3
theorem aAF {t:Rat} {q tl:List Rat} {i:Nat} (h:i<q.length):((jP t q).take i++(q.drop i++tl)).length=q.length+tl.length:=by
 simp [rQ];omega
namespace arb
theorem aO {p q:Prop} (k:q) (e:p=q:=by simp only [e1,e2,e3,e4,p1,p2,p3,q1,q2,q3,l1,t0,t1,r1,r2,r3,r4,Nat.zero_add,Nat.reduceMul,Nat.reduceAdd,b1,b2,b3,b4,b5,b6,i1,i2,i3,i4,i5,i6,Nat.reduceBEq,cN,Rat.add_zero,aV ar,cU,LV.kill,bX];exact rfl):p:=e.mpr k
end arb
open arb in
theorem aou (p:List Rat) (hl:p.length<=1048576) (oe:∀ x∈p,rl x<=274877906944):pW an 178 [.list 3 (p.map ah)] (.ref 1 3 0 p.length) [⟨3,p.map ah,true⟩]:=by
 refine fnO Tryz.func178 ?_
 refine bD ?_
 refine fL rfl rfl (.nh (n:=p.length) (m:=p.length) ml ml om om om) ?_
 refine bG ?_
 refine ma (fun(k:Nat) (o:List Rat) L=>(((((St.mk L.slot (hp [(8,⟨3,o.map ah,true⟩)])).put (some 3) (.ref 8 3 0 p.length)).put (some 9) (.list 3 (p.map ah))).put (some 10) (ai p.length)).put (some 11) (ai k))) (fun k o=>k<=p.length/\o.length=p.length/\o.take k=p.take k) (fun k o=>p.length-k) 0 (ay p.length 0) ⟨b8 _,by simp,rfl⟩ ?_
 rintro k o L1 ⟨hk,de,ht⟩
 refine aC ?_
 refine aH rfl ?_ ?_<;>intro adI h12
 ·have nv:k<p.length:=by omega
  have hrk:=oe _ (dK nv)
  refine qF ?_
  refine ak rfl qY ?_
  refine cp au (jJ (p.getD k 0) 0 (by rw [show rl 0=1 from rfl];omega)) ?_
  refine bc ?_
  refine cM (az.kill _ 5) ?_
  refine aA ?_
  exact jh (k+1) (o.set k (p.getD k 0)) ⟨ae,by simp [de],ase nv de ht⟩
 ·obtain rfl:k=p.length:=by omega
  rw [nT,<-de,nT] at ht
  refine bG ?_
  subst ht
  exact agt rfl rfl (a7 ar _)
namespace avD
theorem aO {p q:Prop} (k:q) (e:p=q:=by simp only [e1,e2,e3,e4,p1,p2,p3,q1,q2,q3,l1,t0,t1,r1,r2,r3,r4,Nat.zero_add,Nat.reduceMul,Nat.reduceAdd,b1,b2,b3,b4,b5,b6,i1,i2,i3,i4,i5,i6,Nat.reduceBEq,adx,cN,Rat.add_zero,List.append_nil,List.length_append,r1r,ek,eq0,alC,akm,ems,eme,ny,nt,nm,jK,List.length_cons,List.length_nil,aV ar,cU,LV.kill,bX];exact rfl):p:=e.mpr k
end avD
open avD in
theorem aIA (p:List Rat) (t:Rat) (cc:Nat) (hC:rl (1-t)+rl t+1<=cc) (rH:cc<=1073741824) (hs:∀ x∈p,(rl x+cc)*2 ^ p.length<=1073741824):ax an 176 [.list 3 (p.map ah),ah t] (.bf [.list 3 ((rk p t).map ah),.list 3 ((nU p t).map ah)]):=by
 have hlen:=ao8 (ba (avJ 1 _) hC) hs
 have oe:∀ x∈p,rl x<=274877906944:=fun x hx=>by have:=acO (hs x hx);omega
 refine aW Tryz.func176 ?_
 have ek:True:=trivial
 have eq0:True:=trivial
 have alC:True:=trivial
 have akm:True:=trivial
 have ems:True:=trivial
 have eme:True:=trivial
 have ny:True:=trivial
 refine bo ?_
 refine a9 4 aq ?_
 refine cp aR (xx 1 aj aj) ?_
 refine av ?_
 refine cp au (sw _ _ (by rw [show rl ((1:Int):Rat)=1 from rfl];omega)) ?_
 refine aZ ?_
 refine aba [] rfl rfl (.cons (.pure (fc ar _ _)) .nil) (aou p ae oe) (a7 ar _) rfl ?_
 refine aZ ?_
 refine fL rfl rfl (.aor (n:=0) (m:=p.length) ar sD Z31 db mY rfl rfl ae ae ae) ?_
 refine dH ?_
 refine lR (az.mv (t:=8) (b:=18) 33 aj aj aj rfl rfl rfl) ?_
 refine lp4 (fun(k:Nat) (q tl lo:List Rat) L=>((((((St.mk L.slot (hp [(3,⟨3,[ah t],true⟩),(6,⟨3,[ah (1-t)],true⟩),(1000241,⟨3,(q++tl).map ah,true⟩),(33,⟨3,lo.map ah,true⟩)])).put (some 3) (.aD 3 3 0 0)).put (some 6) (.aD 6 3 0 0)).put (some 7) (.ref 1000241 3 0 p.length)).put (some 8) (.ref 33 3 0 lo.length)).put (some 9) (iL ((k:Int)-1)))) (fun k q tl lo=>q.length=k/\k+tl.length=p.length/\lo.length+k=p.length/\lo++v7 t k q=rk p t/\vy t k q tl=nU p t/\∀ x∈q,(rl x+cc)*2 ^ k<=1073741824) (fun k q tl lo=>k) p.length p ([]) ([]) ⟨rfl,by simp,by simp,by simp [rk],rfl,hs⟩ ?_
 rintro k q tl lo L1 ⟨hq,htl,cg,hL,hH,bI⟩
 refine aZ ?_
 refine aH rfl ?_ ?_<;>intro tP sg
 ·obtain⟨j,rfl⟩:∃ j,k=j+1:=⟨k-1,ae⟩
  have ek:(((j+1:Nat):Int)-1)=(j:Int):=by omega
  have eq0:(q++tl).getD 0 0=q.getD 0 0:=aiC _ _ _ ae
  have px:=acO (bI _ (dK (i:=0) ae))
  refine bM ?_
  refine ak rfl qY ?_
  simp only [zZ,cN,fF,eq0]
  refine cp au (jJ _ 0 (by rw [show rl 0=1 from rfl];omega)) ?_
  refine av ?_
  refine bS rfl (.app (news:=[ah (q.getD 0 0+0)]) rfl rfl rfl rfl rfl aM (.inl rfl) aj sD sD mq db rfl mY (.inl ⟨32,0,_,rfl,by decide,rfl,rfl,by simp,rfl,by simp [aN,ar.pure]⟩) bz bz aj) ?_
  refine aA ?_
  refine cM (az.kill _ 32) ?_
  refine bc ?_
  refine dV (fun(i:Nat) L=>((((((((St.mk L.slot (hp [(3,⟨3,[ah t],true⟩),(6,⟨3,[ah (1-t)],true⟩),(1000241,⟨3,((jP t q).take i++(q.drop i++tl)).map ah,true⟩),(33,⟨3,(lo++[q.getD 0 0]).map ah,true⟩)])).put (some 3) (.aD 3 3 0 0)).put (some 6) (.aD 6 3 0 0)).put (some 7) (.ref 1000241 3 0 p.length)).put (some 8) (.ref 33 3 0 (lo.length+1))).put (some 9) (ai j)).put (some 34) (ai j)).put (some 35) (ai i))) (fun i=>i<=j) (fun i=>j-i) 0 (b8 _) ?_
  rintro i L2 hi
  refine aC ?_
  refine aH rfl ?_ ?_<;>intro awa h36
  ·have rF:i<j:=by omega
   have ny:((i:Int)+1).toNat=i+1:=by omega
   obtain⟨alC,akm⟩:=aD9 (t:=t) (q:=q) (tl:=tl) (i:=i) ae
   have ems:=aEa (t:=t) (q:=q) (tl:=tl) (i:=i) ae
   have fu:=acO (bI _ (dK (i:=i) ae))
   have qj:=acO (bI _ (dK (i:=i+1) ae))
   have jY:=df (1-t) (q.getD i 0)
   have fe:=df t (q.getD (i+1) 0)
   have xG:=aAF (t:=t) (q:=q) (tl:=tl) (i:=i) ae
   refine bM ?_
   refine a9 17 aq ?_
   refine aZ ?_
   simp only [t1,cN,fF,alC]
   refine cp au (iR _ _ ae) ?_
   refine aC ?_
   simp only [ny,cN,fF,akm]
   refine cp au (iR _ _ ae) ?_
   refine cp au (jJ _ _ ae) ?_
   refine bM ?_
   exact l5
  ·obtain rfl:j=i:=by omega
   have eme:=aEZ (t:=t) (tl:=tl) hq
   refine bG ?_
   exact rP j (jP t q) (q.getD j 0 :: tl) (lo++[q.getD 0 0]) ⟨by rw [rQ];omega,by simp;omega,by simp;omega,by rw [xS];exact hL,hH,akg hC bI⟩
 ·obtain rfl:k=0:=by omega
  obtain rfl:q=[]:=nM hq
  rw [v7,ng] at hL
  rw [vy] at hH
  refine dM ?_
  rw [<-hL,<-hH]
  exact ake [33,1000241] rfl rfl (fI ar rfl rfl rfl) rfl (fI ar rfl rfl (by simpa using htl.symm))
def jB (l:List Int) (k:Nat):LV:=.agg [.list 1 (l.map fZ),.v (.int .i64 (k:Nat))]
theorem dB (l:List Int) (k:Nat):aN [jB l k]=true:=by simp [aN,jB,LV.pure,a7 pP]
theorem ajP {a b:Int} (h:b≠0):dN .rem .i64 a b=some (.int .i64 (a.tmod b)):=by simp [dN,h]
theorem dfi:(default:Int)=0:=rfl
def eM (l:List Int) (k:Nat) (n:Int):Int:=if k<l.length then l.getD k 0 % n else 0
def bJ (l:List Int) (k:Nat):Nat:=if k<l.length then k+1 else k
theorem pQ {l:List Int} {k:Nat} {n:Int} (h:0<n):0<=eM l k n/\eM l k n<n:=by
 unfold eM;split
 ·exact⟨ta _ ae,sT _ h⟩
 ·omega
theorem azH {a m:Int} (hm:0<m):a % m=if a.tmod m<0 then a.tmod m+m else a.tmod m:=by
 have h1:=ta a (show m≠0 by omega)
 have h2:=sT a hm
 rw [Int.tmod_eq_emod]
 split<;>split<;>omega
theorem ahj {P:Program} {L:St} {a:Nat} {T:TypeId} {b sz:Nat} {x y:LV} {m:Bool} {n:Nat} {ag:Bool} {blk:bg} (h:L.slot a=.aD b sz 0 0) (hb:L.heap b=some ⟨sz,[x],m⟩)
  (hx:x.aw=sz) (cm:x.at 0 n ag=some x) (hT:bE P T n ag) (hi:cY L.heap x y) (h0:L.heap 0=some blk) (hm:blk.mt=true) (hp:aN blk.vals=true):zi P [.cell a T] L y blk :=
 ⟨[x],[y],L.heap,.cons ⟨b,sz,0,0,_,x,n,ag,h,hb,rfl,rfl,hx,cm,hT⟩ .nil,bW.le_refl _,.cons (.cF hi) .nil,h0,hm,hp,rfl⟩
theorem azN {P:Program} {L:St} {t:Nat} {x y:LV} {blk:bg} (bs:List Nat) (h0:bs.contains 0=false) (h:L.slot t=x) (hi:cY (L.cd bs).heap x y) (hb:(L.cd bs).heap 0=some blk) (hm:blk.mt=true) (hp:aN blk.vals=true):zi P [.tmp t] L y blk :=
 ⟨[x],[y],(L.cd bs).heap,.cons h .nil,tb bs h0,.cons (.cF hi) .nil,hb,hm,hp,rfl⟩
def oB (l:List Int) (k:Nat):Rat × Nat :=
 if eM l (bJ l k) 4=3 then(((eM l k 13-6:Int):Rat)/((1+eM l (bJ l (bJ l k)) 4:Int):Rat),bJ l (bJ l (bJ l k))) else(((eM l k 13-6:Int):Rat),bJ l (bJ l k))
theorem adS {n d:Int} (h1:n.natAbs<4294967296) (h2:d.natAbs<4294967296):rl ((n:Rat)/(d:Rat))<=1:=by
 rw [<-afs]
 have:=acm (k:=1) (decide (n<0) != decide (d<0)) (by simpa using h1) (by simpa using h2)
 omega
theorem ad9 {n:Int} (h1:n.natAbs<4294967296):rl (n:Rat)<=1:=by
 have:=adS (n:=n) (d:=1) h1 aj
 rwa [show ((1:Int):Rat)=1 from rfl,iV,show (1:Rat)⁻¹=1 by grind,pI] at this
theorem aCx {P:Program} {L:St} {t b sz:Nat} {blk:bg} (h:L.slot t=.aD b sz 0 0) (hb:L.heap b=some blk) (hp:aN blk.vals=true):qc P [.tmp t] L (.aD 1 sz 0 0) [blk] :=
 ⟨[.aD b sz 0 0],[.aD 1 sz 0 0],L.heap,[b],.cons h .nil,bW.le_refl _,.cons (.ptr (k:=0) rfl) .nil,by simp,rfl,fun k c hk=>by
  cases k with
  | zero=>simp at hk;subst hk;exact⟨blk,hb,rfl,hp⟩
  | succ k=>simp at hk,rfl⟩
theorem od {l:List Int} {k:Nat} (hl:l.length<=500) (hk:k<=500):bJ l k<=500:=by unfold bJ;split<;>omega
theorem aex {l:List Int} {k:Nat} (hl:l.length<=500) (hk:k<=500):(oB l k).2<=500:=by
 have h1:=od (l:=l) hl hk
 have h2:=od (l:=l) hl h1
 unfold oB;split
 ·exact od hl h2
 ·exact h2
theorem agm (l:List Int) (k b:Nat):(jB l k).kill b=jB l k:=LV.mr b _ (by simp [jB,LV.pure,aN,a7 pP])
open H0 in
theorem zO (n m:Int) (hm:0<m) (fe:m<=4611686018427387904):ax an 12 [iL n,iL m] (iL (n % m)):=by
 have hE:=azH (a:=n) hm
 have hb:=Int.tmod_lt_of_pos n hm
 have xI:=Int.lt_tmod_of_pos n hm
 refine aW Tryz.func12 ?_
 refine bD ?_
 refine ak rfl (.bin rfl rfl (ajP ae)) ?_
 refine bM ?_
 refine iM (fun L=>∃ (r:Int) (L1:St),(r=n % m)/\L=((St.mk L1.slot (hp [])).put (some 0) (iL r))) ?_ ?_
 ·refine aH rfl ?_ ?_<;>intro wQ h9
  ·refine aQ ?_
   refine ak rfl yi ?_
   refine aQ ?_
   exact⟨n.tmod m+m,_,by rw [hE,if_pos h9],((al (bK cl) cl)).symm⟩
  ·refine aT ?_
   exact⟨n.tmod m,_,by rw [hE,if_neg h9],((al (bK cl) cl)).symm⟩
 ·rintro _ ⟨r,LC9,hr,rfl⟩
  refine bo ?_
  rw [<-hr]
  exact eB
open H0 in
theorem aJu (l:List Int) (h:l.length<=9223372036854775807):ax an 8 [.list 1 (l.map fZ)] (bL (decide (l.length<=500))):=by
 refine aW Tryz.func8 ?_
 refine dM ?_
 refine dT (x:=.v (.bool (decide (((l.length:Nat):Int)<=500)))) rfl ?_
 rw [show decide (((l.length:Nat):Int)<=500)=decide (l.length<=500) by rw [decide_eq_decide];omega]
 exact .pure rfl
open H0 in
theorem aBW (l:List Int):pW an 22 [.list 1 (l.map fZ)] (.aD 1 2 0 0) [⟨2,[jB l 0],true⟩]:=by
 refine fnO Tryz.func22 ?_
 refine bo ?_
 refine ak rfl (.build (zs:=[.v (.slice none 0 0),.v (.int .i64 0)]) apY aCS ahV) ?_
 refine fL rfl rfl (.box nK) ?_
 refine aA ?_
 exact aCx rfl rfl (dB l 0)
namespace auZ
theorem aO {p q:Prop} (k:q) (e:p=q:=by simp only [e1,e2,e3,e4,p1,p2,p3,q1,q2,q3,l1,t0,t1,r1,r2,r3,r4,Nat.zero_add,Nat.reduceMul,Nat.reduceAdd,b1,b2,b3,b4,b5,b6,i1,i2,i3,i4,i5,i6,Nat.reduceBEq,l1,ek1,dfi];exact rfl):p:=e.mpr k
end auZ
open auZ in
theorem rW (l:List Int) (k:Nat) (n:Int) (hl:l.length<=500) (hk:k<=500) (hn:0<n) (nL:n<=1000):nO an 31 ⟨2,[jB l k],true⟩ [.aD 0 2 0 0,iL n] (iL (eM l k n)) ⟨2,[jB l (bJ l k)],true⟩:=by
 refine xY Tryz.func31 ?_
 have ek1:True:=trivial
 refine aZ ?_
 refine a9 10 aq ?_
 refine bG ?_
 refine aH rfl ?_ ?_<;>intro qC lG
 ·have vn:¬ k<l.length:=by omega
  refine aZ ?_
  rw [eM,if_neg vn,bJ,if_neg vn]
  exact we rfl (.cF (.pure rfl)) rfl rfl (dB l _)
 ·have vn:k<l.length:=by omega
  have ek1:(((k+1:Nat):Int)-1).toNat=k:=by omega
  refine bC ?_
  refine bS rfl (.store (y:=jB l k) (y':=jB l (k+1)) rfl rfl rfl rfl rfl rfl rfl T3 nK) ?_
  refine aQ ?_
  refine a9 14 aq ?_
  refine bo ?_
  refine ak rfl (.bin rfl rfl (aaH (by first | omega | (simp;omega)) (by first | omega | (simp;omega)))) ?_
  refine aQ ?_
  refine cp au (zO _ _ ae ae) ?_
  refine aA ?_
  rw [eM,if_pos vn,bJ,if_pos vn]
  exact we rfl (.cF (.pure rfl)) rfl rfl (dB l _)
namespace av5
theorem aO {p q:Prop} (k:q) (e:p=q:=by simp only [e1,e2,e3,e4,p1,p2,p3,q1,q2,q3,l1,t0,t1,r1,r2,r3,r4,Nat.zero_add,Nat.reduceMul,Nat.reduceAdd,b1,b2,b3,b4,b5,b6,i1,i2,i3,i4,i5,i6,Nat.reduceBEq,l1];exact rfl):p:=e.mpr k
end av5
open av5 in
theorem akV (l:List Int) (k:Nat) (hl:l.length<=500) (hk:k<=500):nO an 67 ⟨2,[jB l k],true⟩ [.aD 0 2 0 0] (ah (oB l k).1) ⟨2,[jB l (oB l k).2],true⟩:=by
 have k1:=od (l:=l) hl hk
 have k2:=od (l:=l) hl k1
 have hb1:=pQ (l:=l) (k:=k) (n:=13) aj
 have xI:=pQ (l:=l) (k:=bJ l (bJ l k)) (n:=4) aj
 refine xY Tryz.func67 ?_
 refine bo ?_
 refine ye 0 rfl rfl rfl (dB l _) (.cons .ptr (.cons (.cF (.pure rfl)) .nil)) .ptr (rW l k 13 ae ae aj aj) rfl (dB l _) ?_
 refine aZ ?_
 refine ye 0 rfl rfl rfl (dB l _) (.cons .ptr (.cons (.cF (.pure rfl)) .nil)) .ptr (rW l (bJ l k) 4 ae ae aj aj) rfl (dB l _) ?_
 refine aQ ?_
 refine aH rfl ?_ ?_<;>intro pZ h8
 ·refine aQ ?_
  refine ak rfl wC ?_
  refine av ?_
  refine ye 0 rfl rfl rfl (dB l _) (.cons .ptr (.cons (.cF (.pure rfl)) .nil)) .ptr (rW l (bJ l (bJ l k)) 4 ae ae aj aj) rfl (dB l _) ?_
  refine ak rfl yi ?_
  refine cp au (aby (eM l k 13-6) (1+eM l (bJ l (bJ l k)) 4) ae ae ae ae ae) ?_
  refine bc ?_
  rw [oB,if_pos h8]
  exact ahj rfl rfl (ar.aw _) (rh _) db (.pure (ar.pure _)) rfl rfl (dB l _)
 ·refine bc ?_
  refine ak rfl wC ?_
  refine cp aR (so (eM l k 13-6) ae ae) ?_
  refine aA ?_
  rw [oB,if_neg h8]
  exact ahj rfl rfl (ar.aw _) (rh _) db (.pure (ar.pure _)) rfl rfl (dB l _)
theorem aG8 (q:Rat):jT q≠1:=by rw [xu];split<;>omega
theorem asl (n:Nat) (h:(ao n).length<=4611686018427387904):ax an 147 [bj n] (bL true):=by
 have:=azl (ao n) h
 rwa [decide_eq_true] at this
 by_cases h0:(ao n).length=0
 ·exact .inl h0
 ·exact .inr (afK (afB n) ae)
theorem as5 {q:Rat} (h:0<(ao (jT q)).length):Nat.gcd q.num.natAbs (jT q)=1:=by
 rw [ajQ h];exact q.reduced
end Go.Proofs.YtckppbhafancnaaGreat
namespace Go.Lg
end Go.Lg
namespace Go.Proofs.YtckppbhafancnaaGreat
open Go.Lg
theorem m10 {m:Nat} (h:m<10):(48+m % 10) % 4294967296=48+m:=by
 rw [iW h,iW (Nat.lt_of_lt_of_le (Nat.add_lt_add_left h 48) aj)]
namespace apn
theorem aO {p q:Prop} (k:q) (e:p=q:=by simp only [e1,e2,e3,e4,p1,p2,p3,q1,q2,q3,l1,t0,t1,r1,r2,r3,r4,Nat.zero_add,Nat.reduceMul,Nat.reduceAdd,b1,b2,b3,b4,b5,b6,i1,i2,i3,i4,i5,i6,Nat.reduceBEq,cq,gk,zZ];exact rfl):p:=e.mpr k
end apn
open apn in
theorem aCj (q:Rat) (h:rl q<=1099511627776):ax an 80 [ah q] (bL true):=by
 have a1:=nd q
 have a2:=oO q
 have a3:=n8 q
 have aX:=aG8 q
 refine aW Tryz.func80 ?_
 refine bC ?_
 refine cp aR (asl _ ae) ?_
 refine aA ?_
 refine cp aR (asl _ ae) ?_
 refine bo ?_
 refine ez 18 rfl ?_ ?_<;>intro uO uY
 ·refine bD ?_
  refine aH rfl ?_ ?_<;>intro aiX h25
  ·exfalso
   have:=(abJ (n:=jT q) ae).1
   omega
  ·refine bC ?_
   refine aH rfl ?_ ?_<;>intro abN h29
   ·refine aC ?_
    refine ez 33 rfl ?_ ?_<;>intro aen h33
    ·have hz:=aaD (q:=q) ae
     subst hz
     refine bM ?_
     exact eB
    ·exfalso
     have hz:=aaD (q:=q) ae
     subst hz
     revert aen
     decide
   ·refine bD ?_
    refine ez 43 rfl ?_ ?_<;>intro alT h43
    ·refine bc ?_
     first | simp only [cq,oh] | skip
     refine aZ ?_
     exact eB
    ·have oh:=as5 (q:=q) ae
     refine aA ?_
     refine cp au (am6 _ _ (cT _) (cT _) ae ae) ?_
     first | simp only [cq,oh] | skip
     refine cp aR (aeh (ao 1) (cT _) aj) ?_
     refine aC ?_
     exact eB
 ·refine aaN ?_
  refine aH rfl ?_ ?_<;>intro abN h29
  ·refine aC ?_
   refine ez 33 rfl ?_ ?_<;>intro aen h33
   ·have hz:=aaD (q:=q) ae
    subst hz
    refine bM ?_
    exact eB
   ·exfalso
    have hz:=aaD (q:=q) ae
    subst hz
    revert aen
    decide
  ·refine bD ?_
   refine ez 43 rfl ?_ ?_<;>intro alT h43
   ·refine bc ?_
    first | simp only [cq,oh] | skip
    refine aZ ?_
    exact eB
   ·have oh:=as5 (q:=q) ae
    refine aA ?_
    refine cp au (am6 _ _ (cT _) (cT _) ae ae) ?_
    first | simp only [cq,oh] | skip
    refine cp aR (aeh (ao 1) (cT _) aj) ?_
    refine aC ?_
    exact eB
def HS (p:List Rat) (t:Rat):Prop:=∃ cc,rl (1-t)+rl t+1<=cc/\cc<=1073741824/\∀ x∈p,(rl x+cc)*2 ^ p.length<=1073741824
theorem afA (p:List Rat) (t:Rat) (h:HS p t):ax an 176 [.list 3 (p.map ah),ah t] (.bf [.list 3 ((rk p t).map ah),.list 3 ((nU p t).map ah)]):=by
 obtain⟨cc,h1,h2,h3⟩:=h
 exact aIA p t cc h1 h2 h3
theorem HS.len {p:List Rat} {t:Rat} (h:HS p t):p.length<=30:=by
 obtain⟨cc,h1,h2,h3⟩:=h
 exact ao8 (ba (avJ 1 _) h1) h3
theorem HS.rl {p:List Rat} {t:Rat} (h:HS p t):rl t<=1073741824/\∀ x∈p,Go.Lg.rl x<=1073741824:=by
 obtain⟨cc,h1,h2,h3⟩:=h
 exact⟨ae,fun x hx=>by have:=acO (h3 x hx);omega⟩
def aJ (p:List Rat) (t:Rat):Rat:=(rk p t).getD (p.length-1) 0
def xL (p:List Rat) (a b:Rat):List Rat:=if 1-a≠0 then rk (nU p a) ((b-a)/(1-a)) else if b≠0 then nU (rk p b) (1/b) else p.reverse
theorem aoN (p:List Rat) {x:Nat} (h:x<p.length):p.reverse.getD x 0=p.getD (p.length-1-x) 0:=by
 rw [bp,bp,List.getElem?_reverse h]
theorem aaP (o:List Rat) (i x:Nat) (v:Rat) (hi:i<o.length):(o.set i v).getD x 0=if x=i then v else o.getD x 0:=by
 rw [bp,bp,akT]
 by_cases h:i=x
 ·subst h;simp [hi]
 ·rw [if_neg h,if_neg (fun e=>h e.symm)]
theorem aGx {p o:List Rat} {i j n:Nat} (hp:p.length=n) (ho:o.length=n) (rF:i<j) (hj:j+i+1=n)
  (h:∀ x,x<n->o.getD x 0=if x<i\/n<=x+i then p.getD (n-1-x) 0 else p.getD x 0) :
  ∀ x,x<n->((o.set i (o.getD j 0)).set j (o.getD i 0)).getD x 0=if x<i+1\/n<=x+(i+1) then p.getD (n-1-x) 0 else p.getD x 0:=by
 intro x hx
 rw [aaP _ _ _ _ bz,aaP _ _ _ _ ae,h j ae,h i ae,h x hx]
 by_cases h1:x=j
 ·subst h1
  rw [if_pos rfl,if_neg ae,if_pos ae,show n-1-x=i by omega]
 ·rw [if_neg h1]
  by_cases h2:x=i
  ·subst h2
   rw [if_pos rfl,if_neg ae,if_pos ae,show n-1-x=j by omega]
  ·rw [if_neg h2]
   by_cases h3:x<i\/n<=x+i
   ·rw [if_pos h3,if_pos ae]
   ·rw [if_neg h3,if_neg ae]
theorem aE0 {p o:List Rat} {i n:Nat} (hp:p.length=n) (ho:o.length=n) (hi:n<=2*i+1) (h:∀ x,x<n->o.getD x 0=if x<i\/n<=x+i then p.getD (n-1-x) 0 else p.getD x 0):o=p.reverse:=by
 refine aCQ (by simp [hp,ho]) (fun x hx=>?_)
 rw [aoN p ae,h x ae,hp]
 by_cases h3:x<i\/n<=x+i
 ·rw [if_pos h3]
 ·rw [if_neg h3];congr 1;omega
namespace aqu
theorem aO {p q:Prop} (k:q) (e:p=q:=by simp only [e1,e2,e3,e4,p1,p2,p3,q1,q2,q3,l1,t0,t1,r1,r2,r3,r4,Nat.zero_add,Nat.reduceMul,Nat.reduceAdd,b1,b2,b3,b4,b5,b6,i1,i2,i3,i4,i5,i6,Nat.reduceBEq,cN,ej,hll];exact rfl):p:=e.mpr k
end aqu
open aqu in
theorem ahB (p:List Rat) (t:Rat) (h:HS p t) (oR:0<p.length):ax an 190 [.list 3 (p.map ah),ah t] (ah (aJ p t)):=by
 have hll:=z6 p t
 have hlen:=h.len
 have hj:(((p.length:Nat):Int)-1).toNat=p.length-1:=by omega
 refine aW Tryz.func190 ?_
 have ej:True:=trivial
 refine dM ?_
 refine aH rfl ?_ ?_<;>intro wQ h9
 ·omega
 ·refine aC ?_
  refine cp au (afA _ _ (by assumption)) ?_
  refine bG ?_
  refine ak rfl lK ?_
  refine aC ?_
  rw [aJ]
  exact gy
open H0 in
theorem an4 (a b:Rat) (h:rl a+rl b<=1099511627776):ax an 177 [ah a,ah b] (ah (a/b)):=by
 refine aW Tryz.func177 ?_
 refine bC ?_
 refine cp au (wY _ _ ae) ?_
 refine iE ?_
 exact gy
def mD:Nat->Nat->Nat
 | _,0=>1
 | 0,_+1=>0
 | n+1,k+1=>mD n k+mD n (k+1)
theorem ajA:∀ {n k:Nat},n<k->mD n k=0
 | 0,k+1,_=>rfl
 | n+1,k+1,h=>by rw [mD,ajA ae,ajA ae]
theorem as7:∀ n,mD n n=1
 | 0=>rfl
 | n+1=>by rw [mD,as7 n,ajA ae]
theorem ael (n:Nat):mD n 0=1:=by cases n<;>rfl
theorem amm:∀ n k,mD n k<=2 ^ n
 | n,0=>by rw [ael];exact my ae
 | 0,k+1=>by simp [mD]
 | n+1,k+1=>by
   have h1:=amm n k
   have h2:=amm n (k+1)
   rw [mD,jt];omega
theorem apm:∀ {n k:Nat},k<=n->0<mD n k
 | n,0,_=>by rw [ael];omega
 | n+1,k+1,h=>by have:=apm (n:=n) (k:=k) ae;rw [mD];omega
theorem agT {n:Nat} (k:Nat) (h:n<=40):mD n k<=1099511627776:=ba (amm n k) (mh (n:=2) ae h)
def yb (n:Nat):List Int:=(c9 (n+1)).map fun x=>(mD n x:Int)
def ja (n:Nat):List Rat:=(c9 (n+1)).map fun x=>((mD n x:Int):Rat)
theorem zK (n:Nat):(yb n).length=n+1:=by simp [yb]
theorem zU (n:Nat):(ja n).length=n+1:=by simp [ja]
theorem ani {n x:Nat} (h:x<=n):(yb n).getD x 0=(mD n x:Int):=by
 rw [bp,b7 (by rw [zK];omega)];simp [yb]
theorem aqZ {n x:Nat} (h:x<=n):(ja n).getD x 0=((mD n x:Int):Rat):=by
 rw [bp,b7 (by rw [zU];omega)];simp [ja]
theorem aD7 {p q:List Int} (hl:p.length=q.length) (h:∀ i,i<p.length->p.getD i 0=q.getD i 0):p=q:=by
 apply vk hl
 intro i h1 h2
 have:=h i h1
 rw [bp,bp,b7 h1,b7 h2] at this
 exact this
theorem aKn (o:List Int) (i x:Nat) (v:Int) (hi:i<o.length):(o.set i v).getD x 0=if x=i then v else o.getD x 0:=by
 rw [bp,bp,akT]
 by_cases h:i=x
 ·subst h;simp [hi]
 ·rw [if_neg h,if_neg (fun e=>h e.symm)]
def adE (k i:Nat) (o:List Int):Prop:=o.length=k+2/\∀ x,x<k+2->o.getD x 0=if i<x/\x<=k then(mD (k+1) x:Int) else if x<=k then(mD k x:Int) else 1
theorem aFB (k:Nat):adE k k (yb k++[1]):=by
 refine⟨by simp [zK],fun x hx=>?_⟩
 rw [if_neg ae]
 by_cases h:x<=k
 ·rw [if_pos h,aiC _ _ _ (by rw [zK];omega),ani h]
 ·rw [if_neg h,alB _ _ _ (by rw [zK];omega),zK,show x-(k+1)=0 by omega];rfl
theorem aIJ {k i:Nat} {o:List Int} (h:adE k (i+1) o) (hi:i+1<=k):adE k i (o.set (i+1) (o.getD (i+1) 0+o.getD i 0)):=by
 obtain⟨h1,h2⟩:=h
 refine⟨by simp [h1],fun x hx=>?_⟩
 rw [aKn _ _ _ _ ae]
 by_cases hxi:x=i+1
 ·subst hxi
  rw [if_pos rfl,if_pos ⟨ae,hi⟩,h2 _ ae,h2 _ ae,if_neg ae,if_pos ae,if_neg ae,if_pos ae,mD]
  simp;omega
 ·rw [if_neg hxi,h2 x hx]
  by_cases h3:i+1<x/\x<=k
  ·rw [if_pos h3,if_pos ⟨ae,h3.2⟩]
  ·rw [if_neg h3,if_neg (show ¬ (i<x/\x<=k) by omega)]
theorem azc {k:Nat} {o:List Int} (h:adE k 0 o):o=yb (k+1):=by
 obtain⟨h1,h2⟩:=h
 refine aD7 (by rw [zK,h1]) (fun x hx=>?_)
 rw [h2 x ae,ani ae]
 by_cases h3:0<x/\x<=k
 ·rw [if_pos h3]
 ·rw [if_neg h3]
  by_cases h4:x<=k
  ·obtain rfl:x=0:=by omega
   rw [if_pos h4,ael,ael]
  ·obtain rfl:x=k+1:=by omega
   rw [if_neg h4,as7];rfl
theorem asx {k i:Nat} {o:List Int} (h:adE k i o) (hk:k<=39) {x:Nat} (hx:x<k+2):0<=o.getD x 0/\o.getD x 0<=1099511627776:=by
 rw [h.2 x hx]
 have h1:=agT (n:=k+1) x ae
 have h2:=agT (n:=k) x ae
 split
 ·omega
 ·split<;>omega
theorem abw {n:Nat} (hn:n<=40):∀ x∈ja n,rl x<=2:=by
 intro x hx
 simp only [ja,cQ] at hx
 obtain⟨k,_,rfl⟩:=hx
 have h:=agT k hn
 rw [<-aeF]
 have:=acm (k:=2) (decide ((mD n k:Int)<0)) (n:=(mD n k:Int).natAbs) (d:=1) ae aj
 omega
theorem abS {o p:List Rat} {k:Nat} {v:Rat} (hk:k<p.length) (de:o.length=p.length) (ht:o.take k=p.take k) (hv:v=p.getD k 0):(o.set k v).take (k+1)=p.take (k+1):=by subst hv;exact ase hk de ht
theorem aD0 (n:Nat) (f:Int->LV):((yb n).map f).take (n+1)=(yb n).map f:=by rw [dg (by simp [zK])]
theorem yy {p:List Rat} {k:Nat} (h:p.length<=k):p.getD k 0=0:=by
 rw [bp,yj h];rfl
theorem ahp {a b:List Rat} (h:a.length=b.length) (h2:∀ k,k<a.length->a.getD k 0=b.getD k 0):a=b:=by
 refine vk h fun k h1 h3=>?_
 have:=h2 k h1
 rw [bp,bp,b7 h1,b7 h3] at this
 exact this
theorem aGz (o:List Rat) (i:Nat) (v:Rat) (k:Nat) (h:i<o.length):(o.set i v).getD k 0=if i=k then v else o.getD k 0:=by
 rw [bp,bp,akT]
 split
 ·rename_i e;subst e;first | rw [if_pos h];rfl | rfl
 ·rfl
theorem iX {o:List Rat} {S:Nat} (h1:1<=S) (h:∀ x∈o,rl x<=S) (k:Nat):rl (o.getD k 0)<=S:=by
 rcases gC k o.length with hk | hk
 ·exact h _ (dK hk)
 ·rw [bp,yj hk];show rl 0<=S;rw [show rl 0=1 from rfl];exact h1
theorem aB1 {o:List Rat} {S:Nat} {i:Nat} {v:Rat} (h:∀ x∈o,rl x<=S) (hv:rl v<=S):∀ x∈o.set i v,rl x<=S:=fun x hx=>by
 rcases List.mem_or_eq_of_mem_set hx with h1 | h1
 ·exact h x h1
 ·rw [h1];exact hv
namespace arG
theorem aO {p q:Prop} (k:q) (e:p=q:=by simp only [e1,e2,e3,e4,p1,p2,p3,q1,q2,q3,l1,t0,t1,r1,r2,r3,r4,Nat.zero_add,Nat.reduceMul,Nat.reduceAdd,b1,b2,b3,b4,b5,b6,i1,i2,i3,i4,i5,i6,Nat.reduceBEq,dfi,cN,aD0,List.append_nil,zK,ek1,ek2,egr,nt,nm,jK,List.length_cons,List.length_nil,aV pP,aV ar,LV.kill,bX];exact rfl):p:=e.mpr k
end arG
open arG in
theorem am4 (n:Nat) (hn:n<=40):ax an 291 [ai n] (.list 3 ((ja n).map ah)):=by
 refine aW Tryz.func291 ?_
 have ek1:True:=trivial
 have ek2:True:=trivial
 have egr:True:=trivial
 refine pU ?_
 refine lR (az.mv (t:=3) (b:=8) 14 aj aj aj rfl rfl rfl) ?_
 refine dV (fun(k:Nat) L=>((((St.mk L.slot (hp [(14,⟨1,(yb k).map fZ,true⟩)])).put (some 3) (.ref 14 1 0 (k+1))).put (some 9) (ai n)).put (some 10) (ai k))) (fun k=>k<=n) (fun k=>n-k) 0 (b8 _) ?_
 rintro k L1 hk
 refine aC ?_
 refine aH rfl ?_ ?_<;>intro ajG h11
 ·have hkn:k<n:=by omega
  have ek2:((((k+1+1:Nat)):Int)-2)=(k:Int):=by omega
  refine bo ?_
  refine bS rfl (.app (news:=[fZ 1]) rfl rfl rfl rfl rfl (by simp [zK]) (.inl rfl) aj atV atV Z2 T2 rfl B2 (.inl ⟨13,0,_,rfl,by decide,rfl,rfl,by simp,rfl,rfl⟩) bz bz aj) ?_
  refine aA ?_
  refine cM (az.kill _ 13) ?_
  refine aZ ?_
  refine ma (fun(i:Nat) (o:List Int) L=>(((((St.mk L.slot (hp [(14,⟨1,o.map fZ,true⟩)])).put (some 3) (.ref 14 1 0 (k+1+1))).put (some 4) (ai i)).put (some 9) (ai n)).put (some 10) (ai k))) (fun i o=>i<=k/\adE k i o) (fun i o=>i) k (yb k++[1]) ⟨bq _,aFB k⟩ ?_
  rintro i o L2 ⟨hi,hP⟩
  refine aZ ?_
  refine aH rfl ?_ ?_<;>intro agV h19
  ·obtain⟨j,rfl⟩:∃ j,i=j+1:=⟨i-1,ae⟩
   have ek1:(((j+1:Nat):Int)-1)=(j:Int):=by omega
   have de:=hP.1
   have hb1:=asx hP ae (x:=j+1) ae
   have xI:=asx hP ae (x:=j) ae
   refine aA ?_
   refine a9 11 aq ?_
   refine aaN ?_
   exact jh j (o.set (j+1) (o.getD (j+1) 0+o.getD j 0)) ⟨ae,aIJ hP hi⟩
  ·obtain rfl:i=0:=by omega
   have hE:=azc hP
   subst hE
   refine bC ?_
   exact jL (k+1) ae
 ·obtain rfl:n=k:=by omega
  refine bD ?_
  refine fL rfl rfl (.nh (n:=n+1) (m:=n+1) ml ml om om om) ?_
  refine bG ?_
  refine ma (fun(i:Nat) (w:List Rat) L=>(((((St.mk L.slot (hp [(14,⟨1,(yb n).map fZ,true⟩),(36,⟨3,w.map ah,true⟩)])).put (some 5) (.ref 36 3 0 (n+1))).put (some 37) (.ref 14 1 0 (n+1))).put (some 38) (ai (n+1))).put (some 39) (ai i))) (fun i w=>i<=n+1/\w.length=n+1/\w.take i=(ja n).take i) (fun i w=>n+1-i) 0 (ay (n+1) 0) ⟨b8 _,by simp,rfl⟩ ?_
  rintro i w L3 ⟨hi,jb,lj⟩
  refine aC ?_
  refine aH rfl ?_ ?_<;>intro aml xd
  ·have s8:i<=n:=by omega
   have egr:=ani s8
   have oa:=agT i hn
   refine jI ?_
   refine cp aR (xx (mD n i:Int) ae ae) ?_
   refine bM ?_
   exact jh (i+1) (w.set i ((mD n i:Int):Rat)) ⟨ae,by simp [jb],abS (by rw [zU];omega) (by rw [zU,jb]) lj (aqZ ae).symm⟩
  ·obtain rfl:i=n+1:=by omega
   have hE:w=ja n:=by
    rw [dg ae,dg (by rw [zU];omega)] at lj
    exact lj
   subst hE
   refine bG ?_
   exact o4 [36] rfl rfl (fI ar rfl rfl (by rw [zU]))
theorem xj {a b:Nat} (h:a+b<=9223372036854775807):dN .add .i64 (a:Nat) (b:Nat)=some (.int .i64 ((a+b:Nat):Int)):=by
 rw [sW ae ae];congr 2
theorem agu {a:Nat} (h:a+1<=9223372036854775807):dN .add .i64 (a:Nat) 1=some (.int .i64 ((a+1:Nat):Int)):=by
 rw [sW ae ae];congr 2
theorem aIh {o:List Rat} {i:Nat} {v:Rat} (h:i<o.length):(o.set i v).getD i 0=v:=by rw [aaP _ _ _ _ h,if_pos rfl]
def vZ (x:Rat) (i:Nat) (y:List Rat) (q:List Rat) (o:List Rat):Nat->List Rat
 | 0=>o
 | j+1=>(vZ x i y q o j).set (i+j) ((vZ x i y q o j).getD (i+j) 0+x*(y.getD j 0*q.getD j 0))
def allM (p q:List Rat):Nat->List Rat
 | 0=>ay (p.length-1+(q.length-1)+1) 0
 | i+1=>vZ ((ja (p.length-1)).getD i 0*p.getD i 0) i (ja (q.length-1)) q (allM p q i) q.length
def lf (p q:List Rat):List Rat:=(c9 (p.length-1+(q.length-1)+1)).map fun k=>(allM p q p.length).getD k 0/(ja (p.length-1+(q.length-1))).getD k 0
theorem aeT (x:Rat) (i:Nat) (y q o:List Rat):∀ j,(vZ x i y q o j).length=o.length
 | 0=>rfl
 | j+1=>by simp [vZ,aeT x i y q o j]
theorem aeB (p q:List Rat):∀ i,(allM p q i).length=p.length-1+(q.length-1)+1
 | 0=>by simp [allM]
 | i+1=>by rw [allM,aeT,aeB p q i]
theorem ua (p q:List Rat):(lf p q).length=p.length-1+(q.length-1)+1:=by simp [lf]
theorem apZ {p q:List Rat} {k:Nat} (h:k<p.length-1+(q.length-1)+1):(lf p q).getD k 0=(allM p q p.length).getD k 0/(ja (p.length-1+(q.length-1))).getD k 0:=by
 rw [bp,b7 (by rw [ua];exact h)];simp [lf]
theorem anf {x:Rat} {i R S:Nat} {y q o:List Rat} (hS:1<=S) (ho:∀ v∈o,rl v<=S) (hx:rl x<=R+2) (hy:∀ v∈y,rl v<=2) (hq:∀ v∈q,rl v<=R) (hR:1<=R):∀ j,∀ v∈vZ x i y q o j,rl v<=S+j*(2*R+5)
 | 0,v,hv=>by have:=ho v hv;omega
 | j+1,v,hv=>by
   have ih:=anf (i:=i) hS ho hx hy hq hR j
   refine aB1 (S:=S+(j+1)*(2*R+5)) (fun w hw=>?_) ?_ v hv
   ·have:=ih w hw;rw [v9];omega
   ·have h1:=iX ae ih (i+j)
    have h2:=iX ae hy j
    have h3:=iX ae hq j
    have e1:=df (y.getD j 0) (q.getD j 0)
    have e2:=df x (y.getD j 0*q.getD j 0)
    have e3:=lN ((vZ x i y q o j).getD (i+j) 0) (x*(y.getD j 0*q.getD j 0))
    rw [v9];omega
theorem afk {p q:List Rat} {R:Nat} (gO:p.length<=41) (jV:q.length<=41) (hR:1<=R) (kG:∀ v∈p,rl v<=R) (hq':∀ v∈q,rl v<=R):∀ i,∀ v∈allM p q i,rl v<=1+i*(q.length*(2*R+5))
 | 0,v,hv=>by
   simp only [allM,List.mem_replicate] at hv
   rw [hv.2];show rl 0<=_;rw [show rl 0=1 from rfl];omega
 | i+1,v,hv=>by
   have ih:=afk gO jV hR kG hq' i
   have hx:rl ((ja (p.length-1)).getD i 0*p.getD i 0)<=R+2:=by
    have h1:=iX ae (abw (n:=p.length-1) ae) i
    have h2:=iX hR kG i
    have:=df ((ja (p.length-1)).getD i 0) (p.getD i 0)
    omega
   have:=anf ae ih hx (abw (n:=q.length-1) ae) hq' hR q.length v hv
   rw [v9];omega
theorem ayT {i j l R:Nat} (hi:i<=41) (hl:l<=41) (hj:j<=l) (hR:R<=67108864):1+i*(l*(2*R+5))+j*(2*R+5)<=231122948107:=by
 have h1:=mM hl (show 2*R+5<=134217733 by omega)
 have h2:=mM hi h1
 have h3:=mM (show j<=41 by omega) (show 2*R+5<=134217733 by omega)
 omega
theorem aI5 (n x:Nat):(ay n (0:Rat)).getD x 0=0:=by
 rw [bp,adP];split<;>rfl
def cX (p:List Rat):List Rat:=if p.length<2 then [0] else(c9 (p.length-1)).map fun i=>(((p.length-1:Nat):Int):Rat)*(p.getD (i+1) 0-p.getD i 0)
theorem wX {p:List Rat}:(cX p).length=if p.length<2 then 1 else p.length-1:=by unfold cX;split<;>simp
theorem aee {p:List Rat} {i:Nat} (h:i+1<p.length):(cX p).getD i 0=(((p.length-1:Nat):Int):Rat)*(p.getD (i+1) 0-p.getD i 0):=by
 unfold cX
 rw [if_neg ae,bp,b7 bz];simp
theorem ahX {p:List Rat} {R:Nat} (hR:1<=R) (hl:p.length<=1000) (h:∀ x∈p,rl x<=R):∀ x∈cX p,rl x<=2*R+4:=by
 intro x hx
 obtain⟨k,hk,rfl⟩:=afW hx
 rw [wX] at hk
 by_cases h2:p.length<2
 ·rw [if_pos h2] at hk
  have:cX p=[0]:=by unfold cX;rw [if_pos h2]
  rw [this]
  obtain rfl:k=0:=by omega
  show rl 0<=_
  rw [show rl 0=1 from rfl];omega
 ·rw [if_neg h2] at hk
  rw [aee ae]
  have h3:=ad9 (n:=((p.length-1:Nat):Int)) ae
  have h4:=h _ (dK (i:=k) ae)
  have h5:=h _ (dK (i:=k+1) ae)
  have h6:=jF (p.getD (k+1) 0) (p.getD k 0)
  have h7:=df (((p.length-1:Nat):Int):Rat) (p.getD (k+1) 0-p.getD k 0)
  omega
namespace axx
theorem aO {p q:Prop} (k:q) (e:p=q:=by simp only [e1,e2,e3,e4,p1,p2,p3,q1,q2,q3,l1,t0,t1,r1,r2,r3,r4,Nat.zero_add,Nat.reduceMul,Nat.reduceAdd,b1,b2,b3,b4,b5,b6,i1,i2,i3,i4,i5,i6,Nat.reduceBEq,cN,List.length_set,aV ar,cU,eu,LV.kill,bX];exact rfl):p:=e.mpr k
end axx
open axx in
theorem aif (p:List Rat) (hl:p.length<=1000) (oe:∀ x∈p,rl x<=1073741824):ax an 250 [.list 3 (p.map ah)] (.list 3 ((cX p).map ah)):=by
 refine aW Tryz.func250 ?_
 refine dH ?_
 refine aH rfl ?_ ?_<;>intro pZ h8
 ·have hE:cX p=[0]:=by unfold cX;rw [if_pos ae]
  refine aT ?_
  refine ak rfl qY ?_
  refine aC ?_
  rw [hE]
  exact o4 [10] rfl rfl (fI ar rfl rfl rfl)
 ·have nz:(cX p).length=p.length-1:=by rw [wX,if_neg ae]
  refine aC ?_
  refine ak rfl lK ?_
  refine cp aR (xx ((p.length-1:Nat):Int) ae ae) ?_
  refine bo ?_
  refine ak rfl lK ?_
  refine fL rfl rfl (.nh (n:=(p.length-1)) (m:=(p.length-1)) ml ml om om om) ?_
  refine bG ?_
  refine ma (fun(i:Nat) (w:List Rat) L=>(((((((St.mk L.slot (hp [(3,⟨3,[ah (((p.length-1:Nat):Int):Rat)],true⟩),(18,⟨3,w.map ah,true⟩)])).put (some 0) (.list 3 (p.map ah))).put (some 3) (.aD 3 3 0 0)).put (some 4) (.ref 18 3 0 (p.length-1))).put (some 19) (.ref 18 3 0 (p.length-1))).put (some 20) (ai (p.length-1))).put (some 21) (ai i))) (fun i w=>i<=p.length-1/\w.length=p.length-1/\w.take i=(cX p).take i) (fun i w=>p.length-1-i) 0 (ay (p.length-1) 0) ⟨b8 _,by simp,rfl⟩ ?_
  rintro i w L1 ⟨hi,jb,lj⟩
  refine aC ?_
  refine aH rfl ?_ ?_<;>intro aeH h22
  ·have dR:i<p.length-1:=by omega
   have fu:=oe _ (dK (i:=i) ae)
   have qj:=oe _ (dK (i:=i+1) ae)
   have hr3:=jF (p.getD (i+1) 0) (p.getD i 0)
   have hr4:=ad9 (n:=((p.length-1:Nat):Int)) ae
   refine bM ?_
   refine a9 15 aq ?_
   refine bc ?_
   refine ak rfl cV ?_
   refine aC ?_
   refine cp au (sw (p.getD (i+1) 0) (p.getD i 0) ae) ?_
   refine cp au (iR (((p.length-1:Nat):Int):Rat) (p.getD (i+1) 0-p.getD i 0) ae) ?_
   refine bM ?_
   exact jh (i+1) (w.set i ((((p.length-1:Nat):Int):Rat)*(p.getD (i+1) 0-p.getD i 0))) ⟨ae,by simp [jb],abS ae ae lj (aee ae).symm⟩
  ·obtain rfl:i=p.length-1:=by omega
   have hE:w=cX p:=by
    rw [dg ae,dg ae] at lj
    exact lj
   subst hE
   refine bG ?_
   exact o4 [18] rfl rfl (fI ar rfl rfl nz.symm)
end Go.Proofs.YtckppbhafancnaaGreat
namespace Go.Lg
theorem az.cF {L:St} {t:Nat} {x y:LV} (bs:List Nat) (h0:bs.contains 0=false) (h:L.slot t=x) (hi:cY (L.cd bs).heap x y):az L ((L.cd bs).put (some t) y):=by
 rintro n W X Z0 a w ⟨ey,bI,μ,Z,hc,hr⟩
 obtain⟨Z1,k1,k2⟩:=hc.xW (tb bs h0)
 refine⟨ey,bI,μ,Z1,by rw [mb];exact k1,fun s=>?_⟩
 have dQ:Frame Z μ w w:=⟨fun _ _=>rfl,fun _ id _ c _ _ hh=>⟨c,hh,rfl⟩⟩
 have hs:=(hr s).mono k2 (fun _ _ h=>h) dQ
 rw [iz]
 split
 ·rename_i dj
  subst dj
  rw [h] at hs
  exact bh.tw (LV.eW hi.lay.2.2) (hi.abT k1 hs)
 ·exact hs
end Go.Lg
namespace Go.Proofs.YtckppbhafancnaaGreat
open Go.Lg
theorem aD1 {a:Rat} (h:0<a):cW a=1:=by unfold cW;rw [if_neg cj,if_neg cj]
theorem aCq {a:Rat} (h:a<0):cW a=-1:=by unfold cW;rw [if_neg cj,if_pos h]
theorem aGu (a:Rat):(a=0/\cW a=0)\/(0<a/\cW a=1)\/(a<0/\cW a=-1):=by
 by_cases h:a=0
 ·exact .inl ⟨h,by rw [h];rfl⟩
 ·by_cases h1:a<0
  ·exact .inr (.inr ⟨h1,aCq h1⟩)
  ·have:0<a:=by grind
   exact .inr (.inl ⟨this,aD1 this⟩)
theorem ao3 {a:Rat} (h:cW a≠0):a≠0:=fun e=>h (by rw [e];rfl)
theorem aES {a b:Int} (h:b≠0) (h1:-9223372036854775808<=a.tdiv b) (h2:a.tdiv b<=9223372036854775807):dN .quo .i64 a b=some (.int .i64 (a.tdiv b)):=by
 simp only [dN];rw [if_neg h,IntWalk.i64_in _ ⟨h1,h2⟩]
def rtV (n d:Int):Rat:=((n % 41-20:Int):Rat)/((d % 8+1:Int):Rat)
theorem ap2 (n d:Int):rl (rtV n d)<=1:=by
 unfold rtV
 have h1:=ta n (show (41:Int)≠0 by decide)
 have h2:=sT n (show (0:Int)<41 by decide)
 have h3:=ta d (show (8:Int)≠0 by decide)
 have h4:=sT d (show (0:Int)<8 by decide)
 exact adS ae ae
def fE (a b:Rat):Nat->(Nat->Rat)->Rat
 | 0,f=>f 0
 | n+1,f=>fE a b n (fun i=>a*f i+b*f (i+1))
theorem pn (a b:Rat):∀ (n:Nat) (f g:Nat->Rat),(∀ i,i<=n->f i=g i)->fE a b n f=fE a b n g
 | 0,f,g,h=>h 0 (bq _)
 | n+1,f,g,h=>pn a b n _ _ fun i hi=>by rw [h i ae,h (i+1) ae]
theorem xV (a b c d:Rat):∀ (n:Nat) (f g:Nat->Rat),fE a b n (fun i=>c*f i+d*g i)=c*fE a b n f+d*fE a b n g
 | 0,f,g=>rfl
 | n+1,f,g=>by
  rw [fE,fE,fE,<-xV a b c d n]
  congr 1;funext i;grind
theorem ahe (a b:Rat) (n:Nat) (f:Nat->Rat):fE a b (n+1) f=a*fE a b n f+b*fE a b n (fun i=>f (i+1)):=xV a b a b n f (fun i=>f (i+1))
theorem alL (a b u v:Rat):∀ (n:Nat) (f:Nat->Rat),fE a b n (fun k=>fE u v k f)=fE (a+b*u) (b*v) n f
 | 0,f=>rfl
 | n+1,f=>by
  rw [ahe,alL a b u v n f]
  have e:=alL a b u v n (fun i=>u*f i+v*f (i+1))
  have e2:(fun i=>fE u v (i+1) f)=(fun k=>fE u v k (fun i=>u*f i+v*f (i+1))):=rfl
  rw [e2,e,<-xV]
  show fE _ _ n _=fE _ _ n _
  congr 1;funext i;grind
theorem aks (t:Rat):∀ (k:Nat) (q:List Rat),k<q.length->(v7 t q.length q).getD k 0=fE (1-t) t k (fun i=>q.getD i 0)
 | 0,q,h=>by
  obtain⟨m,hm⟩:∃ m,q.length=m+1:=⟨q.length-1,ae⟩
  rw [hm];rfl
 | k+1,q,h=>by
  obtain⟨m,hm⟩:∃ m,q.length=m+1:=⟨q.length-1,ae⟩
  have hs:(jP t q).length=m:=by rw [rQ];omega
  have:=aks t k (jP t q) ae
  rw [hs] at this
  rw [hm,v7,ati,this,fE]
  exact pn _ _ _ _ _ fun i hi=>adh t q i ae
theorem mZ {p:List Rat} {t:Rat} (h:0<p.length):aJ p t=fE (1-t) t (p.length-1) (fun i=>p.getD i 0):=aks t _ p ae
theorem agq:∀ (n:Nat) (f:Nat->Rat),fE 0 1 n f=f n
 | 0,f=>rfl
 | n+1,f=>by rw [fE,agq n];grind
theorem akz {t:Rat} {C M:Nat} (hC:rl (1-t)+rl t+1<=C):∀ (k:Nat) (q:List Rat),q.length=k->(∀ x∈q,(rl x+C)*2 ^ k<=M)->∀ x∈v7 t k q,rl x+C<=M
 | 0,q,_,_,x,hx=>by cases hx
 | k+1,q,hq,h,x,hx=>by
  rw [v7,fx] at hx
  rcases hx with rfl | hx
  ·exact acO (h _ (dK ae))
  ·exact akz hC k (jP t q) (by rw [rQ];omega) (akg hC h) x hx
theorem apk {t:Rat} {C M:Nat} (hC:rl (1-t)+rl t+1<=C):∀ (k:Nat) (q tl:List Rat),q.length=k->(∀ x∈q,(rl x+C)*2 ^ k<=M)->(∀ x∈tl,rl x+C<=M)->∀ x∈vy t k q tl,rl x+C<=M
 | 0,q,tl,hq,_,h2,x,hx=>by
  obtain rfl:q=[]:=nM hq
  exact h2 x hx
 | k+1,q,tl,hq,h,h2,x,hx=>by
  refine apk hC k (jP t q) _ (by rw [rQ];omega) (akg hC h) (fun y hy=>?_) x hx
  rcases fx.1 hy with rfl | hy
  ·exact acO (h _ (dK ae))
  ·exact h2 y hy
theorem HS.lo {p:List Rat} {t:Rat} (h:HS p t):∀ x∈rk p t,Go.Lg.rl x<=1073741824:=fun x hx=>by
 obtain⟨cc,h1,h2,h3⟩:=h
 have:=akz h1 p.length p rfl h3 x hx
 omega
theorem HS.hi {p:List Rat} {t:Rat} (h:HS p t):∀ x∈nU p t,Go.Lg.rl x<=1073741824:=fun x hx=>by
 obtain⟨cc,h1,h2,h3⟩:=h
 have:=apk h1 p.length p [] rfl h3 (fun y hy=>by cases hy) x hx
 omega
theorem HS.ev {p:List Rat} {t:Rat} (h:HS p t):Go.Lg.rl (aJ p t)<=1073741824:=iX aj h.lo _
theorem akC (a b:Rat):∀ (n:Nat) (f:Nat->Rat),fE a b n f=fE b a n (fun i=>f (n-i))
 | 0,f=>rfl
 | n+1,f=>by
  rw [ahe,ahe,akC a b n f,akC a b n (fun i=>f (i+1))]
  have e1:fE b a n (fun i=>f (n-i+1))=fE b a n (fun i=>f (n+1-i)):=pn _ _ _ _ _ fun i hi=>by congr 1;omega
  have e2:(fun i=>f (n+1-(i+1)))=fun i=>f (n-i):=by funext i;congr 1;omega
  rw [e1,e2];grind
theorem apM (t:Rat):∀ (k:Nat) (q tl:List Rat),q.length=k->∀ j,j<k->(vy t k q tl).getD j 0=fE (1-t) t (k-1-j) (fun i=>q.getD (j+i) 0)
 | 0,_,_,_,j,h=>by omega
 | k+1,q,tl,hq,j,hj=>by
  rw [vy]
  have hs:(jP t q).length=k:=by rw [rQ];omega
  rcases gC j k with h | h
  ·rw [apM t k _ _ hs j h,show k+1-1-j=k-1-j+1 by omega,fE]
   exact pn _ _ _ _ _ fun i hi=>by rw [adh t q _ ae];rfl
  ·obtain rfl:j=k:=by omega
   rw [show j+1-1-j=0 by omega]
   have hE:∀ (m:Nat) (q' tl':List Rat),q'.length=m->∀ x,(vy t m q' tl').getD (m+x) 0=tl'.getD x 0:=by
    intro m
    induction m with
    | zero=>intro q' tl' h x;obtain rfl:q'=[]:=nM h;rw [fF];rfl
    | succ m ih =>
     intro q' tl' h x
     rw [vy,show m+1+x=m+(x+1) by omega,ih _ _ (by rw [rQ];omega)];rfl
   have:=hE j (jP t q) (q.getD j 0 :: tl) hs 0
   rw [mS] at this
   rw [this];rfl
theorem aic {p:List Rat} {j:Nat} (h:j<p.length) (t:Rat):(nU p t).getD j 0=fE (1-t) t (p.length-1-j) (fun i=>p.getD (j+i) 0):=apM t _ p [] rfl j h
theorem ail {p:List Rat} {j:Nat} (h:j<p.length) (t:Rat):(rk p t).getD j 0=fE (1-t) t j (fun i=>p.getD i 0):=aks t j p h
def eH (p:List Rat) (a b:Rat):List Rat:=if a=1 then rk (nU p.reverse 0) ((1-b-0)/(1-0)) else rk (nU p a) ((b-a)/(1-a))
theorem af2:∀ (n:Nat) (f:Nat->Rat),fE 1 0 n f=f 0
 | 0,f=>rfl
 | n+1,f=>by rw [fE,af2 n];grind
theorem aIg (p:List Rat):nU p 0=p:=by
 refine ahp (aaA p 0) fun j hj=>?_
 rw [aaA] at hj
 rw [aic hj,show (1:Rat)-0=1 from by grind,af2];rfl
theorem arJ (p:List Rat) (a b:Rat):xL p a b=eH p a b:=by
 unfold xL eH
 by_cases ha:a=1
 ·subst ha
  rw [if_neg cj,if_pos rfl,aIg]
  have e0:(1-b-0)/(1-0)=1-b:=by rw [show (1:Rat)-0=1 by grind,show (1:Rat)-b-0=1-b by grind,iV,Rat.inv_eq_of_mul_eq_one (show (1:Rat)*1=1 by grind),pI]
  rw [e0]
  have hr:p.reverse.length=p.length:=List.length_reverse
  by_cases hb:b=0
  ·subst hb
   rw [if_neg cj]
   refine ahp (by rw [z6]) fun j hj=>?_
   rw [ail hj,show (1:Rat)-(1-0)=0 by grind,show (1:Rat)-0=1 by grind,agq]
  ·rw [if_pos hb]
   refine ahp (by rw [aaA,z6,z6,hr]) fun j hj=>?_
   rw [aaA,z6] at hj
   rw [aic (by rw [z6];exact hj),z6,ail (by rw [hr];exact hj)]
   have e1:fE (1-1/b) (1/b) (p.length-1-j) (fun i=>(rk p b).getD (j+i) 0)=fE (1-1/b) (1/b) (p.length-1-j) (fun k=>fE (1-b) b k (fun i=>fE (1-b) b j (fun x=>p.getD (i+x) 0))):=by
    refine pn _ _ _ _ _ fun i hi=>?_
    rw [ail ae]
    have aAX:∀ (i j:Nat) (f:Nat->Rat),fE (1-b) b (j+i) f=fE (1-b) b i (fun y=>fE (1-b) b j (fun x=>f (y+x))):=by
     intro i
     induction i with
     | zero=>intro j f;show fE (1-b) b j f=fE (1-b) b j (fun x=>f (0+x));simp only [fF]
     | succ i ih =>
      intro j f
      rw [show j+(i+1)=(j+i)+1 by omega,fE,ih j,fE]
      refine pn _ _ _ _ _ fun y hy=>?_
      have:=xV (1-b) b (1-b) b j (fun x=>f (y+x)) (fun x=>f (y+x+1))
      rw [this]
      congr 3
      funext x;congr 1;omega
    exact aAX i j _
   have hi:=aoc _ hb
   rw [e1,alL,show (1-1/b)+(1/b)*(1-b)=0 by rw [iV];grind,show 1/b*b=1 by rw [iV];grind,agq,akC]
   rw [show (1:Rat)-(1-b)=b by grind]
   refine pn _ _ _ _ _ fun i hi=>?_
   rw [aoN p ae]
   congr 1;omega
 ·rw [if_pos cj,if_neg ha]
theorem aAY (p:List Rat) (a b:Rat):(xL p a b).length=p.length:=by
 unfold xL
 split
 ·rw [z6,aaA]
 ·split
  ·rw [aaA,z6]
  ·simp
def fb (a b:Rat):Rat:=if b<a then b else a
def eQ (a b:Rat):Rat:=if a<b then b else a
def ga (s:Rat × Rat) (t:Rat × Rat):Rat × Rat:=(fb s.1 t.1,eQ s.2 t.2)
def ko (p:List Rat):Nat->Rat × Rat
 | 0=>(0,0)
 | k+1=>ga (if k=0 then(p.getD k 0,p.getD k 0) else ko p k) (p.getD k 0,p.getD k 0)
def eF (p:List Rat):Rat × Rat:=ko p p.length
theorem ay0 (a:Rat):fb a a=a:=by unfold fb;split<;>rfl
theorem aoP (a:Rat):eQ a a=a:=by unfold eQ;split<;>rfl
theorem aKc (a b:Rat):fb a b<=a/\fb a b<=b/\(fb a b=a\/fb a b=b):=by unfold fb;split<;>grind
theorem aFH (a b:Rat):a<=eQ a b/\b<=eQ a b/\(eQ a b=a\/eQ a b=b):=by unfold eQ;split<;>grind
theorem aey (p:List Rat):∀ k,(∀ i,i<k->(ko p k).1<=p.getD i 0/\p.getD i 0<=(ko p k).2)/\(0<k->(∃ i,i<k/\(ko p k).1=p.getD i 0)/\∃ i,i<k/\(ko p k).2=p.getD i 0)
 | 0=>⟨fun i h=>by omega,fun h=>by omega⟩
 | k+1=>by
  obtain⟨h1,h2⟩:=aey p k
  rw [ko]
  by_cases hk:k=0
  ·subst hk
   rw [if_pos rfl]
   simp only [ga,ay0,aoP]
   refine⟨fun i hi=>?_,fun _=>⟨⟨0,ae,rfl⟩,⟨0,ae,rfl⟩⟩⟩
   obtain rfl:i=0:=by omega
   exact⟨gf,gf⟩
  ·rw [if_neg hk]
   obtain⟨⟨i,hi,ei⟩,⟨j,hj,ej⟩⟩:=h2 ae
   have a:=aKc (ko p k).1 (p.getD k 0)
   have b:=aFH (ko p k).2 (p.getD k 0)
   simp only [ga]
   refine⟨fun x hx=>?_,fun _=>⟨?_,?_⟩⟩
   ·by_cases uN:x=k
    ·subst uN;exact⟨a.2.1,b.2.1⟩
    ·have:=h1 x ae
     exact⟨gR a.1 this.1,gR this.2 b.1⟩
   ·rcases a.2.2 with e | e
    ·exact⟨i,ae,by rw [e,ei]⟩
    ·exact⟨k,ae,e⟩
   ·rcases b.2.2 with e | e
    ·exact⟨j,ae,by rw [e,ej]⟩
    ·exact⟨k,ae,e⟩
theorem ajS {p:List Rat} {R:Nat} (hR:1<=R) (h:∀ k,rl (p.getD k 0)<=R):∀ k,rl (ko p k).1<=R/\rl (ko p k).2<=R
 | 0=>⟨hR,hR⟩
 | k+1=>by
  obtain⟨⟨i,_,ei⟩,⟨j,_,ej⟩⟩:=(aey p (k+1)).2 ae
  rw [ei,ej]
  exact⟨h i,h j⟩
theorem alJ {p:List Rat} {R:Nat} (hR:1<=R) (h:∀ x∈p,rl x<=R) (k:Nat):rl (p.getD k 0)<=R:=iX hR h k
theorem afm {a b:Rat}:gJ a b<=0↔a<=b:=by
 unfold gJ;split
 ·rename_i h;exact⟨fun _=>ib h,fun _=>by decide⟩
 ·split
  ·rename_i h;exact⟨fun e=>absurd e aj,fun e=>absurd h (asc.2 e)⟩
  ·rename_i h;exact⟨fun _=>asc.1 h,fun _=>by decide⟩
def jX (s:Rat × Rat) (x:Rat):Bool:=decide (s.1<=x) && decide (x<=s.2)
theorem aBL {s:Rat × Rat} {x:Rat} (h:decide (gJ s.1 x<=0)=true):decide (gJ x s.2<=0)=jX s x:=by
 unfold jX
 rw [decide_eq_true (afm.1 (of_decide_eq_true h)),Bool.true_and,decide_eq_decide,afm]
theorem aJw {s:Rat × Rat} {x:Rat} (h:decide (gJ s.1 x<=0)=false):false=jX s x:=by
 unfold jX
 rw [decide_eq_false (fun e=>of_decide_eq_false h (afm.2 e)),Bool.false_and]
def jw (n:Int):Int:=1+(n.tdiv 17) % 12
def qM (n:Int):Rat:=((n % (jw n+1):Int):Rat)/((jw n:Int):Rat)
theorem aiD (n:Int):1<=jw n/\jw n<=12:=by
 unfold jw
 have h1:=ta (n.tdiv 17) (show (12:Int)≠0 by decide)
 have h2:=sT (n.tdiv 17) (show (0:Int)<12 by decide)
 omega
theorem ayW {a b:Int} (ha:0<=a) (hb:0<b):(0:Rat)<=(a:Rat)/(b:Rat):=by
 rw [iV]
 exact iN (z8.2 ha) (ib (aiK.2 (sK.2 hb)))
theorem aCP {a b c:Int} (hc:0<c) (h:a+b=c):(a:Rat)/(c:Rat)+(b:Rat)/(c:Rat)=1:=by
 have h1:(c:Rat)≠0:=fun e=>by have:=axr.1 e;omega
 rw [iV,iV,<-Rat.add_mul,<-abD,h,aoc _ h1]
theorem aDx {m M a b x y:Rat} (ha:0<=a) (hb:0<=b) (cL:a+b=1) (hx:m<=x/\x<=M) (hy:m<=y/\y<=M):m<=a*x+b*y/\a*x+b*y<=M:=by
 have h1:=iN ha (show 0<=x-m by grind)
 have h2:=iN hb (show 0<=y-m by grind)
 have h3:=iN ha (show 0<=M-x by grind)
 have h4:=iN hb (show 0<=M-y by grind)
 have e1:b=1-a:=by grind
 subst e1
 constructor<;>grind
def inR (m M:Rat) (l:List Rat):Prop:=∀ i,i<l.length->m<=l.getD i 0/\l.getD i 0<=M
theorem az8 {t m M:Rat} (h0:0<=t) (h1:t<=1) {p:List Rat} (h:inR m M p):inR m M (jP t p):=fun i hi=>by
 rw [rQ] at hi
 rw [adh t p i ae]
 exact aDx cj h0 cj (h i ae) (h (i+1) ae)
theorem aFK {m M x:Rat} {l:List Rat} (hx:m<=x/\x<=M) (h:inR m M l):inR m M (x :: l)
 | 0,_=>hx
 | i+1,hi=>h i (by simpa using hi)
theorem au3 {t m M:Rat} (h0:0<=t) (h1:t<=1):∀ (k:Nat) (p:List Rat),p.length=k->inR m M p->inR m M (v7 t k p)
 | 0,_,_,_=>fun i hi=>by simp [v7] at hi
 | k+1,p,hp,h=>aFK (h 0 ae) (au3 h0 h1 k (jP t p) (by rw [rQ];omega) (az8 h0 h1 h))
theorem akf (p:List Rat):inR (eF p).1 (eF p).2 p:=fun i hi=>(aey p p.length).1 i hi
theorem aJT {p:List Rat} {x:Rat} (h:(eF p).1<=x/\x<=(eF p).2):jX (eF p) x=true:=by
 unfold jX;rw [decide_eq_true h.1,decide_eq_true h.2];rfl
theorem aF4 (n:Int):0<=qM n/\qM n<=1:=by
 have hd:=aiD n
 have h1:=ta n (show jw n+1≠0 by omega)
 have h2:=sT n (show (0:Int)<jw n+1 by omega)
 have h3:=ayW (a:=n % (jw n+1)) (b:=jw n) h1 ae
 have h4:=ayW (a:=jw n-n % (jw n+1)) (b:=jw n) ae ae
 have h5:=aCP (a:=n % (jw n+1)) (b:=jw n-n % (jw n+1)) (c:=jw n) ae ae
 unfold qM
 exact⟨h3,by grind⟩
theorem axD (n:Int):rl (qM n)<=1:=by
 have hd:=aiD n
 have h1:=ta n (show jw n+1≠0 by omega)
 have h2:=sT n (show (0:Int)<jw n+1 by omega)
 exact adS ae ae
theorem aq8 {p:List Rat} {t:Rat} (h0:0<=t) (h1:t<=1) (h:0<p.length):jX (eF p) (aJ p t)=true :=
 aJT (au3 h0 h1 _ p rfl (akf p) _ (by rw [alY];omega))
theorem ajt {p:List Rat} {R:Nat} (hR:1<=R) (h:∀ x∈p,rl x<=R):rl (eF p).1<=R/\rl (eF p).2<=R:=ajS hR (alJ hR h) p.length
open H0 in
theorem acg (a b:Rat) (h:rl a+rl b<=549755813888):ax an 90 [ah a,ah b] (aE (fb a b,eQ a b)):=by
 refine aW Tryz.func90 ?_
 refine bo ?_
 refine a9 7 aq ?_
 refine aT ?_
 refine cp au (ajx _ _ ae) ?_
 refine aT ?_
 refine cp au (ais _ _ ae) ?_
 refine bc ?_
 exact uy
namespace axq
theorem aO {p q:Prop} (k:q) (e:p=q:=by simp only [e1,e2,e3,e4,p1,p2,p3,q1,q2,q3,l1,t0,t1,r1,r2,r3,r4,Nat.zero_add,Nat.reduceMul,Nat.reduceAdd,b1,b2,b3,b4,b5,b6,i1,i2,i3,i4,i5,i6,Nat.reduceBEq,ay0,aoP];exact rfl):p:=e.mpr k
end axq
open axq in
theorem tD (a:Rat) (h:rl a+rl a<=549755813888):ax an 181 [ah a] (aE (a,a)):=by
 refine aW Tryz.func181 ?_
 refine bM ?_
 refine cp au (acg _ _ ae) ?_
 refine aA ?_
 exact uy
open H0 in
theorem wv (s t:Rat × Rat) (h1:rl s.1+rl t.1<=549755813888) (h2:rl s.2+rl t.2<=549755813888):ax an 182 [aE s,aE t] (aE (ga s t)):=by
 refine aW Tryz.func182 ?_
 refine bo ?_
 refine a9 11 aq ?_
 refine aA ?_
 refine cp au (ajx _ _ ae) ?_
 refine aA ?_
 refine cp au (ais _ _ ae) ?_
 refine bc ?_
 exact uy
namespace aqz
theorem aO {p q:Prop} (k:q) (e:p=q:=by simp only [e1,e2,e3,e4,p1,p2,p3,q1,q2,q3,l1,t0,t1,r1,r2,r3,r4,Nat.zero_add,Nat.reduceMul,Nat.reduceAdd,b1,b2,b3,b4,b5,b6,i1,i2,i3,i4,i5,i6,Nat.reduceBEq,cN,zx,aV ar,cU,eu,LV.kill,bX];exact rfl):p:=e.mpr k
end aqz
open aqz in
theorem aiy (p:List Rat) (hl:p.length<=1048576) (oe:∀ x∈p,rl x<=137438953472):ax an 184 [.list 3 (p.map ah)] (aE (eF p)):=by
 refine aW Tryz.func184 ?_
 have zx:True:=trivial
 refine pU ?_
 refine dV (fun(k:Nat) L=>((((((St.mk L.slot (hp [(2,⟨6,[aE (0,0)],true⟩),(3,⟨6,[aE (ko p k)],true⟩)])).put (some 2) (.aD 2 6 0 0)).put (some 3) (.aD 3 6 0 0)).put (some 6) (.list 3 (p.map ah))).put (some 7) (ai p.length)).put (some 8) (ai k))) (fun k=>k<=p.length) (fun k=>p.length-k) 0 (b8 _) ?_
 rintro k L1 hk
 refine aC ?_
 refine aH rfl ?_ ?_<;>intro wQ h9
 ·have nv:k<p.length:=by omega
  have fu:=alJ (R:=137438953472) aj oe
  have qj:=fu k
  have hr3:=ajS aj fu k
  have hr4:rl ((p.getD k 0,p.getD k 0):Rat × Rat).1<=137438953472:=qj
  have hr5:rl ((p.getD k 0,p.getD k 0):Rat × Rat).2<=137438953472:=qj
  have zx:ko p (k+1)=ga (if k=0 then(p.getD k 0,p.getD k 0) else ko p k) (p.getD k 0,p.getD k 0):=rfl
  refine aaN ?_
  refine aH rfl ?_ ?_<;>intro qC lG
  ·have lS:k=0:=by omega
   rw [if_pos lS] at zx
   refine aT ?_
   refine cp aR (tD _ ae) ?_
   refine aQ ?_
   refine a9 4 aq ?_
   refine aT ?_
   refine cp aR (tD _ ae) ?_
   refine cp au (wv _ _ ae ae) ?_
   refine aA ?_
   refine cM (az.kill _ 5) ?_
   refine aA ?_
   exact jL (k+1) ae
  ·have lS:¬ k=0:=by omega
   rw [if_neg lS] at zx
   refine aT ?_
   refine a9 4 aq ?_
   refine aT ?_
   refine cp aR (tD _ ae) ?_
   refine cp au (wv _ _ ae ae) ?_
   refine aA ?_
   refine cM (az.kill _ 5) ?_
   refine aA ?_
   exact jL (k+1) ae
 ·obtain rfl:k=p.length:=by omega
  refine bG ?_
  exact uy
open H0 in
theorem azd (n:Int) (hn:-9223372036854775808<=n/\n<=9223372036854775807):ax an 61 [iL n] (ah (qM n)):=by
 have hd:=aiD n
 have hq:(n.tdiv 17).natAbs=n.natAbs/17:=Int.natAbs_tdiv _ _
 have hpd:jw n=1+(n.tdiv 17) % 12:=rfl
 have h1:=ta n (show jw n+1≠0 by omega)
 have h2:=sT n (show (0:Int)<jw n+1 by omega)
 refine aW Tryz.func61 ?_
 refine bo ?_
 refine ak rfl (.bin rfl rfl (aES (a:=n) (b:=17) aj ae ae)) ?_
 refine cp au (zO (n.tdiv 17) 12 aj aj) ?_
 refine ak rfl yi ?_
 refine aZ ?_
 refine ak rfl (.bin rfl rfl (sW (a:=jw n) ae ae)) ?_
 refine cp au (zO n (jw n+1) ae ae) ?_
 refine av ?_
 refine cp au (aby (n % (jw n+1)) (jw n) ae ae ae ae ae) ?_
 refine aA ?_
 exact gy
open H0 in
theorem ark (n d:Int) (hn:-9223372036854775808<=n/\n<=9223372036854775807) (hd:-9223372036854775808<=d/\d<=9223372036854775807):ax an 27 [iL n,iL d] (ah (rtV n d)):=by
 have h1:=ta n (show (41:Int)≠0 by decide)
 have h2:=sT n (show (0:Int)<41 by decide)
 have h3:=ta d (show (8:Int)≠0 by decide)
 have h4:=sT d (show (0:Int)<8 by decide)
 refine aW Tryz.func27 ?_
 refine bo ?_
 refine cp au (zO n 41 aj aj) ?_
 refine ak rfl wC ?_
 refine av ?_
 refine cp au (zO d 8 aj aj) ?_
 refine ak rfl yi ?_
 refine cp au (aby (n % 41-20) (d % 8+1) ae ae ae ae ae) ?_
 refine aA ?_
 exact gy
open H0 in
theorem aCb (s:Rat × Rat) (h1:rl s.1<=17179869184) (h2:rl s.2<=17179869184):ax an 75 [aE s,aE s] (bL true):=by
 refine aW Tryz.func75 ?_
 refine dH ?_
 refine cp au (amY _ _ ae) ?_
 refine av ?_
 refine ak (aP (v:=true) rfl rfl ((decide_eq_true rfl)) rfl) jO ?_
 refine ak (aP (v:=true) rfl rfl ((decide_eq_true rfl)) rfl) gg ?_
 refine ak (aP (v:=true) rfl rfl ((decide_eq_true rfl)) rfl) jO ?_
 refine ak (aP (v:=true) rfl rfl ((decide_eq_true rfl)) rfl) gg ?_
 refine fG (aP (v:=true) rfl rfl ((decide_eq_true rfl)) rfl) (.cons et (.cons et .nil)) (amY _ _ ae) ?_
 refine ak rfl (.ou rfl ((decide_eq_true rfl))) ?_
 refine aA ?_
 exact dT (x:=bL true) rfl (.pure rfl)
def lM (p q:V3):V3:=⟨p.x+q.x,p.y+q.y,p.z+q.z⟩
def gI (p q:V3):V3:=⟨p.x-q.x,p.y-q.y,p.z-q.z⟩
def jC (r:Rat) (p:V3):V3:=⟨r*p.x,r*p.y,r*p.z⟩
def b9 (p q:V3):Rat:=0+p.x*q.x+p.y*q.y+p.z*q.z
def cJ (R:Nat) (p:V3):Prop:=rl p.x<=R/\rl p.y<=R/\rl p.z<=R
theorem cJ.le {R S:Nat} {p:V3} (h:cJ R p) (hRS:R<=S):cJ S p:=⟨ba h.1 hRS,ba h.2.1 hRS,ba h.2.2 hRS⟩
theorem acS {R S:Nat} {p q:V3} (hp:cJ R p) (hq:cJ S q):rl (b9 p q)<=3*(R+S)+4:=by
 obtain⟨a1,a2,a3⟩:=hp
 obtain⟨b1,b2,b3⟩:=hq
 have h1:=df p.x q.x
 have h2:=df p.y q.y
 have h3:=df p.z q.z
 have h4:=lN 0 (p.x*q.x)
 have h5:=lN (0+p.x*q.x) (p.y*q.y)
 have h6:=lN (0+p.x*q.x+p.y*q.y) (p.z*q.z)
 have h0:rl 0=1:=rfl
 unfold b9
 omega
def xa (a b p:V3):Rat :=
 if b9 (gI p a) (gI b a)<=0 then b9 (gI p a) (gI p a)
 else if b9 (gI b a) (gI b a)<=b9 (gI p a) (gI b a) then b9 (gI p b) (gI p b)
 else b9 (gI p (lM a (jC (b9 (gI p a) (gI b a)/b9 (gI b a) (gI b a)) (gI b a)))) (gI p (lM a (jC (b9 (gI p a) (gI b a)/b9 (gI b a) (gI b a)) (gI b a))))
def sf (R:Nat) (q:aG):Prop:=cJ R q.p/\rl q.w<=R/\0<q.w
theorem eN (q:V3) (b:Nat):(a5 q).kill b=a5 q:=LV.mr b _ (bl.pure q)
theorem eY (q:aG) (b:Nat):(aY q).kill b=aY q:=LV.mr b _ (bF.pure q)
namespace arX
theorem aO {p q:Prop} (k:q) (e:p=q:=by simp only [e1,e2,e3,e4,p1,p2,p3,q1,q2,q3,l1,t0,t1,r1,r2,r3,r4,Nat.zero_add,Nat.reduceMul,Nat.reduceAdd,b1,b2,b3,b4,b5,b6,i1,i2,i3,i4,i5,i6,Nat.reduceBEq,adx];exact rfl):p:=e.mpr k
end arX
open arX in
theorem as2 (f:Nat) (g:Rat->Rat->Rat) (p q:V3) (h1:ax an f [ah p.x,ah q.x] (ah (g p.x q.x))) (h2:ax an f [ah p.y,ah q.y] (ah (g p.y q.y))) (h3:ax an f [ah p.z,ah q.z] (ah (g p.z q.z))):ax an 193 [a5 p,a5 q,.dq f []] (a5 ⟨g p.x q.x,g p.y q.y,g p.z q.z⟩):=by
 refine aW Tryz.func193 (ht:=(fun r=>LV.di r _ (bl.pure _))) ?_
 refine pU ?_
 refine bN ?_
 refine aC ?_
 refine cu (b:=_) rfl aj ?_
 refine bM ?_
 refine a9 10 aq ?_
 refine bo ?_
 refine oD [] rfl rfl (.dq (f:=f) (cap:=[]) (args:=[ah p.x,ah q.x]) rfl (.cons et (.cons et .nil)) ⟨rfl,fun _ h=>by cases h⟩ h1.1 aj (fun _ h=>by cases h)) (h1.2 _) ?_
 refine bM ?_
 refine bN ?_
 refine aC ?_
 refine cu (b:=_) rfl aj ?_
 refine bM ?_
 refine a9 10 aq ?_
 refine bo ?_
 refine oD [] rfl rfl (.dq (f:=f) (cap:=[]) (args:=[ah p.y,ah q.y]) rfl (.cons et (.cons et .nil)) ⟨rfl,fun _ h=>by cases h⟩ h2.1 aj (fun _ h=>by cases h)) (h2.2 _) ?_
 refine bM ?_
 refine bN ?_
 refine aC ?_
 refine cu (b:=_) rfl aj ?_
 refine bM ?_
 refine a9 10 aq ?_
 refine bo ?_
 refine oD [] rfl rfl (.dq (f:=f) (cap:=[]) (args:=[ah p.z,ah q.z]) rfl (.cons et (.cons et .nil)) ⟨rfl,fun _ h=>by cases h⟩ h3.1 aj (fun _ h=>by cases h)) (h3.2 _) ?_
 refine bM ?_
 refine bN ?_
 refine aC ?_
 refine ff (b:=_) rfl aj ?_
 refine bG ?_
 exact tV
open H0 in
theorem aH4 (p q:V3) (R:Nat) (hR:R<=100000000000) (hp:cJ R p) (hq:cJ R q):ax an 255 [a5 p,a5 q] (a5 (lM p q)):=by
 obtain⟨a1,a2,a3⟩:=hp
 obtain⟨b1,b2,b3⟩:=hq
 refine aW Tryz.func255 (ht:=(fun r=>LV.di r _ (bl.pure _))) ?_
 refine bC ?_
 refine cp ig (as2 95 (·+·) p q (jJ _ _ ae) (jJ _ _ ae) (jJ _ _ ae)) ?_
 refine aA ?_
 exact tV
open H0 in
theorem aeU (r:Rat) (p:V3) (R:Nat) (hR:R<=100000000000) (hr:rl r<=R) (hp:cJ R p):ax an 106 [ah r,a5 p] (a5 (jC r p)):=by
 obtain⟨a1,a2,a3⟩:=hp
 refine aW Tryz.func106 (ht:=(fun r=>LV.di r _ (bl.pure _))) ?_
 refine dM ?_
 refine cp ig (as2 191 (·*·) ⟨r,r,r⟩ p (iR r p.x ae) (iR r p.y ae) (iR r p.z ae)) ?_
 refine aA ?_
 exact tV
open H0 in
theorem afj (p q:V3) (R:Nat) (hR:R<=1000000000) (hp:cJ R p) (hq:cJ R q):ax an 254 [a5 p,a5 q] (ah (b9 p q)):=by
 obtain⟨a1,a2,a3⟩:=hp
 obtain⟨b1,b2,b3⟩:=hq
 have m1:=df p.x q.x
 have m2:=df p.y q.y
 have m3:=df p.z q.z
 have s1:=lN 0 (p.x*q.x)
 have s2:=lN (0+p.x*q.x) (p.y*q.y)
 have hz0:rl 0=1:=rfl
 refine aW Tryz.func254 ?_
 refine pU ?_
 refine bN ?_
 refine aC ?_
 refine cu (b:=_) rfl aj ?_
 refine bM ?_
 refine a9 9 aq ?_
 refine aZ ?_
 refine cp au (iR p.x q.x ae) ?_
 refine cp au (jJ 0 (p.x*q.x) ae) ?_
 refine bD ?_
 refine bN ?_
 refine aC ?_
 refine cu (b:=_) rfl aj ?_
 refine bM ?_
 refine a9 9 aq ?_
 refine aZ ?_
 refine cp au (iR p.y q.y ae) ?_
 refine cp au (jJ (0+p.x*q.x) (p.y*q.y) ae) ?_
 refine bD ?_
 refine bN ?_
 refine aC ?_
 refine cu (b:=_) rfl aj ?_
 refine bM ?_
 refine a9 9 aq ?_
 refine aZ ?_
 refine cp au (iR p.z q.z ae) ?_
 refine cp au (jJ (0+p.x*q.x+p.y*q.y) (p.z*q.z) ae) ?_
 refine bD ?_
 refine bN ?_
 refine aC ?_
 refine ff (b:=_) rfl aj ?_
 refine bG ?_
 exact gy
open H0 in
theorem alN (p q:V3) (R:Nat) (hR:R<=1000000000) (hp:cJ R p) (hq:cJ R q):ax an 267 [a5 p,a5 q] (ah (b9 p q)):=by
 obtain⟨a1,a2,a3⟩:=hp
 obtain⟨b1,b2,b3⟩:=hq
 have m1:=df p.x q.x
 have m2:=df p.y q.y
 have m3:=df p.z q.z
 have s1:=lN 0 (p.x*q.x)
 have s2:=lN (0+p.x*q.x) (p.y*q.y)
 have hz0:rl 0=1:=rfl
 refine aW Tryz.func267 ?_
 refine pU ?_
 refine bN ?_
 refine aZ ?_
 refine cu (b:=_) rfl aj ?_
 refine aA ?_
 refine a9 9 aq ?_
 refine aZ ?_
 refine cp au (vf p.x q.x ae) ?_
 refine cp au (qO 0 (p.x*q.x) ae) ?_
 refine bM ?_
 refine bN ?_
 refine aZ ?_
 refine cu (b:=_) rfl aj ?_
 refine aA ?_
 refine a9 9 aq ?_
 refine aZ ?_
 refine cp au (vf p.y q.y ae) ?_
 refine cp au (qO (0+p.x*q.x) (p.y*q.y) ae) ?_
 refine bM ?_
 refine bN ?_
 refine aZ ?_
 refine cu (b:=_) rfl aj ?_
 refine aA ?_
 refine a9 9 aq ?_
 refine aZ ?_
 refine cp au (vf p.z q.z ae) ?_
 refine cp au (qO (0+p.x*q.x+p.y*q.y) (p.z*q.z) ae) ?_
 refine bM ?_
 refine bN ?_
 refine aZ ?_
 refine ff (b:=_) rfl aj ?_
 refine bG ?_
 exact gy
open H0 in
theorem aBM (p q:V3) (R:Nat) (hR:R<=1000000000) (hp:cJ R p) (hq:cJ R q):ax an 72 [a5 p,a5 q] (a5 (gI p q)):=by
 obtain⟨a1,a2,a3⟩:=hp
 obtain⟨b1,b2,b3⟩:=hq
 refine aW Tryz.func72 (ht:=(fun r=>LV.di r _ (bl.pure _))) ?_
 refine dM ?_
 refine bN ?_
 refine aZ ?_
 refine cu (b:=_) rfl aj ?_
 refine aA ?_
 refine a9 9 aq ?_
 refine aZ ?_
 refine cp au (aa9 p.x q.x ae) ?_
 refine bC ?_
 refine bN ?_
 refine aZ ?_
 refine cu (b:=_) rfl aj ?_
 refine aA ?_
 refine a9 9 aq ?_
 refine aZ ?_
 refine cp au (aa9 p.y q.y ae) ?_
 refine bC ?_
 refine bN ?_
 refine aZ ?_
 refine cu (b:=_) rfl aj ?_
 refine aA ?_
 refine a9 9 aq ?_
 refine aZ ?_
 refine cp au (aa9 p.z q.z ae) ?_
 refine bC ?_
 refine bN ?_
 refine aZ ?_
 refine ff (b:=_) rfl aj ?_
 refine bG ?_
 exact tV
open H0 in
theorem aHc (p q:V3) (R:Nat) (hR:R<=1000000000) (hp:cJ R p) (hq:cJ R q):ax an 233 [a5 p,a5 q] (a5 (lM p q)):=by
 obtain⟨a1,a2,a3⟩:=hp
 obtain⟨b1,b2,b3⟩:=hq
 refine aW Tryz.func233 (ht:=(fun r=>LV.di r _ (bl.pure _))) ?_
 refine dM ?_
 refine bN ?_
 refine aZ ?_
 refine cu (b:=_) rfl aj ?_
 refine aA ?_
 refine a9 9 aq ?_
 refine aZ ?_
 refine cp au (qO p.x q.x ae) ?_
 refine bC ?_
 refine bN ?_
 refine aZ ?_
 refine cu (b:=_) rfl aj ?_
 refine aA ?_
 refine a9 9 aq ?_
 refine aZ ?_
 refine cp au (qO p.y q.y ae) ?_
 refine bC ?_
 refine bN ?_
 refine aZ ?_
 refine cu (b:=_) rfl aj ?_
 refine aA ?_
 refine a9 9 aq ?_
 refine aZ ?_
 refine cp au (qO p.z q.z ae) ?_
 refine bC ?_
 refine bN ?_
 refine aZ ?_
 refine ff (b:=_) rfl aj ?_
 refine bG ?_
 exact tV
open H0 in
theorem ars (r:Rat) (p:V3) (R:Nat) (hR:R<=1000000000) (hr:rl r<=R) (hp:cJ R p):ax an 141 [ah r,a5 p] (a5 (jC r p)):=by
 obtain⟨a1,a2,a3⟩:=hp
 refine aW Tryz.func141 (ht:=(fun r=>LV.di r _ (bl.pure _))) ?_
 refine dM ?_
 refine bN ?_
 refine aZ ?_
 refine cu (b:=_) rfl aj ?_
 refine aA ?_
 refine a9 7 aq ?_
 refine bc ?_
 refine cp au (vf r p.x ae) ?_
 refine bC ?_
 refine bN ?_
 refine aZ ?_
 refine cu (b:=_) rfl aj ?_
 refine aA ?_
 refine a9 7 aq ?_
 refine bc ?_
 refine cp au (vf r p.y ae) ?_
 refine bC ?_
 refine bN ?_
 refine aZ ?_
 refine cu (b:=_) rfl aj ?_
 refine aA ?_
 refine a9 7 aq ?_
 refine bc ?_
 refine cp au (vf r p.z ae) ?_
 refine bC ?_
 refine bN ?_
 refine aZ ?_
 refine ff (b:=_) rfl aj ?_
 refine bG ?_
 exact tV
end Go.Proofs.YtckppbhafancnaaGreat
namespace Go.Lg
theorem amR {P:Program} {f:FuncId} {args:List LV} {sz n:Nat} {vals:List LV} {mt:Bool} (h:pW P f args (.ref 1 sz 0 n) [⟨sz,vals,mt⟩]) (hp:aN vals=true) (hn:vals.length=n):ax P f args (.list sz vals):=by
 refine⟨⟨h.1,fun W Z0 vs hz hr=>Calls.mono (h.2 W Z0 vs hz hr) (fun e w'=>?_)⟩,fun g=>LV.di g _ (by simp [LV.pure,hp])⟩
 rintro⟨v,μ,Z,he,hc,hv⟩
 have hle:bW.le (p7 [⟨sz,vals,mt⟩]) (p7 [⟨sz,vals,false⟩]):=fun b blk hb=>by
  unfold p7 at hb ⊢
  by_cases h0:b=0
  ·rw [if_pos h0] at hb;cases hb
  ·rw [if_neg h0] at hb
   rcases gC (b-1) 1 with h1 | h1
   ·have e:b-1=0:=by omega
    rw [e] at hb
    simp only [List.getElem?_cons_zero,fB] at hb
    subst hb
    exact⟨false,by rw [if_neg h0,e];rfl,fun _=>rfl,fun _ _=>h0⟩
   ·rw [yj (by simpa using h1)] at hb;cases hb
 obtain⟨Z1,k1,k2⟩:=hc.xW hle
 have dQ:Frame Z μ w' w':=⟨fun _ _=>rfl,fun _ id _ c _ _ hh=>⟨c,hh,rfl⟩⟩
 have hv1:=hv.mono k2 (fun _ _ h=>h) dQ
 have hi:cY (p7 [⟨sz,vals,false⟩]) (.ref 1 sz 0 n) (.list sz vals):=by
  have:=cY.ref (H:=p7 [⟨sz,vals,false⟩]) (b:=1) (off:=0) (len:=n) (blk:=⟨sz,vals,false⟩) rfl rfl hp (by simp [hn]) rfl
  simpa [<-hn] using this
 refine⟨v,kO μ 1,Z1,he,?_,bh.tw (fun l h=>by cases h) (hi.abT k1 hv1)⟩
 have kk:=Core.kill (L:=⟨fun _=>.any,p7 [⟨sz,vals,false⟩]⟩) 1 aj k1
 refine kk.aiO fun b id hb=>?_
 have hb1:b≠1:=fun e=>by rw [e] at hb;simp [kO] at hb
 have xI:μ b=some id:=by unfold kO at hb;split at hb<;>first | exact hb | cases hb
 obtain⟨blk,g1,_⟩:=k1.heap b id xI
 unfold p7 at g1
 split at g1
 ·cases g1
 ·rw [yj bz] at g1;cases g1
end Go.Lg
namespace Go.Proofs.YtckppbhafancnaaGreat
open Go.Lg
theorem ay9 (p:List Rat) (hl:p.length<=1048576) (oe:∀ x∈p,rl x<=274877906944):ax an 178 [.list 3 (p.map ah)] (.list 3 (p.map ah)) :=
 amR (aou p hl oe) (a7 ar _) aM
def aaE (p:List Rat) (i:Nat):Rat:=(if 0<i then((i:Int):Rat)/((p.length:Int):Rat)*p.getD (i-1) 0 else 0)+(if i<p.length then(((p.length:Int)-(i:Int):Int):Rat)/((p.length:Int):Rat)*p.getD i 0 else 0)
def uS (p:List Rat):List Rat:=(c9 (p.length+1)).map (aaE p)
def itL:Nat->List Rat->List Rat
 | 0,p=>p
 | k+1,p=>itL k (uS p)
def k5 (p:List Rat) (n:Nat):List Rat:=itL (n+1-p.length) p
theorem ri (p:List Rat):(uS p).length=p.length+1:=by simp [uS]
theorem am7 {p:List Rat} {i:Nat} (h:i<p.length+1):(uS p).getD i 0=aaE p i:=by
 rw [bp,b7 (by rw [ri];exact h)];simp [uS]
theorem awj:∀ (k:Nat) (p:List Rat),(itL k p).length=p.length+k
 | 0,p=>rfl
 | k+1,p=>by rw [itL,awj k,ri];omega
theorem aqG {p:List Rat} {n:Nat} (h:p.length<=n+1):(k5 p n).length=n+1:=by rw [k5,awj];omega
theorem aJA {p:List Rat} {i:Nat} (h0:0<i) (h1:i<p.length):aaE p i=((i:Int):Rat)/((p.length:Int):Rat)*p.getD (i-1) 0+(((p.length:Int)-(i:Int):Int):Rat)/((p.length:Int):Rat)*p.getD i 0:=by
 rw [aaE,if_pos h0,if_pos h1]
theorem aKt {p:List Rat} {i:Nat} (h0:0<i) (h1:¬ i<p.length):aaE p i=((i:Int):Rat)/((p.length:Int):Rat)*p.getD (i-1) 0:=by
 rw [aaE,if_pos h0,if_neg h1,kP]
theorem aEv {p:List Rat} {i:Nat} (h0:¬ 0<i) (h1:i<p.length):aaE p i=(((p.length:Int)-(i:Int):Int):Rat)/((p.length:Int):Rat)*p.getD i 0:=by
 rw [aaE,if_neg h0,if_pos h1,Rat.zero_add]
def uz (p:List Rat) (n:Nat):Prop:=(∀ x∈p,rl x<=1073741824)/\∀ k,p.length+k<=n+1->∀ x∈itL k p,rl x<=1073741824
theorem ajM {p:List Rat} {n:Nat} (h:uz p n) (k:Nat):rl (p.getD k 0)<=1073741824:=iX aj h.1 k
theorem awR {p:List Rat} {n:Nat} (hl:p.length<=n) (h:uz p n):uz (uS p) n:=⟨h.2 1 ae,fun k hk=>h.2 (k+1) (by rw [ri] at hk;omega)⟩
theorem axM {p:List Rat} {n:Nat} (h:n+1<=p.length):k5 p n=p:=by rw [k5,show n+1-p.length=0 by omega];rfl
theorem aH6 {p:List Rat} {n:Nat} (h:p.length<=n):itL (n+1-(uS p).length) (uS p)=itL (n+1-p.length) p:=by
 rw [show n+1-p.length=(n+1-(uS p).length)+1 by rw [ri];omega];rfl
def te (g:Rat->Rat->Rat) (a b:List Rat):List Rat:=(c9 a.length).map fun i=>g (a.getD i 0) (b.getD i 0)
theorem aaw (g:Rat->Rat->Rat) (a b:List Rat):(te g a b).length=a.length:=by simp [te]
theorem amy {g:Rat->Rat->Rat} {a b:List Rat} {i:Nat} (h:i<a.length):(te g a b).getD i 0=g (a.getD i 0) (b.getD i 0):=by
 rw [bp,b7 (by rw [aaw];exact h)];simp [te]
namespace atb
theorem aO {p q:Prop} (k:q) (e:p=q:=by simp only [e1,e2,e3,e4,p1,p2,p3,q1,q2,q3,l1,t0,t1,r1,r2,r3,r4,Nat.zero_add,Nat.reduceMul,Nat.reduceAdd,b1,b2,b3,b4,b5,b6,i1,i2,i3,i4,i5,i6,Nat.reduceBEq,cN,List.length_set,List.set_set,egs,egz,eim,Rat.zero_add,aV ar,cU,LV.kill,bX];exact rfl):p:=e.mpr k
end atb
open atb in
theorem aqc (p:List Rat) (n:Nat) (oR:0<p.length) (hn:n<=1000) (hl:p.length<=1001) (hs:uz p n):ax an 290 [.list 3 (p.map ah),ai n] (.list 3 ((k5 p n).map ah)):=by
 refine aW Tryz.func290 ?_
 have egs:True:=trivial
 have egz:True:=trivial
 have eim:True:=trivial
 refine bo ?_
 refine cp aR (ay9 p ae (fun x hx=>by have:=ajM hs;have h9:=awX hx;obtain⟨k,hk,rfl⟩:=h9;have h8:=this k;rw [bp,b7 hk] at h8;exact ba h8 aj)) ?_
 refine bc ?_
 refine dV (fun(o:List Rat) L=>(((St.mk L.slot (hp [])).put (some 1) (ai n)).put (some 5) (.list 3 (o.map ah)))) (fun o=>0<o.length/\o.length<=1001/\uz o n/\itL (n+1-o.length) o=k5 p n) (fun o=>n+1-o.length) p ⟨oR,hl,hs,rfl⟩ ?_
 rintro o L1 ⟨ho0,de,hos,hit⟩
 refine aZ ?_
 refine ez 18 rfl ?_ ?_<;>intro uO uY
 ·refine aZ ?_
  refine aH rfl ?_ ?_<;>intro tP sg
  ·have hon:o.length<=n:=by omega
   refine dH ?_
   refine ak rfl cV ?_
   refine fL rfl rfl (.nh (n:=(o.length+1)) (m:=(o.length+1)) ml ml om om om) ?_
   refine bG ?_
   refine ma (fun(i:Nat) (w:List Rat) L=>((((((((St.mk L.slot (hp [(28,⟨3,w.map ah,true⟩)])).put (some 1) (ai n)).put (some 5) (.list 3 (o.map ah))).put (some 6) (ai o.length)).put (some 7) (.ref 28 3 0 (o.length+1))).put (some 29) (.ref 28 3 0 (o.length+1))).put (some 30) (ai (o.length+1))).put (some 31) (ai i))) (fun i w=>i<=o.length+1/\w.length=o.length+1/\w.take i=(uS o).take i/\∀ x,i<=x->w.getD x 0=0) (fun i w=>o.length+1-i) 0 (ay (o.length+1) 0) ⟨b8 _,by simp,rfl,fun x _=>by simp [bp,adP];split<;>rfl⟩ ?_
   rintro i w L2 ⟨hi,jb,lj,hz⟩
   refine aC ?_
   refine aH rfl ?_ ?_<;>intro ahd h32
   ·have dR:i<o.length+1:=by omega
    have hf1:=adS (n:=(i:Int)) (d:=(o.length:Int)) ae ae
    have rO:=adS (n:=(o.length:Int)-(i:Int)) (d:=(o.length:Int)) ae ae
    have fu:=ajM hos (i-1)
    have qj:=ajM hos i
    have jY:=df (((i:Int):Rat)/((o.length:Int):Rat)) (o.getD (i-1) 0)
    have fe:=df ((((o.length:Int)-(i:Int):Int):Rat)/((o.length:Int):Rat)) (o.getD i 0)
    have egs:=fun v=>aIh (o:=w) (i:=i) (v:=v) ae
    have egz:=hz i (bq _)
    have eim:((i:Int)-1).toNat=i-1:=by omega
    have uv:rl 0=1:=rfl
    refine jI ?_
    refine aH rfl ?_ ?_<;>intro zW h35
    ·have qt:0<i:=by omega
     refine aA ?_
     refine cp au (alc (i:Int) (o.length:Int) ae ae ae ae ae) ?_
     refine bo ?_
     refine a9 10 aq ?_
     refine bo ?_
     try simp only [t1,cN,eim]
     refine cp au (iR _ _ ae) ?_
     refine bG ?_
     refine aH rfl ?_ ?_<;>intro aA4 h55
     ·have tK:i<o.length:=by omega
      refine aA ?_
      refine ak rfl wC ?_
      refine av ?_
      refine cp au (alc ((o.length:Int)-(i:Int)) (o.length:Int) ae ae ae ae ae) ?_
      refine bo ?_
      refine a9 14 aq ?_
      refine bC ?_
      try simp only [t1,cN]
      refine cp au (iR _ _ ae) ?_
      try simp only [t1,cN,fF,egs,egz]
      refine cp au (jJ _ _ ae) ?_
      refine bc ?_
      refine cM ((az.kill _ 9).trans (az.kill _ 11)) ?_
      refine aA ?_
      exact jh (i+1) (w.set i (((i:Int):Rat)/((o.length:Int):Rat)*o.getD (i-1) 0+(((o.length:Int)-(i:Int):Int):Rat)/((o.length:Int):Rat)*o.getD i 0)) ⟨ae,by simp [jb],abS (by rw [ri];omega) (by rw [ri];omega) lj (by rw [am7 ae,aJA qt tK]),fun x hx=>by rw [aaP _ _ _ _ ae,if_neg ae];exact hz x ae⟩
     ·have tK:¬ i<o.length:=by omega
      refine aQ ?_
      refine cM ((az.kill _ 9).trans (az.kill _ 11)) ?_
      refine aA ?_
      exact jh (i+1) (w.set i (((i:Int):Rat)/((o.length:Int):Rat)*o.getD (i-1) 0)) ⟨ae,by simp [jb],abS (by rw [ri];omega) (by rw [ri];omega) lj (by rw [am7 ae,aKt qt tK]),fun x hx=>by rw [aaP _ _ _ _ ae,if_neg ae];exact hz x ae⟩
    ·have qt:¬ 0<i:=by omega
     refine bM ?_
     refine aH rfl ?_ ?_<;>intro aA4 h55
     ·have tK:i<o.length:=by omega
      refine aA ?_
      refine ak rfl wC ?_
      refine av ?_
      refine cp au (alc ((o.length:Int)-(i:Int)) (o.length:Int) ae ae ae ae ae) ?_
      refine bo ?_
      refine a9 14 aq ?_
      refine bC ?_
      try simp only [t1,cN]
      refine cp au (iR _ _ ae) ?_
      try simp only [t1,cN,fF,egs,egz]
      refine cp au (jJ _ _ ae) ?_
      refine bc ?_
      refine cM ((az.kill _ 9).trans (az.kill _ 11)) ?_
      refine aA ?_
      exact jh (i+1) (w.set i ((((o.length:Int)-(i:Int):Int):Rat)/((o.length:Int):Rat)*o.getD i 0)) ⟨ae,by simp [jb],abS (by rw [ri];omega) (by rw [ri];omega) lj (by rw [am7 ae,aEv qt tK]),fun x hx=>by rw [aaP _ _ _ _ ae,if_neg ae];exact hz x ae⟩
     ·have tK:¬ i<o.length:=by omega
      refine aQ ?_
      refine cM ((az.kill _ 9).trans (az.kill _ 11)) ?_
      refine aA ?_
      exact jh (i+1) w (False.elim ae)
   ·obtain rfl:i=o.length+1:=by omega
    have hE:w=uS o:=by
     rw [dg ae,dg (by rw [ri];omega)] at lj
     exact lj
    subst hE
    refine bc ?_
    refine cM ((az.cF (t:=7) [28] rfl rfl (fI ar rfl rfl (by rw [ri]))).trans (az.kill _ 28)) ?_
    refine bc ?_
    exact jL (uS o) ⟨by rw [ri];omega,by rw [ri];omega,awR ae hos,by rw [aH6 ae];exact hit⟩ (hm:=by rw [ri];omega)
  ·refine bG ?_
   have hE:k5 p n=o:=by rw [<-hit,show n+1-o.length=0 by omega];rfl
   rw [hE]
   exact eB
 ·refine pa ?_
  have hE:k5 p n=o:=by rw [<-hit,show n+1-o.length=0 by omega];rfl
  rw [hE]
  exact eB
theorem aql {n:Nat} (hn:n<=1000):∀ (k:Nat) (p:List Rat),0<p.length->p.length+k<=n+1->uz p n->uz (itL k p) n
 | 0,_,_,_,h=>h
 | k+1,p,h0,hk,h=>aql hn k (uS p) (by rw [ri];omega) (by rw [ri];omega) (awR ae h)
theorem atU {p:List Rat} {n:Nat} (hn:n<=1000) (h0:0<p.length) (hl:p.length<=n+1) (h:uz p n) (k:Nat):rl ((k5 p n).getD k 0)<=1073741824 :=
 ajM (aql hn _ p h0 ae h) k
theorem emx {a b n:Nat} (h:0<a) (h1:a<=n+1) (h2:b<=n+1) (h3:a=n+1\/b=n+1):(if ((b:Nat):Int) > ((a:Nat):Int) then((b:Nat):Int) else((a:Nat):Int))-1=(n:Int):=by
 split<;>omega
theorem emn (a:Nat):(if ((a:Nat):Int)<((a:Nat):Int) then((a:Nat):Int) else((a:Nat):Int))=(a:Int):=by split<;>rfl
theorem aFr {a b n:Nat} (h:0<a) (h1:a<=n+1) (h2:b<=n+1) (h3:a=n+1\/b=n+1) (hn:n<=1000):dN .sub .i64 (if ((b:Nat):Int) > ((a:Nat):Int) then((b:Nat):Int) else((a:Nat):Int)) 1=some (.int .i64 ((n:Nat):Int)):=by
 have e:=emx h h1 h2 h3
 rw [aaH ae ae,e]
namespace arC
theorem aO {p q:Prop} (k:q) (e:p=q:=by simp only [e1,e2,e3,e4,p1,p2,p3,q1,q2,q3,l1,t0,t1,r1,r2,r3,r4,Nat.zero_add,Nat.reduceMul,Nat.reduceAdd,b1,b2,b3,b4,b5,b6,i1,i2,i3,i4,i5,i6,Nat.reduceBEq,cN,arW,elp,elq,emn,aV ar,cU,eu,LV.kill,bX];exact rfl):p:=e.mpr k
end arC
open arC in
theorem azD (p q:List Rat) (f:Nat) (g:Rat->Rat->Rat) (n:Nat) (oR:0<p.length) (px:0<q.length) (hn:n<=1000) (hpn:p.length<=n+1) (hqn:q.length<=n+1) (hpq:p.length=n+1\/q.length=n+1) (hps:uz p n) (hqs:uz q n) (hf:∀ i,ax an f [ah ((k5 p n).getD i 0),ah ((k5 q n).getD i 0)] (ah (g ((k5 p n).getD i 0) ((k5 q n).getD i 0)))):ax an 283 [.list 3 (p.map ah),.list 3 (q.map ah),.dq f []] (.list 3 ((te g (k5 p n) (k5 q n)).map ah)):=by
 have arW:=emx oR hpn hqn hpq
 have elp:=aqG hpn
 have elq:=aqG hqn
 have o5:(te g (k5 p n) (k5 q n)).length=n+1:=by rw [aaw,elp]
 refine aW Tryz.func283 ?_
 have arW:True:=trivial
 have elp:True:=trivial
 have elq:True:=trivial
 have emn:True:=trivial
 refine bG ?_
 refine ak rfl (.bin rfl rfl (aFr oR hpn hqn hpq hn)) ?_
 refine aZ ?_
 refine cp au (aqc p n oR hn ae hps) ?_
 refine aT ?_
 refine cp au (aqc q n px hn ae hqs) ?_
 refine bM ?_
 try simp only [elp,elq]
 refine av ?_
 refine fL rfl rfl (.nh (n:=(n+1)) (m:=(n+1)) ml ml om om om) ?_
 refine bG ?_
 refine ma (fun(i:Nat) (w:List Rat) L=>((((((((St.mk L.slot (hp [(27,⟨3,w.map ah,true⟩)])).put (some 0) (.list 3 ((k5 p n).map ah))).put (some 1) (.list 3 ((k5 q n).map ah))).put (some 2) (.dq f [])).put (some 8) (.ref 27 3 0 (n+1))).put (some 28) (.ref 27 3 0 (n+1))).put (some 29) (ai (n+1))).put (some 30) (ai i))) (fun i w=>i<=n+1/\w.length=n+1/\w.take i=(te g (k5 p n) (k5 q n)).take i) (fun i w=>n+1-i) 0 (ay (n+1) 0) ⟨b8 _,by simp,rfl⟩ ?_
 rintro i w L1 ⟨hi,jb,lj⟩
 refine aC ?_
 refine aH rfl ?_ ?_<;>intro amP h31
 ·have dR:i<n+1:=by omega
  have hfi:=hf i
  refine bM ?_
  refine a9 13 aq ?_
  refine bC ?_
  try simp only [t1,cN]
  refine oD [] rfl rfl (.dq (f:=f) (cap:=[]) (args:=[ah ((k5 p n).getD i 0),ah ((k5 q n).getD i 0)]) rfl (.cons et (.cons et .nil)) ⟨rfl,fun _ h=>by cases h⟩ hfi.1 aj (fun _ h=>by cases h)) (hfi.2 _) ?_
  refine bM ?_
  exact jh (i+1) (w.set i (g ((k5 p n).getD i 0) ((k5 q n).getD i 0))) ⟨ae,by simp [jb],abS ae ae lj (by rw [amy ae])⟩
 ·obtain rfl:i=n+1:=by omega
  have hE:w=(te g (k5 p n) (k5 q n)):=by
   rw [dg ae,dg ae] at lj
   exact lj
  subst hE
  refine bG ?_
  exact o4 [27] rfl rfl (fI ar rfl rfl o5.symm)
open H0 in
theorem aCR (p q:List Rat) (n:Nat) (oR:0<p.length) (px:0<q.length) (hn:n<=1000) (hpn:p.length<=n+1) (hqn:q.length<=n+1) (hpq:p.length=n+1\/q.length=n+1) (hps:uz p n) (hqs:uz q n):ax an 251 [.list 3 (p.map ah),.list 3 (q.map ah)] (.list 3 ((te (·-·) (k5 p n) (k5 q n)).map ah)):=by
 refine aW Tryz.func251 ?_
 refine bD ?_
 refine cp ig (azD p q 170 (·-·) n oR px hn hpn hqn hpq hps hqs (fun i=>sw _ _ (by have:=atU hn oR hpn hps i;have:=atU hn px hqn hqs i;omega))) ?_
 refine aA ?_
 exact eB
namespace aqX
theorem aO {p q:Prop} (k:q) (e:p=q:=by simp only [e1,e2,e3,e4,p1,p2,p3,q1,q2,q3,l1,t0,t1,r1,r2,r3,r4,Nat.zero_add,Nat.reduceMul,Nat.reduceAdd,b1,b2,b3,b4,b5,b6,i1,i2,i3,i4,i5,i6,Nat.reduceBEq,cN,List.length_set,aeT,aeB,zU,kJ,elz,ela,aV ar,cU,LV.kill,bX];exact rfl):p:=e.mpr k
end aqX
open aqX in
theorem aBs (p q:List Rat) (R:Nat) (oR:0<p.length) (px:0<q.length) (h:p.length-1+(q.length-1)<=40) (fH:1<=R) (hR:R<=67108864) (sr:∀ x∈p,rl x<=R) (tY:∀ x∈q,rl x<=R):ax an 284 [.list 3 (p.map ah),.list 3 (q.map ah)] (.bf [.list 3 ((lf p q).map ah),iL 0]):=by
 have gO:p.length<=41:=by omega
 have jV:q.length<=41:=by omega
 refine aW Tryz.func284 ?_
 have kJ:True:=trivial
 have elz:True:=trivial
 have ela:True:=trivial
 refine bM ?_
 refine ak rfl lK ?_
 refine aT ?_
 refine ak rfl lK ?_
 refine bD ?_
 refine ak rfl aac ?_
 refine aQ ?_
 refine aH rfl ?_ ?_<;>intro aiX h25
 ·omega
 ·refine bo ?_
  refine ez 28 rfl ?_ ?_<;>intro xU qN
  ·exfalso
   omega
  ·refine bc ?_
   refine aH rfl ?_ ?_<;>intro amP h31
   ·omega
   ·refine bc ?_
    refine cp aR (am4 _ ae) ?_
    refine av ?_
    refine cp aR (am4 _ ae) ?_
    refine aT ?_
    refine ak rfl aac ?_
    refine cp aR (am4 _ ae) ?_
    refine bD ?_
    refine ak rfl aac ?_
    refine ak rfl cV ?_
    refine fL rfl rfl (.nh (n:=(p.length-1+(q.length-1)+1)) (m:=(p.length-1+(q.length-1)+1)) ml ml om om om) ?_
    refine bG ?_
    refine dV (fun(i:Nat) L=>((((((((((St.mk L.slot (hp [(44,⟨3,(allM p q i).map ah,true⟩)])).put (some 0) (.list 3 (p.map ah))).put (some 1) (.list 3 (q.map ah))).put (some 8) (.list 3 ((ja (p.length-1)).map ah))).put (some 9) (.list 3 ((ja (q.length-1)).map ah))).put (some 10) (.list 3 ((ja (p.length-1+(q.length-1))).map ah))).put (some 11) (.ref 44 3 0 (p.length-1+(q.length-1)+1))).put (some 45) (.list 3 (p.map ah))).put (some 46) (ai p.length)).put (some 47) (ai i))) (fun i=>i<=p.length) (fun i=>p.length-i) 0 (b8 _) ?_
    rintro i L1 hi
    refine aC ?_
    refine aH rfl ?_ ?_<;>intro aJR h48
    ·have hip:i<p.length:=by omega
     have fh:=abw (n:=p.length-1) ae _ (dK (i:=i) (by rw [zU];omega))
     have pK:=sr _ (dK (i:=i) hip)
     have hx3:=df ((ja (p.length-1)).getD i 0) (p.getD i 0)
     refine bC ?_
     refine a9 10 aq ?_
     refine bo ?_
     try simp only [t1,cN]
     refine cp au (iR _ _ ae) ?_
     refine bG ?_
     refine dV (fun(j:Nat) L=>(((((((((((((((St.mk L.slot (hp [(44,⟨3,(vZ ((ja (p.length-1)).getD i 0*p.getD i 0) i (ja (q.length-1)) q (allM p q i) j).map ah,true⟩),(13,⟨3,[ah ((ja (p.length-1)).getD i 0*p.getD i 0)],true⟩)])).put (some 0) (.list 3 (p.map ah))).put (some 1) (.list 3 (q.map ah))).put (some 8) (.list 3 ((ja (p.length-1)).map ah))).put (some 9) (.list 3 ((ja (q.length-1)).map ah))).put (some 10) (.list 3 ((ja (p.length-1+(q.length-1))).map ah))).put (some 11) (.ref 44 3 0 (p.length-1+(q.length-1)+1))).put (some 45) (.list 3 (p.map ah))).put (some 46) (ai p.length)).put (some 47) (ai i)).put (some 12) (ai i)).put (some 13) (.aD 13 3 0 0)).put (some 59) (.list 3 (q.map ah))).put (some 60) (ai q.length)).put (some 61) (ai j))) (fun j=>j<=q.length) (fun j=>q.length-j) 0 (b8 _) ?_
     rintro j L2 hj
     refine aC ?_
     refine aH rfl ?_ ?_<;>intro apF h62
     ·have hjq:j<q.length:=by omega
      have kJ:((i:Int)+(j:Int)).toNat=i+j:=by omega
      have hlr:(vZ ((ja (p.length-1)).getD i 0*p.getD i 0) i (ja (q.length-1)) q (allM p q i) j).length=(p.length-1+(q.length-1)+1):=by rw [aeT,aeB]
      have hS:=afk gO jV fH sr tY i
      have ho:=anf (i:=i) ae hS (show rl ((ja (p.length-1)).getD i 0*p.getD i 0)<=R+2 by omega) (abw (n:=q.length-1) ae) tY fH j
      have gz:=ayT (i:=i) (j:=j) ae jV hj hR
      have oh:=iX ae ho (i+j)
      have hg2:=abw (n:=q.length-1) ae _ (dK (i:=j) (by rw [zU];omega))
      have zC:=tY _ (dK (i:=j) hjq)
      have hg4:=df ((ja (q.length-1)).getD j 0) (q.getD j 0)
      have hg5:=df ((ja (p.length-1)).getD i 0*p.getD i 0) ((ja (q.length-1)).getD j 0*q.getD j 0)
      refine bM ?_
      refine a9 23 aq ?_
      refine aQ ?_
      refine ak rfl aac ?_
      refine aQ ?_
      refine ak rfl aac ?_
      refine bC ?_
      try simp only [t1,cN,fF]
      refine cp au (iR _ _ ae) ?_
      try simp only [t1,cN,fF]
      refine cp au (iR _ _ ae) ?_
      try simp only [t1,cN,fF]
      refine cp au (jJ _ _ ae) ?_
      refine bM ?_
      exact y9
     ·obtain rfl:j=q.length:=by omega
      refine aC ?_
      refine cM (az.kill _ 13) ?_
      refine aA ?_
      exact l5
    ·obtain rfl:i=p.length:=by omega
     refine dM ?_
     refine ma (fun(k:Nat) (w:List Rat) L=>((((((St.mk L.slot (hp [(44,⟨3,w.map ah,true⟩)])).put (some 10) (.list 3 ((ja (p.length-1+(q.length-1))).map ah))).put (some 11) (.ref 44 3 0 (p.length-1+(q.length-1)+1))).put (some 89) (.ref 44 3 0 (p.length-1+(q.length-1)+1))).put (some 90) (ai (p.length-1+(q.length-1)+1))).put (some 91) (ai k))) (fun k w=>k<=(p.length-1+(q.length-1)+1)/\w.length=(p.length-1+(q.length-1)+1)/\w.take k=(lf p q).take k/\∀ x,k<=x->w.getD x 0=(allM p q p.length).getD x 0) (fun k w=>(p.length-1+(q.length-1)+1)-k) 0 (allM p q p.length) ⟨b8 _,aeB _ _ _,rfl,fun x _=>rfl⟩ ?_
     rintro k w L3 ⟨hk,jb,lj,hz⟩
     refine aC ?_
     refine aH rfl ?_ ?_<;>intro aKP h92
     ·have lU:k<(p.length-1+(q.length-1)+1):=by omega
      have hS:=afk gO jV fH sr tY p.length
      have gz:=ayT (i:=p.length) (j:=0) gO jV ae hR
      have oh:=iX ae hS k
      have hg2:=abw (n:=p.length-1+(q.length-1)) h _ (dK (i:=k) (by rw [zU];omega))
      have hzk:=hz k (bq _)
      rw [<-hzk] at oh
      refine bM ?_
      refine a9 12 aq ?_
      refine bM ?_
      try simp only [t1,cN,fF]
      refine cp au (an4 _ _ ae) ?_
      refine bM ?_
      exact jh (k+1) (w.set k (w.getD k 0/(ja (p.length-1+(q.length-1))).getD k 0)) ⟨ae,by simp [jb],abS (by rw [ua];omega) (by rw [ua,jb]) lj (by rw [apZ ae,hz k (bq _)]),fun x hx=>by rw [aaP _ _ _ _ ae,if_neg ae];exact hz x ae⟩
     ·obtain rfl:k=(p.length-1+(q.length-1)+1):=by omega
      have hE:w=lf p q:=by
       rw [dg ae,dg (by rw [ua];omega)] at lj
       exact lj
      refine dH ?_
      rw [<-hE]
      exact ake [44] rfl rfl (fI ar rfl rfl ae) rfl (.pure rfl)
def gH (a b:Rat):Nat->(Nat->Rat)->Rat
 | 0,f=>f 0
 | n+1,f=>f 0*a ^ (n+1)+b*gH a b n (fun k=>f (k+1))
theorem alz (a b:Rat):∀ (n:Nat) (f g:Nat->Rat),gH a b n (fun k=>f k+g k)=gH a b n f+gH a b n g
 | 0,f,g=>rfl
 | n+1,f,g=>by rw [gH,gH,gH,alz a b n];grind
theorem aoa (a b c:Rat):∀ (n:Nat) (f:Nat->Rat),gH a b n (fun k=>c*f k)=c*gH a b n f
 | 0,f=>rfl
 | n+1,f=>by rw [gH,gH,aoa a b c n];grind
theorem als (a b:Rat):∀ (n:Nat) (f:Nat->Rat),f (n+1)=0->gH a b (n+1) f=a*gH a b n f
 | 0,f,h=>by
  show f 0*a ^ 1+b*f 1=a*f 0
  rw [h];grind
 | n+1,f,h=>by
  rw [gH,als a b n (fun k=>f (k+1)) h,gH]
  grind
theorem ayK (a b:Rat) (f:Nat->Rat) (m:Nat) (h:∀ k,m<k->f k=0):∀ n,gH a b (m+n) f=a ^ n*gH a b m f
 | 0=>by simp
 | n+1=>by
  rw [<-p8,als a b (m+n) f (h _ ae),ayK a b f m h n];grind
theorem awQ (a b:Rat) (n:Nat) (f:Nat->Rat):gH a b (n+1) (fun k=>if k=0 then 0 else f (k-1))=b*gH a b n f:=by
 rw [gH,if_pos rfl]
 have:(fun k=>if k+1=0 then 0 else f (k+1-1))=f:=by funext k;rw [if_neg ae];rfl
 rw [this];grind
def cR (n k:Nat):Rat:=((mD n k:Nat):Int)
theorem aBX (n k:Nat):cR (n+1) k=cR n k+(if k=0 then 0 else cR n (k-1)):=by
 unfold cR
 cases k with
 | zero=>rw [ael,ael,if_pos rfl,kP]
 | succ k =>
  rw [if_neg ae,mD,<-abD]
  congr 1
  rw [show k+1-1=k from rfl];omega
theorem anE (a b:Rat):∀ (n:Nat) (f:Nat->Rat),fE a b n f=gH a b n (fun k=>cR n k*f k)
 | 0,f=>by
  show f 0=cR 0 0*f 0
  rw [show cR 0 0=1 from rfl,ph]
 | n+1,f=>by
  have e:(fun k=>cR (n+1) k*f k)=fun k=>(fun k=>cR n k*f k) k+(fun k=>if k=0 then 0 else(fun j=>cR n j*f (j+1)) (k-1)) k:=by
   funext k
   show cR (n+1) k*f k=cR n k*f k+(if k=0 then 0 else cR n (k-1)*f (k-1+1))
   rw [aBX]
   by_cases h:k=0
   ·rw [if_pos h,if_pos h];grind
   ·rw [if_neg h,if_neg h,show k-1+1=k by omega];grind
  have hz:cR n (n+1)=0:=by unfold cR;rw [ajA ae];rfl
  have h2:=awQ a b n (fun j=>cR n j*f (j+1))
  rw [e,alz,h2,als _ _ _ _ (by show cR n (n+1)*f (n+1)=0;rw [hz,vQ]),ahe,anE a b n f,anE a b n (fun i=>f (i+1))]
def sq (p:List Rat) (k:Nat):Rat:=cR (p.length-1) k*p.getD k 0
theorem abO {p:List Rat} {k:Nat} (h:p.length<=k):sq p k=0:=by unfold sq;rw [yy h,xi]
theorem amx {p:List Rat} {t:Rat} (h:0<p.length):aJ p t=gH (1-t) t (p.length-1) (sq p):=by rw [mZ h,anE];rfl
theorem axm {n k:Nat} (h:k<=n):cR n k≠0:=by
 have:=apm h
 exact fun e=>by have:=axr.1 e;omega
theorem aBo {p q:List Rat} (hl:p.length=q.length) (h:∀ k,sq p k=sq q k):p=q:=by
 refine ahp hl fun k hk=>?_
 have:=h k
 unfold sq at this
 rw [<-hl] at this
 have hc:=axm (n:=p.length-1) (k:=k) ae
 have h2:cR (p.length-1) k*(p.getD k 0-q.getD k 0)=0:=by grind
 rcases Rat.mul_eq_zero.1 h2 with e | e
 ·exact absurd e hc
 ·grind
def sm:Nat->(Nat->Rat)->Rat
 | 0,_=>0
 | n+1,f=>sm n f+f n
theorem uc:∀ (n:Nat) (f g:Nat->Rat),(∀ i,i<n->f i=g i)->sm n f=sm n g
 | 0,_,_,_=>rfl
 | n+1,f,g,h=>by rw [sm,sm,uc n f g (fun i hi=>h i ae),h n ae]
theorem aeM:∀ (n:Nat) (f g:Nat->Rat),sm n (fun i=>f i+g i)=sm n f+sm n g
 | 0,_,_=>by show (0:Rat)=0+0;grind
 | n+1,f,g=>by rw [sm,sm,sm,aeM n];grind
theorem ajY (c:Rat):∀ (n:Nat) (f:Nat->Rat),sm n (fun i=>c*f i)=c*sm n f
 | 0,_=>by show (0:Rat)=c*0;grind
 | n+1,f=>by rw [sm,sm,ajY c n];grind
theorem afF:∀ (n:Nat) (f:Nat->Rat),sm (n+1) f=f 0+sm n (fun i=>f (i+1))
 | 0,f=>by show 0+f 0=f 0+0;grind
 | n+1,f=>by rw [sm,afF n f,sm];grind
theorem aoe (n:Nat) (f:Nat->Rat) (h:∀ i,i<n->f i=0):sm n f=0:=by
 induction n with
 | zero=>rfl
 | succ n ih=>rw [sm,ih (fun i hi=>h i ae),h n ae];exact kP 0
theorem alV (n:Nat) (f:Nat->Rat) (h:∀ i,n<=i->f i=0):∀ m,sm (n+m) f=sm n f
 | 0=>rfl
 | m+1=>by rw [<-p8,sm,alV n f h m,h _ ae];grind
def cf (f g:Nat->Rat) (k:Nat):Rat:=sm (k+1) fun i=>f i*g (k-i)
theorem aBx (f g:Nat->Rat) (k:Nat):cf f g k=f 0*g k+(if k=0 then 0 else cf (fun i=>f (i+1)) g (k-1)):=by
 unfold cf
 rw [afF,acA]
 cases k with
 | zero=>rfl
 | succ k =>
  rw [if_neg ae]
  congr 1
  refine uc _ _ _ fun i hi=>?_
  rw [show k+1-(i+1)=k+1-1-i by omega]
theorem av9 (a b:Rat) (g:Nat->Rat) (m:Nat) (hg:∀ k,m<k->g k=0):∀ (n:Nat) (f:Nat->Rat),(∀ k,n<k->f k=0)->gH a b (m+n) (cf f g)=gH a b n f*gH a b m g
 | 0,f,hf=>by
  have e:cf f g=fun k=>f 0*g k:=by
   funext k
   rw [cf,afF,aoe _ _ (fun i _=>by rw [hf (i+1) ae,vQ]),kP,acA]
  rw [e,aoa];rfl
 | n+1,f,hf=>by
  have e:cf f g=fun k=>(fun k=>f 0*g k) k+(fun k=>if k=0 then 0 else cf (fun i=>f (i+1)) g (k-1)) k:=by funext k;exact aBx f g k
  rw [e,alz,aoa,<-p8,awQ,av9 a b g m hg n _ (fun k hk=>hf _ ae),p8,ayK a b g m hg (n+1),gH]
  grind
theorem ai8 (x:Rat) (i:Nat) (y q o:List Rat) (k:Nat):∀ j,i+j<=o.length->(vZ x i y q o j).getD k 0=o.getD k 0+(if i<=k/\k<i+j then x*(y.getD (k-i) 0*q.getD (k-i) 0) else 0)
 | 0,_=>by rw [vZ,if_neg ae,kP]
 | j+1,h=>by
  have ih:=fun k=>ai8 x i y q o k j ae
  rw [vZ,aGz _ _ _ _ (by rw [aeT];omega)]
  by_cases h1:i+j=k
  ·subst h1
   rw [if_pos rfl,ai8 x i y q o _ j ae,if_neg ae,if_pos ae,aoH]
   grind
  ·rw [if_neg h1,ai8 x i y q o k j ae]
   by_cases h2:i<=k/\k<i+j
   ·rw [if_pos h2,if_pos ae]
   ·rw [if_neg h2,if_neg ae]
theorem amd {n k:Nat} (h:k<=n):(ja n).getD k 0=cR n k:=aqZ h
theorem aro {p q:List Rat} (h0:0<p.length) (h1:0<q.length) (k:Nat):∀ i,i<=p.length->(allM p q i).getD k 0=sm i (fun j=>if j<=k then sq p j*sq q (k-j) else 0)
 | 0,_=>aI5 _ _
 | i+1,hi=>by
  rw [allM,ai8 _ _ _ _ _ _ _ (by rw [aeB];omega),aro h0 h1 k i ae,sm,amd ae]
  congr 1
  by_cases h2:i<=k
  ·rw [if_pos h2]
   by_cases h3:k<i+q.length
   ·rw [if_pos ⟨h2,h3⟩,amd ae];rfl
   ·rw [if_neg ae,abO (p:=q) ae,xi]
  ·rw [if_neg h2,if_neg ae]
theorem aeX {p q:List Rat} (h0:0<p.length) (h1:0<q.length) (k:Nat):sq (lf p q) k=cf (sq p) (sq q) k:=by
 have hl:=ua p q
 rcases gC k (p.length-1+(q.length-1)+1) with hk | hk
 ·have hc:=axm (n:=p.length-1+(q.length-1)) (k:=k) ae
  have e:sq (lf p q) k=(allM p q p.length).getD k 0:=by
   unfold sq
   rw [hl,apZ hk,amd ae,mi,iV,oW,wk,akB _ hc,pI]
  rw [e,aro h0 h1 k _ (bq _)]
  have hF1:∀ i,p.length<=i->(fun j=>if j<=k then sq p j*sq q (k-j) else 0) i=0:=fun i hi=>by
   show (if i<=k then sq p i*sq q (k-i) else 0)=0
   split
   ·rw [abO hi,vQ]
   ·rfl
  have hF2:∀ i,k+1<=i->(fun j=>if j<=k then sq p j*sq q (k-j) else 0) i=0:=fun i hi=>if_neg ae
  rw [<-alV _ _ hF1 (k+1),qB,alV _ _ hF2]
  exact uc _ _ _ fun i hi=>if_pos ae
 ·rw [abO ae]
  refine(aoe _ _ fun i hi=>?_).symm
  rcases gC i p.length with h2 | h2
  ·rw [abO (p:=q) ae,xi]
  ·rw [abO h2,vQ]
theorem ayl {p q:List Rat} (h0:0<p.length) (h1:0<q.length) (t:Rat):aJ (lf p q) t=aJ p t*aJ q t:=by
 have hl:=ua p q
 rw [amx ae,amx h0,amx h1,hl,mi,qB (p.length-1),show sq (lf p q)=cf (sq p) (sq q) from funext (aeX h0 h1)]
 exact av9 _ _ _ _ (fun k hk=>abO ae) _ _ (fun k hk=>abO ae)
def dl (n:Nat) (f:Nat->Rat) (k:Nat):Rat:=((k:Rat)+1)*f (k+1)-((n:Rat)-k)*f k
end Go.Proofs.YtckppbhafancnaaGreat
namespace Go.Lg
theorem az.cell {L:St} (b:Nat) {sz:Nat} {x y:LV} {mt:Bool} (hb:L.heap b=some ⟨sz,[x],mt⟩) (h:∀ Z μ w cs,aB Z μ w x cs->aB Z μ w y cs):az L (L.bO b (some ⟨sz,[y],mt⟩)):=by
 rintro n W X Z0 a w ⟨ey,bI,μ,Z,hc,hr⟩
 refine⟨ey,bI,μ,Z,?_,hr⟩
 have hs:∀ c,(L.bO b (some ⟨sz,[y],mt⟩)).heap c=if c=b then some ⟨sz,[y],mt⟩ else L.heap c:=fun c=>rfl
 refine⟨hc.cE,hc.mc,hc.jS,hc.me,hc.inj,hc.own,hc.x0,hc.oZ,hc.x1,fun c id blk g1 g2=>?_,fun c id blk g1 g2=>?_,fun c id g1=>?_⟩
 ·rw [hs] at g2
  split at g2
  ·rename_i e;subst e;cases g2;exact hc.jD c id ⟨sz,[x],mt⟩ g1 hb
  ·exact hc.jD c id blk g1 g2
 ·rw [hs] at g2
  split at g2
  ·rename_i e;subst e;cases g2;exact hc.cd c id ⟨sz,[x],mt⟩ g1 hb
  ·exact hc.cd c id blk g1 g2
 ·obtain⟨blk,k1,k2⟩:=hc.heap c id g1
  rw [hs]
  by_cases e:c=b
  ·subst e
   rw [if_pos rfl]
   rw [hb] at k1
   cases k1
   refine⟨_,rfl,?_⟩
   obtain⟨cs,T,part,rest,e1,e2,e3⟩:=k2
   refine⟨cs,T,part,rest,e1,e2,?_⟩
   simp only [aS] at e3 ⊢
   obtain⟨c1,c2,q1,q2,q3,q4⟩:=e3
   exact⟨c1,c2,q1,q2,h _ _ _ _ q3,q4⟩
  ·rw [if_neg e];exact⟨blk,k1,k2⟩
theorem az.xh (L:St) (d sz:Nat) (hd:L.heap d=none):az L (L.bO d (some ⟨sz,[],true⟩)):=by
 rintro n W X Z0 a w ⟨ey,bI,μ,Z,hc,hr⟩
 refine⟨ey,bI,μ,Z,?_,hr⟩
 refine hc.aiO fun c id yx=>?_
 have:c≠d:=by rintro rfl;rw [u4 hc hd] at yx;cases yx
 simp [St.bO,this]
theorem agc (d sz:Nat) (x y:LV) (Z:Nat->Prop) (μ:Nat->Option Nat) (w:World) (cs:List Value) (h:aB Z μ w (.agg [x,y,.v (.slice none 0 0)]) cs):aB Z μ w (.agg [x,y,.ref d sz 0 0]) cs:=by
 simp only [aB,cC] at h ⊢
 obtain⟨c1,c2,e1,e2,e3,c3,c4,e4,e5,e6,c5,c6,e7,e8,e9,e10⟩:=h
 exact⟨c1,c2,e1,e2,e3,c3,c4,e4,e5,e6,c5,c6,e7,e8,.inl ⟨e9.1,trivial⟩,e10⟩
end Go.Lg
namespace Go.Proofs.YtckppbhafancnaaGreat
open Go.Lg
def _root_.Go.Lg.V3.at (p:V3):Nat->Rat
 | 0=>p.x
 | 1=>p.y
 | _=>p.z
def a8 (po:List aG) (k:Nat):List Rat:=po.map fun q=>q.w*q.p.at k
def aL (po:List aG):List Rat:=po.map fun q=>q.w
theorem kY (po:List aG) (k:Nat):(a8 po k).length=po.length:=by simp [a8]
theorem mC (po:List aG):(aL po).length=po.length:=by simp [aL]
theorem ac7 {R:Nat} {p:V3} (h:cJ R p):∀ k,rl (p.at k)<=R
 | 0=>h.1
 | 1=>h.2.1
 | _+2=>h.2.2
theorem aie {R:Nat} {po:List aG} (h:∀ q∈po,sf R q) (k:Nat):∀ x∈a8 po k,rl x<=2*R:=fun x hx=>by
 obtain⟨q,hq,rfl⟩:=cQ.1 hx
 obtain⟨h1,h2,_⟩:=h q hq
 have h3:=ac7 h1 k
 have h4:=df q.w (q.p.at k)
 show rl (q.w*q.p.at k)<=_
 omega
theorem ahW {R:Nat} {po:List aG} (h:∀ q∈po,sf R q):∀ x∈aL po,rl x<=R:=fun x hx=>by
 obtain⟨q,hq,rfl⟩:=cQ.1 hx
 exact(h q hq).2.1
def fq (po:List aG) (k:Nat):List Rat:=te (·-·) (lf (cX (a8 po k)) (aL po)) (lf (a8 po k) (cX (aL po)))
theorem ay8 {p:List Rat} {n:Nat} (hp:p.length=n+1) (h:∀ x∈p,rl x<=1073741824):uz p n:=⟨h,fun k hk=>by
 obtain rfl:k=0:=by omega
 exact h⟩
theorem amC (p q:List Rat) (n:Nat) (hn:n<=40) (hp:p.length=n+1) (hq:q.length=n+1) (sr:∀ x∈p,rl x<=1073741824) (tY:∀ x∈q,rl x<=1073741824):ax an 251 [.list 3 (p.map ah),.list 3 (q.map ah)] (.list 3 ((te (·-·) p q).map ah)):=by
 have:=aCR p q n ae ae ae ae ae (.inl hp) (ay8 hp sr) (ay8 hq tY)
 rwa [axM ae,axM ae] at this
theorem apA {p q:List Rat} {R:Nat} (h:p.length-1+(q.length-1)<=40) (gO:p.length<=41) (jV:q.length<=41) (fH:1<=R) (hR:R<=100) (sr:∀ x∈p,rl x<=R) (tY:∀ x∈q,rl x<=R):∀ x∈lf p q,rl x<=344700:=fun x hx=>by
 obtain⟨k,hk,rfl⟩:=cQ.1 hx
 have hS:=afk gO jV fH sr tY p.length
 have gz:p.length*(q.length*(2*R+5))<=41*(41*205):=mM gO (mM jV ae)
 have oh:=iX ae hS k
 have hg2:=iX (S:=2) aj (abw (n:=p.length-1+(q.length-1)) h) k
 have h3:=tA ((allM p q p.length).getD k 0) ((ja (p.length-1+(q.length-1))).getD k 0)
 omega
theorem ash {R:Nat} {p q:List Rat} {g:Rat->Rat->Rat} (hg:∀ a b,rl (g a b)<=rl a+rl b+1) (hR:1<=R) (hp:∀ x∈p,rl x<=R) (hq:∀ x∈q,rl x<=R):∀ x∈te g p q,rl x<=2*R+1:=fun x hx=>by
 obtain⟨i,_,rfl⟩:=cQ.1 hx
 have h1:=iX hR hp i
 have h2:=iX hR hq i
 have h3:=hg (p.getD i 0) (q.getD i 0)
 omega
structure oy (po:List aG) (d:Nat):Prop where
 hl:po.length=d+1
 hd:1<=d
 h6:d<=6
 ok:∀ q∈po,sf 1 q
section
variable {po:List aG} {d:Nat} (h:oy po d)
theorem oy.n (h:oy po d) (k:Nat):(a8 po k).length=d+1/\∀ x∈a8 po k,rl x<=2:=⟨by rw [kY,h.hl],aie h.ok k⟩
theorem oy.w (h:oy po d):(aL po).length=d+1/\∀ x∈aL po,rl x<=2:=⟨by rw [mC,h.hl],fun x hx=>ba (ahW h.ok x hx) aj⟩
theorem oy.dn (h:oy po d) (k:Nat):(cX (a8 po k)).length=d/\∀ x∈cX (a8 po k),rl x<=8:=by
 obtain⟨h1,h2⟩:=h.n k
 have:=h.hd
 have:=h.h6
 exact⟨by rw [wX,h1,if_neg ae];omega,ahX aj ae h2⟩
theorem oy.dw (h:oy po d):(cX (aL po)).length=d/\∀ x∈cX (aL po),rl x<=8:=by
 obtain⟨h1,h2⟩:=h.w
 have:=h.hd
 have:=h.h6
 exact⟨by rw [wX,h1,if_neg ae];omega,ahX aj ae h2⟩
theorem oy.m1 (h:oy po d) (k:Nat):(lf (cX (a8 po k)) (aL po)).length=2*d-1+1/\∀ x∈lf (cX (a8 po k)) (aL po),rl x<=344700:=by
 obtain⟨h1,h2⟩:=h.dn k
 obtain⟨h3,h4⟩:=h.w
 have:=h.hd
 have:=h.h6
 exact⟨by rw [ua,h1,h3];omega,apA (R:=8) ae ae ae aj aj h2 (fun x hx=>ba (h4 x hx) aj)⟩
theorem oy.m2 (h:oy po d) (k:Nat):(lf (a8 po k) (cX (aL po))).length=2*d-1+1/\∀ x∈lf (a8 po k) (cX (aL po)),rl x<=344700:=by
 obtain⟨h1,h2⟩:=h.n k
 obtain⟨h3,h4⟩:=h.dw
 have:=h.hd
 have:=h.h6
 exact⟨by rw [ua,h1,h3];omega,apA (R:=8) ae ae ae aj aj (fun x hx=>ba (h2 x hx) aj) h4⟩
theorem oy.t (h:oy po d) (k:Nat):(fq po k).length=2*d-1+1/\∀ x∈fq po k,rl x<=689401:=by
 obtain⟨h1,h2⟩:=h.m1 k
 obtain⟨_,h4⟩:=h.m2 k
 exact⟨by rw [fq,aaw,h1],fun x hx=>ash jF aj h2 h4 x hx⟩
end
theorem ah0 {Z:Nat->Prop} {μ:Nat->Option Nat} {w:World} {cs:List Value} (d sz:Nat) (h:aB Z μ w (.v (.slice none 0 0)) cs):aB Z μ w (.ref d sz 0 0) cs:=by
 simp only [aB] at h ⊢
 exact .inl ⟨h.1,trivial⟩
theorem aGi (a b c d:Nat) (sz:Nat) (Z:Nat->Prop) (μ:Nat->Option Nat) (w:World) (cs:List Value) (h:aB Z μ w (.agg [.v (.slice none 0 0),.v (.slice none 0 0),.v (.slice none 0 0),.v (.slice none 0 0)]) cs) :
  aB Z μ w (.agg [.ref a sz 0 0,.ref b sz 0 0,.ref c sz 0 0,.ref d sz 0 0]) cs:=by
 simp only [aB.eq_4,cC] at h ⊢
 obtain⟨c1,c2,e1,e2,e3,c3,c4,e4,e5,e6,c5,c6,e7,e8,e9,c7,c8,e10,e11,e12,e13⟩:=h
 exact⟨c1,c2,e1,e2,ah0 _ _ e3,c3,c4,e4,e5,ah0 _ _ e6,c5,c6,e7,e8,ah0 _ _ e9,c7,c8,e10,e11,ah0 _ _ e12,e13⟩
theorem acy {α β:Type} [Inhabited α] (f:α->β) (l:List α) {j:Nat} (h:j<l.length):(l.map f).take j++[f (l.getD j default)]=(l.map f).take (j+1):=by
 rw [zB,g8,b7 h,bp,b7 h];rfl
theorem sJ {po:List aG} {j:Nat} (h:j<po.length):po.getD j default∈po:=by
 rw [bp,b7 h];exact qk h
open H0 in
theorem ac6 (p q:List Rat) (R:Nat) (oR:0<p.length) (px:0<q.length) (h:p.length-1+(q.length-1)<=40) (fH:1<=R) (hR:R<=67108864) (sr:∀ x∈p,rl x<=R) (tY:∀ x∈q,rl x<=R):ax an 252 [.list 3 (p.map ah),.list 3 (q.map ah)] (.list 3 ((lf p q).map ah)):=by
 refine aW Tryz.func252 ?_
 refine bD ?_
 refine cp au (aBs p q R oR px h fH hR sr tY) ?_
 refine dM ?_
 exact eB
theorem wD {a b:Rat}:0<=gJ a b↔b<=a:=by
 unfold gJ
 constructor
 ·intro h
  split at h
  ·exact absurd h aj
  ·grind
 ·intro h
  split
  ·exfalso;grind
  ·split<;>decide
theorem akX {a:Rat} (h:cW a=0):a=0:=by
 rcases aGu a with⟨g,e⟩ | ⟨_,e⟩ | ⟨_,e⟩
 ·exact g
 ·rw [e] at h;cases h
 ·rw [e] at h;cases h
namespace ayh
theorem aO {p q:Prop} (k:q) (e:p=q:=by simp only [e1,e2,e3,e4,p1,p2,p3,q1,q2,q3,l1,t0,t1,r1,r2,r3,r4,Nat.zero_add,Nat.reduceMul,Nat.reduceAdd,b1,b2,b3,b4,b5,b6,i1,i2,i3,i4,i5,i6,Nat.reduceBEq,cN,ejm,List.length_set];exact rfl):p:=e.mpr k
end ayh
open ayh in
theorem aAa (p:List Rat) (n:Nat) (gO:p.length=n) (jn:0<n) (hn:n<=1048576):nO an 179 ⟨3,p.map ah,true⟩ [.ref 0 3 0 n] (.bf []) ⟨3,p.reverse.map ah,true⟩:=by
 refine xY Tryz.func179 ?_
 have ejm:True:=trivial
 refine aA ?_
 refine ak rfl lK ?_
 refine bc ?_
 refine uE (fun(i j:Nat) (o:List Rat) L=>((((St.mk L.slot (hp [(0,⟨3,o.map ah,true⟩)])).put (some 0) (.ref 0 3 0 n)).put (some 2) (ai i)).put (some 3) (ai j))) (fun i j o=>j+i+1=n/\o.length=n/\∀ x,x<n->o.getD x 0=if x<i\/n<=x+i then p.getD (n-1-x) 0 else p.getD x 0) (fun i j o=>j) 0 (n-1) p ⟨ae,gO,fun x hx=>by rw [if_neg ae]⟩ ?_
 rintro i j o L1 ⟨rF,de,hg⟩
 refine bo ?_
 refine aH rfl ?_ ?_<;>intro wQ h9
 ·have ejm:((j:Int)-1)=((j-1:Nat):Int):=by omega
  refine aA ?_
  refine iC 13 [2,3] aq ?_
  refine amL ?_
  exact ui (i+1) (j-1) ((o.set i (o.getD j 0)).set j (o.getD i 0)) ⟨ae,by simp [de],aGx gO de ae rF hg⟩
 ·refine aA ?_
  have hE:=aE0 gO de ae hg
  rw [<-hE]
  exact aE1 rfl rfl (a7 ar _)
namespace aty
theorem aO {p q:Prop} (k:q) (e:p=q:=by simp only [e1,e2,e3,e4,p1,p2,p3,q1,q2,q3,l1,t0,t1,r1,r2,r3,r4,Nat.zero_add,Nat.reduceMul,Nat.reduceAdd,b1,b2,b3,b4,b5,b6,i1,i2,i3,i4,i5,i6,Nat.reduceBEq,cN,r1r,aV ar,cU,eu,LV.kill,bX];exact rfl):p:=e.mpr k
end aty
open aty in
theorem aEW (p:List Rat) (a b:Rat) (oR:0<p.length) (hl:p.length<=1048576) (oe:∀ x∈p,rl x<=274877906944) (cL:rl a+rl b<=1073741824) (g1:1-a≠0->HS p a/\HS (nU p a) ((b-a)/(1-a))) (g2:1-a=0->b≠0->HS p b/\HS (rk p b) (1/b)):ax an 94 [.list 3 (p.map ah),ah a,ah b] (.list 3 ((xL p a b).map ah)):=by
 have fu:=jF 1 a
 have qj:=jF b a
 have uM:rl 1=1:=rfl
 refine aW Tryz.func94 ?_
 refine bD ?_
 refine cp aR (xx 1 aj aj) ?_
 refine bD ?_
 refine cp au (sw 1 a ae) ?_
 refine aZ ?_
 refine cp aR (yu (1-a) ae) ?_
 refine aQ ?_
 refine aH rfl ?_ ?_<;>intro tN xp
 ·have aX:1-a≠0:=ao3 xp
  obtain⟨gA,gB⟩:=g1 aX
  have hE:xL p a b=rk (nU p a) ((b-a)/(1-a)):=by rw [xL,if_pos aX]
  refine aA ?_
  refine cp au (afA p a gA) ?_
  refine bo ?_
  refine a9 12 aq ?_
  refine aQ ?_
  refine cp au (sw b a ae) ?_
  refine av ?_
  refine cp au (an4 (b-a) (1-a) ae) ?_
  refine cp au (afA (nU p a) ((b-a)/(1-a)) gB) ?_
  refine iE ?_
  rw [hE]
  exact eB
 ·have aX:1-a=0:=akX ae
  refine aC ?_
  refine cp aR (yu b ae) ?_
  refine aQ ?_
  refine aH rfl ?_ ?_<;>intro aGP h44
  ·have hnb:b≠0:=ao3 h44
   obtain⟨gA,gB⟩:=g2 aX hnb
   have hE:xL p a b=nU (rk p b) (1/b):=by rw [xL,if_neg (by rw [aX];simp),if_pos hnb]
   refine aA ?_
   refine cp au (afA p b gA) ?_
   refine bG ?_
   refine cp au (an4 1 b ae) ?_
   refine cp au (afA (rk p b) (1/b) gB) ?_
   refine iE ?_
   rw [hE]
   exact eB
  ·have hnb:b=0:=akX ae
   have hE:xL p a b=p.reverse:=by rw [xL,if_neg (by rw [aX];simp),if_neg (by rw [hnb];simp)]
   refine bc ?_
   refine aba [] rfl rfl (.cons (.pure (fc ar _ _)) .nil) (aou p hl oe) (a7 ar _) rfl ?_
   refine aC ?_
   refine ye 1000977 rfl rfl rfl (a7 ar _) (.cons .ref .nil) (.ref oR) (aAa p p.length rfl oR hl) rfl (a7 ar _) ?_
   refine bD ?_
   rw [hE]
   exact o4 [1000977] rfl rfl (fI ar rfl rfl aM)
def lin (α β:Rat):Rat->List Rat->List Rat
 | c,[]=>[β*c]
 | c,x :: l=>(β*c+α*x) :: lin α β x l
inductive KS:Nat->List Rat->Prop
 | z {s:Int} {l:List Rat}:l≠[]->s=1\/s=-1->(∀ x∈l,cW x=s)->KS 0 l
 | r {n:Nat} {l:List Rat} {a b:Rat}:KS n l->0<a->0<b->KS (n+1) (lin (-a) b 0 l)
theorem adU {a b:Rat}:gJ a b<0↔a<b:=by
 unfold gJ;split
 ·simp [*]
 ·split<;>simp [*]
theorem ano {P:Program} {L:St} {a u:Nat} {T U:TypeId} {b c sz sy:Nat} {x y x' y':LV} {m m':Bool} {n n':Nat} {ag ag':Bool} (bs:List Nat) (h0:bs.contains 0=false) (h:L.slot a=.aD b sz 0 0) (hb:L.heap b=some ⟨sz,[x],m⟩)
  (hx:x.aw=sz) (cm:x.at 0 n ag=some x) (hT:bE P T n ag) (hi:cY (L.cd bs).heap x y) (h':L.slot u=.aD c sy 0 0) (hc:L.heap c=some ⟨sy,[x'],m'⟩)
  (hx':x'.aw=sy) (akS:x'.at 0 n' ag'=some x') (hT':bE P U n' ag') (n5:cY (L.cd bs).heap x' y'):qc P [.cell a T,.cell u U] L (.bf [y,y']) [] :=
 ⟨[x,x'],[y,y'],(L.cd bs).heap,[],.cons ⟨b,sz,0,0,_,x,n,ag,h,hb,rfl,rfl,hx,cm,hT⟩ (.cons ⟨c,sy,0,0,_,x',n',ag',h',hc,rfl,rfl,hx',akS,hT'⟩ .nil),tb bs h0,.cons (.cF hi) (.cons (.cF n5) .nil),zN,rfl,fun k b h=>by simp at h,rfl⟩
section
variable {P:Program} {H:bW} {ρ:Operand->LV} {T E:TypeId}
end
theorem azj (po:List aG) (i:Nat):(po.map (·.p)).getD i default=(po.getD i default).p:=by
 rw [bp,bp,g8]
 cases po[i]?<;>rfl
def ada {α:Type} (pr:α->Bool) (l:List α):Int:=if l.any pr then(l.findIdx pr:Nat) else -1
theorem agn {α:Type} [Inhabited α] {pr:α->Bool} {l:List α} {i:Nat} (hi:i<l.length) (h0:∀ j,j<i->pr (l.getD j default)=false) (h:pr (l.getD i default)=true):ada pr l=(i:Int):=by
 have hg:∀ j (hj:j<l.length),l.getD j default=l[j]:=fun j hj=>by rw [bp,b7 hj];rfl
 have e:l.findIdx pr=i:=by
  rw [List.findIdx_eq hi]
  refine⟨by rw [<-hg i hi];exact h,fun j hj=>?_⟩
  rw [<-hg j ae];exact h0 j hj
 have ha:l.any pr=true:=List.any_eq_true.2 ⟨l[i],qk hi,by rw [<-hg i hi];exact h⟩
 unfold ada
 rw [if_pos ha,e]
theorem aI6 {α:Type} [Inhabited α] {pr:α->Bool} {l:List α} (h0:∀ j,j<l.length->pr (l.getD j default)=false):ada pr l=-1:=by
 have ha:l.any pr=false:=by
  rw [List.any_eq_false]
  intro x hx
  obtain⟨i,hi,rfl⟩:=List.mem_iff_getElem.1 hx
  have:=h0 i hi
  rw [bp,b7 hi] at this
  simpa using this
 unfold ada
 rw [if_neg (by rw [ha];decide)]
theorem auE {α:Type} [Inhabited α] {l:List α} {i:Nat} (h:i<l.length):l.getD i default∈l:=by
 rw [bp,b7 h];exact qk h
theorem axe {a b:Nat} (h:ao a=ao b):a=b:=by rw [<-cq a,h,cq]
section
variable {a b:Rat}
theorem aFn (h2:decide (ao a.num.natAbs=ao b.num.natAbs)=false):false=decide (a=b):=by
 symm;rw [decide_eq_false_iff_not];rintro rfl;simp at h2
theorem aIH (h:(decide (a<0)==decide (b<0))=true) (h2:decide (ao a.num.natAbs=ao b.num.natAbs)=true):decide (ao (jT a)=ao (jT b))=decide (a=b):=by
 rw [decide_eq_decide,ai4]
 exact⟨fun h3=>⟨eq_of_beq h,axe (of_decide_eq_true h2),axe h3⟩,fun h3=>by rw [h3.2.2]⟩
end
def gM (k:List Rat) (t:Rat):Nat->Nat
 | 0=>0
 | i+1=>gM k t i+(if k.getD i 0=t then 1 else 0)
theorem aga (k:List Rat) (t:Rat):∀ i,gM k t i<=i
 | 0=>bq _
 | i+1=>by have:=aga k t i;rw [gM];split<;>omega
def dk (k:List Rat):Nat->List Rat
 | 0=>[]
 | i+1=>if i=0\/k.getD i 0≠k.getD (i-1) 0 then dk k i++[k.getD i 0] else dk k i
theorem aw3 (k:List Rat):∀ i,(dk k i).length<=i
 | 0=>bq _
 | i+1=>by
  have:=aw3 k i
  rw [dk];split
  ·simp;omega
  ·omega
theorem akK (k:List Rat):∀ i,i<=k.length->∀ x∈dk k i,x∈k
 | 0,_,x,h=>by cases h
 | i+1,hi,x,h=>by
  rw [dk] at h
  split at h
  ·rcases List.mem_append.1 h with h | h
   ·exact akK k i ae x h
   ·rw [List.mem_singleton.1 h];exact dK ae
  ·exact akK k i ae x h
structure kOK (k:List Rat) (d:Nat):Prop where
 d1:1<=d
 d6:d<=6
 len:2*d+2<=k.length
 max:k.length<=d+41
 srt:∀ i,i+1<k.length->k.getD i 0<=k.getD (i+1) 0
 ne:k.getD 0 0≠k.getD (k.length-1) 0
 aHa:∀ t∈k,(t=k.getD 0 0\/t=k.getD (k.length-1) 0)->gM k t k.length=d+1
 ink:∀ t∈k,t≠k.getD 0 0->t≠k.getD (k.length-1) 0->gM k t k.length<=d
 sz:∀ x∈k,rl x<=64
theorem ai5 {k:List Rat}:∀ i,i<=k.length->(∀ j,1<=j->j<i->k.getD j 0≠k.getD (j-1) 0)->dk k i=k.take i
 | 0,_,_=>rfl
 | i+1,hi,h=>by
  rw [dk,ai5 i ae (fun j h1 h2=>h j h1 ae),if_pos (by
   by_cases e:i=0
   ·exact .inl e
   ·exact .inr (h i ae ae)),zB,bp,b7 ae];rfl
theorem ajI {k:List Rat} {i:Nat} (h0:0<i) (h:k.getD i 0≠k.getD (i-1) 0):dk k (i+1)=dk k i++[k.getD i 0]:=by rw [dk,if_pos (.inr h)]
theorem adJ {k:List Rat} {i:Nat} (h0:0<i) (h:k.getD i 0=k.getD (i-1) 0):dk k (i+1)=dk k i:=by rw [dk,if_neg (fun e=>e.elim (fun e=>by omega) (fun e=>e h))]
theorem azn {w:List Rat} {m n:Nat} (hm:m<=n) (hw:w.length=n):(w.map ah).take m++ay (n-m) (ah 0)++(w.map ah).drop (m+(n-m))=(w.take m++ay (n-m) 0).map ah:=by
 rw [kg bz]
 simp [xR]
theorem ab6 {l:List Rat} {k:Nat} (h:k<l.length):l.take k++[l.getD k 0]=l.take (k+1):=by
 rw [zB,b7 h,bp,b7 h];rfl
theorem aIG {α:Type} {e:α->LV} {ag:Bool} {bs:List Nat} {L:St} {b sz len:Nat} {l m:List α} {t:Bool} (he:iZ e sz ag) (hb:L.heap b=some ⟨sz,(l++m).map e,t⟩) (sB:bs.contains b=true) (hl:len=l.length):cY (L.cd bs).heap (.ref b sz 0 len) (.list sz (l.map e)):=by
 have:=afP (off:=0) (len:=len) hb sB (a7 he _) bz
 subst hl
 rwa [List.drop_zero,<-xR,List.take_left] at this
open H0 in
theorem aaa (a b:Rat) (h:rl a+rl b<=1099511627776):ax an 156 [ah a,ah b] (bL (decide (a=b))):=by
 have a1:=nd a
 have a3:=n8 a
 have c1:=nd b
 have c3:=n8 b
 refine aW Tryz.func156 ?_
 refine iE ?_
 refine ez 10 rfl ?_ ?_<;>intro ob qf
 ·refine aA ?_
  refine cp au (ahy _ _ ae ae) ?_
  refine aT ?_
  refine ez 17 rfl ?_ ?_<;>intro ac2 h17
  ·refine aA ?_
   refine cp au (ahy _ _ ae ae) ?_
   refine bc ?_
   rw [<-aIH ob ac2]
   exact eB
  ·refine bM ?_
   rw [<-aFn ac2]
   exact eB
 ·refine jI ?_
  rw [<-axl ob]
  exact eB
namespace ayS
theorem aO {p q:Prop} (k:q) (e:p=q:=by simp only [e1,e2,e3,e4,p1,p2,p3,q1,q2,q3,l1,t0,t1,r1,r2,r3,r4,Nat.zero_add,Nat.reduceMul,Nat.reduceAdd,b1,b2,b3,b4,b5,b6,i1,i2,i3,i4,i5,i6,Nat.reduceBEq,cN,kJ,yw,List.set_cons_zero,List.set_cons_succ,Nat.reduceEqDiff,reduceIte,if_true,if_false,eN,eY,aV bl,aV bF,aV ar,cU,eu,LV.kill,bX];exact rfl):p:=e.mpr k
end ayS
open ayS in
theorem aDY (f:Nat) (k:List Rat) (h0:0<k.length) (hl:k.length<=1048576) (hs:∀ i,i+1<k.length->k.getD i 0<=k.getD (i+1) 0) (hf:∀ x∈k,∀ y∈k,ax an f [ah x,ah y] (iL (gJ x y))):ax an 239 [.list 3 (k.map ah),.dq f []] (bL true):=by
 refine aW Tryz.func239 ?_
 have kJ:True:=trivial
 have yw:True:=trivial
 refine bM ?_
 refine ak rfl lK ?_
 refine aA ?_
 refine dV (fun(i:Nat) L=>((((St.mk L.slot (hp [])).put (some 0) (.list 3 (k.map ah))).put (some 1) (.dq f [])).put (some 5) (ai i))) (fun i=>i<k.length) (fun i=>i) (k.length-1) ae ?_
 rintro i L1 hi
 refine aZ ?_
 refine aH rfl ?_ ?_<;>intro ob qf
 ·have dR:0<i:=by omega
  have kJ:((i:Int)-1).toNat=i-1:=by omega
  have yw:((i:Int)).toNat=i:=by omega
  have hc:=hf _ (dK (p:=k) (i:=i) hi) _ (dK (p:=k) (i:=i-1) ae)
  have kM:=hs (i-1) ae
  rw [Nat.sub_add_cancel ae] at kM
  have hcg:0<=gJ (k.getD i 0) (k.getD (i-1) 0):=wD.2 kM
  refine bc ?_
  refine a9 12 aq ?_
  refine aZ ?_
  refine ak rfl lK ?_
  refine aT ?_
  refine oD [] rfl rfl (.dq (f:=f) (cap:=[]) (args:=[ah (k.getD i 0),ah (k.getD (i-1) 0)]) rfl (.cons et (.cons et .nil)) ⟨rfl,fun _ h=>by cases h⟩ hc.1 aj (fun _ h=>by cases h)) (hc.2 _) ?_
  refine aQ ?_
  refine aH rfl ?_ ?_<;>intro tN xp
  ·omega
  ·refine bc ?_
   refine ak rfl lK ?_
   refine aQ ?_
   exact jL (i-1) ae
 ·refine bC ?_
  exact n6
namespace anC
theorem aO {p q:Prop} (k:q) (e:p=q:=by simp only [e1,e2,e3,e4,p1,p2,p3,q1,q2,q3,l1,t0,t1,r1,r2,r3,r4,Nat.zero_add,Nat.reduceMul,Nat.reduceAdd,b1,b2,b3,b4,b5,b6,i1,i2,i3,i4,i5,i6,Nat.reduceBEq,cN,List.set_cons_zero,List.set_cons_succ,Nat.reduceEqDiff,reduceIte,if_true,if_false,eN,eY,aV bl,aV bF,aV ar,cU,eu,LV.kill,bX];exact rfl):p:=e.mpr k
end anC
open anC in
theorem aiA (k:List Rat) (hl:k.length<=1048576) (hr:∀ x∈k,rl x<=549755813888) (t:Rat) (ht:rl t<=549755813888):ax an 158 [.list 3 (k.map ah),ah t] (ai (gM k t k.length)):=by
 refine aW Tryz.func158 ?_
 refine pa ?_
 refine dV (fun(i:Nat) L=>((((((St.mk L.slot (hp [(3,⟨3,[ah t],true⟩)])).put (some 3) (.aD 3 3 0 0)).put (some 5) (ai (gM k t i))).put (some 8) (.list 3 (k.map ah))).put (some 9) (ai k.length)).put (some 10) (ai i))) (fun i=>i<=k.length) (fun i=>k.length-i) 0 (b8 _) ?_
 rintro i L1 hi
 refine aC ?_
 refine aH rfl ?_ ?_<;>intro ajG h11
 ·have dR:i<k.length:=by omega
  have hx:=hr _ (dK (i:=i) ae)
  have htl:=aga k t i
  refine oF ?_
  refine cp au (aaa (k.getD i 0) t ae) ?_
  refine aT ?_
  refine aH rfl ?_ ?_<;>intro abC zd
  ·have hT:gM k t (i+1)=gM k t i+1:=by rw [gM,if_pos zd]
   refine aT ?_
   refine ak rfl cV ?_
   refine aA ?_
   refine cM (az.kill _ 7) ?_
   refine ak rfl cV ?_
   refine aQ ?_
   exact l5
  ·have hT:gM k t (i+1)=gM k t i:=by rw [gM,if_neg zd];rfl
   refine aQ ?_
   refine cM (az.kill _ 7) ?_
   refine ak rfl cV ?_
   refine aQ ?_
   exact l5
 ·obtain rfl:i=k.length:=by omega
  refine bG ?_
  exact n6
namespace arK
theorem aO {p q:Prop} (k:q) (e:p=q:=by simp only [e1,e2,e3,e4,p1,p2,p3,q1,q2,q3,l1,t0,t1,r1,r2,r3,r4,Nat.zero_add,Nat.reduceMul,Nat.reduceAdd,b1,b2,b3,b4,b5,b6,i1,i2,i3,i4,i5,i6,Nat.reduceBEq,cN,kJ,yw,eik,eia,xD,eyl,ewa,ewb,Nat.zero_add,Nat.add_zero,List.length_set,List.length_map,List.set_cons_zero,List.set_cons_succ,Nat.reduceEqDiff,reduceIte,if_true,if_false,eN,eY,aV bl,aV bF,aV ar,cU,eu,LV.kill,bX];exact rfl):p:=e.mpr k
end arK
open arK in
theorem aFX (f:Nat) (l:List Rat) (h0:0<l.length) (hl:l.length<=1048576) (hf:∀ x∈l,∀ y∈l,ax an f [ah x,ah y] (bL (decide (x=y)))):nO an 154 ⟨3,l.map ah,true⟩ [.ref 0 3 0 l.length,.dq f []] (.ref 0 3 0 (dk l l.length).length) ⟨3,((dk l l.length)++ay (l.length-(dk l l.length).length) 0).map ah,true⟩:=by
 refine xY Tryz.func154 ?_
 have kJ:True:=trivial
 have yw:True:=trivial
 have eik:True:=trivial
 have eia:True:=trivial
 have xD:True:=trivial
 have eyl:True:=trivial
 have ewa:True:=trivial
 have ewb:True:=trivial
 refine dH ?_
 refine aH rfl ?_ ?_<;>intro ob qf
 ·obtain aKG:l.length=1:=by omega
  have hE:(dk l l.length)=l:=by rw [ai5 _ (bq _) (fun j h1 h2=>by omega),nT]
  refine bo ?_
  first | (rw [hE,qn,acQ,ng];exact we rfl .ref rfl rfl (a7 ar _)) | (exact we rfl .ref (by first | rfl | (simp;done)) rfl (a7 ar _))
 ·refine bD ?_
  refine dV (fun(i:Nat) L=>((((St.mk L.slot (hp [(0,⟨3,l.map ah,true⟩)])).put (some 0) (.ref 0 3 0 l.length)).put (some 1) (.dq f [])).put (some 5) (ai i))) (fun i=>1<=i/\i<=l.length/\∀ j,1<=j->j<i->l.getD j 0≠l.getD (j-1) 0) (fun i=>l.length-i) 1 ⟨bq _,ae,fun j h1 h2=>by omega⟩ ?_
  rintro i L1 ⟨tK,hil,aX⟩
  refine bD ?_
  refine aH rfl ?_ ?_<;>intro qI nG
  ·have dR:i<l.length:=by omega
   have kJ:((i:Int)-1).toNat=i-1:=by omega
   have yw:((i:Int)).toNat=i:=by omega
   have hc:=hf _ (dK (p:=l) (i:=i) dR) _ (dK (p:=l) (i:=i-1) ae)
   refine bc ?_
   refine a9 11 aq ?_
   refine aZ ?_
   refine ak rfl lK ?_
   refine aT ?_
   try simp only [t1,cN,kJ,yw,fF]
   refine oD [] rfl rfl (.dq (f:=f) (cap:=[]) (args:=[ah (l.getD i 0),ah (l.getD (i-1) 0)]) rfl (.cons et (.cons et .nil)) ⟨rfl,fun _ h=>by cases h⟩ hc.1 aj (fun _ h=>by cases h)) (hc.2 _) ?_
   refine aT ?_
   refine aH rfl ?_ ?_<;>intro xU qN
   ·have hdi:dk l (i+1)=dk l i:=adJ ae qN
    have lF:dk l i=l.take i:=ai5 i hil aX
    have hln:(l.take i).length=i:=by rw [eP];omega
    have dj:1<=1/\i+1<=l.length/\l.length=l.length/\(dk l (i+1)).length+1<=i+1/\l.take (dk l (i+1)).length=dk l (i+1)/\∀ x,i+1-1<=x->l.getD x 0=l.getD x 0:=⟨bq _,ae,rfl,by rw [hdi,lF,hln];omega,by rw [hdi,lF,hln],fun _ _=>rfl⟩
    have eia:(dk l (i+1)).length=i:=by rw [hdi,lF,hln]
    refine aA ?_
    refine ak rfl (.wS (a:=i) (h:=l.length) rfl dI db (fun y hy=>by cases hy;exact⟨_,rfl⟩) (fun h=>by cases h) (fun y hy=>by cases hy) (fun _=>rfl) om om om) ?_
    refine bM ?_
    refine ma (fun(j:Nat) (w:List Rat) L=>((((((St.mk L.slot (hp [(0,⟨3,w.map ah,true⟩)])).put (some 0) (.ref 0 3 0 l.length)).put (some 1) (.dq f [])).put (some 5) (ai (dk l (i+j)).length)).put (some 6) (.ref 0 3 i (l.length-i))).put (some 7) (ai j))) (fun j w=>1<=j/\i+j<=l.length/\w.length=l.length/\(dk l (i+j)).length+1<=i+j/\w.take (dk l (i+j)).length=(dk l (i+j))/\∀ x,i+j-1<=x->w.getD x 0=l.getD x 0) (fun j w=>l.length-(i+j)) 1 l dj ?_
    rintro j w L2 ⟨hj1,rF,jb,nz,lj,hwx⟩
    refine bD ?_
    refine aH rfl ?_ ?_<;>intro zW h35
    ·have hi3:i+j<l.length:=by omega
     have ewa:w.getD (i+j) 0=l.getD (i+j) 0:=hwx _ ae
     have ewb:w.getD (i+(j-1)) 0=l.getD (i+j-1) 0:=by rw [show i+(j-1)=i+j-1 by omega];exact hwx _ ae
     have eik:((j:Int)-1).toNat=j-1:=by omega
     have hc:=hf _ (dK (p:=l) (i:=i+j) hi3) _ (dK (p:=l) (i:=i+j-1) ae)
     have xZ:(dk l (i+j)).length<l.length:=by omega
     refine bc ?_
     refine a9 12 aq ?_
     refine aZ ?_
     refine ak rfl lK ?_
     refine aT ?_
     try simp only [t1,cN,eik,ewa,ewb]
     refine oD [] rfl rfl (.dq (f:=f) (cap:=[]) (args:=[ah (l.getD (i+j) 0),ah (l.getD (i+j-1) 0)]) rfl (.cons et (.cons et .nil)) ⟨rfl,fun _ h=>by cases h⟩ hc.1 aj (fun _ h=>by cases h)) (hc.2 _) ?_
     refine aQ ?_
     refine aH rfl ?_ ?_<;>intro acK h49
     ·have hy:=ajI (k:=l) (i:=i+j) ae h49
      have eyl:(dk l (i+(j+1))).length=(dk l (i+j)).length+1:=by rw [<-p8,hy];simp
      have zT:(dk l (i+j+1)).length=(dk l (i+j)).length+1:=by rw [hy];simp
      have hnA:1<=j+1/\i+(j+1)<=l.length/\(w.set (dk l (i+j)).length (l.getD (i+j) 0)).length=l.length/\(dk l (i+(j+1))).length+1<=i+(j+1)/\(w.set (dk l (i+j)).length (l.getD (i+j) 0)).take (dk l (i+(j+1))).length=dk l (i+(j+1))/\∀ x,i+(j+1)-1<=x->(w.set (dk l (i+j)).length (l.getD (i+j) 0)).getD x 0=l.getD x 0:=⟨ae,ae,by simp [jb],by rw [<-p8,zT];omega,by rw [<-p8,zT,hy,zB,atw (bq _),lj,List.getElem?_set_self ae];rfl,fun x hx=>by rw [aaP _ _ _ _ ae,if_neg ae];exact hwx x ae⟩
      refine bD ?_
      try simp only [t1,cN,ewa,fF]
      refine bc ?_
      refine ak rfl cV ?_
      refine aC ?_
      refine ak rfl cV ?_
      refine aQ ?_
      exact jh (j+1) (w.set (dk l (i+j)).length (l.getD (i+j) 0)) hnA
     ·have hy:=adJ (k:=l) (i:=i+j) ae h49
      have eyl:(dk l (i+(j+1))).length=(dk l (i+j)).length:=by rw [<-p8,hy]
      have hnB:1<=j+1/\i+(j+1)<=l.length/\w.length=l.length/\(dk l (i+(j+1))).length+1<=i+(j+1)/\w.take (dk l (i+(j+1))).length=dk l (i+(j+1))/\∀ x,i+(j+1)-1<=x->w.getD x 0=l.getD x 0:=⟨ae,ae,jb,by rw [<-p8,hy];omega,by rw [<-p8,hy];exact lj,fun x hx=>hwx x ae⟩
      refine bc ?_
      refine ak rfl cV ?_
      refine aQ ?_
      exact jh (j+1) w hnB
    ·obtain rfl:j=l.length-i:=by omega
     have eia:i+(l.length-i)=l.length:=by omega
     have im:=nz
     rw [eia] at nz lj
     have xD:=azn (w:=w) (m:=(dk l l.length).length) (n:=l.length) ae jb
     rw [lj] at xD
     refine bD ?_
     refine ak rfl (.wS (a:=(dk l (i+(l.length-i))).length) (h:=l.length) rfl dI db (fun y hy=>by cases hy;exact⟨_,rfl⟩) (fun h=>by cases h) (fun y hy=>by cases hy) (fun _=>rfl) om om om) ?_
     refine bS rfl (.clr (n:=l.length-(dk l (i+(l.length-i))).length) (off:=0+(dk l (i+(l.length-i))).length) (z:=ah 0) (blk:=⟨3,w.map ah,true⟩) rfl rfl rfl rfl kR dI (q8 ▸ mq) (ar.aw 0)) ?_
     refine aC ?_
     refine ak rfl (.aiq rfl dI db rfl om om) ?_
     refine bD ?_
     first | (rw [hE,qn,acQ,ng];exact we rfl .ref rfl rfl (a7 ar _)) | (exact we rfl .ref (by first | rfl | (simp;done)) rfl (a7 ar _))
   ·have hnx:∀ j,1<=j->j<i+1->l.getD j 0≠l.getD (j-1) 0:=fun j h1 h2=>by
     rcases Nat.lt_succ_iff_lt_or_eq.1 h2 with e | rfl
     ·exact aX j h1 e
     ·exact qN
    refine bc ?_
    refine ak rfl cV ?_
    refine aQ ?_
    exact jL (i+1) ⟨ae,ae,hnx⟩
  ·obtain rfl:i=l.length:=by omega
   have hE:(dk l l.length)=l:=by rw [ai5 _ (bq _) aX,nT]
   refine bG ?_
   first | (rw [hE,qn,acQ,ng];exact we rfl .ref rfl rfl (a7 ar _)) | (exact we rfl .ref (by first | rfl | (simp;done)) rfl (a7 ar _))
namespace anv
theorem aO {p q:Prop} (k:q) (e:p=q:=by simp only [e1,e2,e3,e4,p1,p2,p3,q1,q2,q3,l1,t0,t1,r1,r2,r3,r4,Nat.zero_add,Nat.reduceMul,Nat.reduceAdd,b1,b2,b3,b4,b5,b6,i1,i2,i3,i4,i5,i6,Nat.reduceBEq,cN,Rat.add_zero,iS,gZ,Nat.zero_add,nt,nm,jK,List.length_cons,List.length_nil,List.nil_append,List.map_nil,List.take_nil,List.append_nil,List.set_cons_zero,List.set_cons_succ,Nat.reduceEqDiff,reduceIte,if_true,if_false,eN,eY,aV bl,aV bF,aV ar,cU,eu,LV.kill,bX];exact rfl):p:=e.mpr k
end anv
open anv in
theorem ap7 (p:List Rat) (hl:p.length<=1048576) (oe:∀ x∈p,rl x<=274877906944):pW an 155 [.list 3 (p.map ah)] (.ref 1 3 0 p.length) [⟨3,p.map ah,true⟩]:=by
 refine fnO Tryz.func155 ?_
 have iS:True:=trivial
 have gZ:True:=trivial
 refine bD ?_
 refine fL rfl rfl (.nh (n:=0) (m:=p.length) ml ml om om om) ?_
 refine bG ?_
 refine dV (fun(k:Nat) L=>(((((St.mk L.slot (hp [(8,⟨3,(p.take k).map ah,true⟩)])).put (some 3) (.ref 8 3 0 k)).put (some 9) (.list 3 (p.map ah))).put (some 10) (ai p.length)).put (some 11) (ai k))) (fun k=>k<=p.length) (fun k=>p.length-k) 0 (b8 _) ?_
 rintro k L1 hk
 refine aC ?_
 refine aH rfl ?_ ?_<;>intro adI h12
 ·have nv:k<p.length:=by omega
  have hrk:=oe _ (dK nv)
  have hA:=jJ (p.getD k 0) 0 (by rw [show rl 0=1 from rfl];omega)
  rw [kP] at hA
  have iS:=ab6 (l:=p) nv
  have gZ:((p.take k).map ah).take k=(p.take k).map ah:=dg zF
  refine iE ?_
  refine ak rfl qY ?_
  refine cp au (hA) ?_
  refine av ?_
  refine bS rfl av4 ?_
  refine aA ?_
  refine cM ((az.kill _ 5).trans (az.kill _ 19)) ?_
  refine ak rfl cV ?_
  refine aQ ?_
  exact jL (k+1) ae
 ·obtain rfl:k=p.length:=by omega
  have hE:p.take p.length=p:=nT
  refine bG ?_
  rw [hE]
  exact agt rfl rfl (a7 ar _)
namespace iy
theorem aO {p q:Prop} (k:q) (e:p=q:=by simp only [e1,e2,e3,e4,p1,p2,p3,q1,q2,q3,l1,t0,t1,r1,r2,r3,r4,Nat.zero_add,Nat.reduceMul,Nat.reduceAdd,b1,b2,b3,b4,b5,b6,i1,i2,i3,i4,i5,i6,Nat.reduceBEq,List.set_cons_zero,List.set_cons_succ,Nat.reduceEqDiff,reduceIte,if_true,if_false,eN,eY,aV bl,aV bF,aV ar,cU,eu,LV.kill,bX];exact rfl):p:=e.mpr k
end iy
open iy in
theorem auc (k:List Rat) (h0:0<k.length) (hl:k.length<=1048576) (hr:∀ x∈k,rl x<=274877906944):ax an 84 [.list 3 (k.map ah)] (.list 3 ((dk k k.length).map ah)):=by
 refine aW Tryz.func84 ?_
 refine bo ?_
 refine aba [] rfl rfl (.cons (.pure (fc ar _ _)) .nil) (ap7 k hl hr) (a7 ar _) rfl ?_
 refine ye 1000065 rfl rfl rfl (a7 ar _) (.cons .ref (.cons (.cF (.pure rfl)) .nil)) (.ref h0) (aFX 156 k h0 hl (fun x hx y hy=>aaa x y (by have:=hr x hx;have:=hr y hy;omega))) rfl (a7 ar _) ?_
 refine aA ?_
 exact o4 [1000065] rfl rfl (aIG ar rfl rfl rfl)
open H0 in
theorem aj9 (k:List Rat) (d:Nat) (h:d+1<=k.length) (hl:k.length<=1048576):ax an 152 [.list 3 (k.map ah),ai d] (ai (k.length-d-1)):=by
 refine aW Tryz.func152 ?_
 refine bM ?_
 refine ak rfl wC ?_
 refine ak rfl wC ?_
 refine aA ?_
 refine dT ?_ (.pure rfl)
 simp only [e1,e2,e3,e4,p1,p2,p3,q1,q2,q3,Nat.reduceBEq]
 congr 2
 omega
namespace ara
theorem aO {p q:Prop} (k:q) (e:p=q:=by simp only [e1,e2,e3,e4,p1,p2,p3,q1,q2,q3,l1,t0,t1,r1,r2,r3,r4,Nat.zero_add,Nat.reduceMul,Nat.reduceAdd,b1,b2,b3,b4,b5,b6,i1,i2,i3,i4,i5,i6,Nat.reduceBEq,cN,uK,List.set_cons_zero,List.set_cons_succ,Nat.reduceEqDiff,reduceIte,if_true,if_false,eN,eY,aV bl,aV bF,aV ar,cU,eu,LV.kill,bX];exact rfl):p:=e.mpr k
end ara
open ara in
theorem aEF (k:List Rat) (d:Nat) (h:kOK k d):ax an 151 [.list 3 (k.map ah),ai d] (iL 0):=by
 have ki:=h.d1
 have hd6:=h.d6
 have hlen:=h.len
 have aK8:=h.max
 have hr:∀ x∈k,rl x<=274877906944:=fun x hx=>ba (h.sz x hx) aj
 have uK:((k.length:Int)-1).toNat=k.length-1:=by omega
 have uv:=h.sz _ (dK (p:=k) (i:=0) ae)
 have fu:=h.sz _ (dK (p:=k) (i:=k.length-1) ae)
 have hS:ax an 239 [.list 3 (k.map ah),.dq 92 []] (bL true):=aDY 92 k ae ae h.srt (fun x hx y hy=>n7 x y (by have:=h.sz x hx;have:=h.sz y hy;omega))
 refine aW Tryz.func151 ?_
 refine bC ?_
 refine ak rfl wC ?_
 refine ak rfl wC ?_
 refine bD ?_
 refine ez 18 rfl ?_ ?_<;>intro uO uY
 ·omega
 ·refine aC ?_
  refine aH rfl ?_ ?_<;>intro qI nG
  ·omega
  ·refine bc ?_
   refine ak rfl (.bin rfl rfl (air ae ae)) ?_
   refine ak rfl yi ?_
   refine aA ?_
   refine aH rfl ?_ ?_<;>intro aeH h22
   ·omega
   ·refine aZ ?_
    refine aH rfl ?_ ?_<;>intro abN h29
    ·omega
    ·refine bc ?_
     refine a9 15 aq ?_
     refine av ?_
     refine cp au (hS) ?_
     refine bo ?_
     refine ak (aP (v:=false) rfl rfl (rfl) rfl) (.bin rfl rfl (aaH ae ae)) ?_
     refine aT ?_
     try simp only [t1,cN,uK]
     refine cp au (aaa (k.getD 0 0) (k.getD (k.length-1) 0) ae) ?_
     refine aQ ?_
     refine ff (b:=_) rfl (decide_eq_false h.ne) ?_
     refine aC ?_
     refine cp aR (auc k ae ae hr) ?_
     refine bc ?_
     refine dV (fun(i:Nat) L=>((((((St.mk L.slot (hp [])).put (some 0) (.list 3 (k.map ah))).put (some 1) (ai d)).put (some 48) (.list 3 ((dk k k.length).map ah))).put (some 49) (ai (dk k k.length).length)).put (some 50) (ai i))) (fun i=>i<=(dk k k.length).length) (fun i=>(dk k k.length).length-i) 0 (b8 _) ?_
     rintro i L1 hi
     refine aC ?_
     refine aH rfl ?_ ?_<;>intro aLC h51
     ·have nz:=aw3 k k.length
      have dR:i<(dk k k.length).length:=by omega
      have hm:=akK k k.length (bq _) _ (dK dR)
      have hrt:=h.sz _ hm
      have he1:=h.aHa _ hm
      have he2:=h.ink _ hm
      refine oF ?_
      refine cp au (aiA k ae (fun x hx=>ba (hr x hx) aj) ((dk k k.length).getD i 0) ae) ?_
      refine aA ?_
      refine a9 16 aq ?_
      refine aA ?_
      refine cp au (aaa ((dk k k.length).getD i 0) (k.getD 0 0) ae) ?_
      refine av ?_
      refine ez 62 rfl ?_ ?_<;>intro apF h62
      ·refine aZ ?_
       try simp only [t1,cN,uK]
       refine bC ?_
       refine ak (aP (v:=true) rfl rfl (rfl) rfl) (.bin rfl rfl (sW ae ae)) ?_
       refine aQ ?_
       refine ez 79 rfl ?_ ?_<;>intro aop h79
       ·have:=he1 (by first | exact .inl h62 | exact .inr h73)
        omega
       ·refine aQ ?_
        refine ze (aP (v:=false) rfl rfl (vM) rfl) ?_
        refine ze (aP (v:=false) rfl rfl (vM) rfl) ?_
        refine ze (aP (v:=false) rfl rfl (vM) rfl) ?_
        refine ak (aP (v:=false) rfl rfl (aop) rfl) (.ox rfl (vM)) ?_
        refine aZ ?_
        refine cM (az.kill _ 7) ?_
        refine ak rfl cV ?_
        refine aQ ?_
        exact l5
      ·refine aA ?_
       refine ak (aP (v:=false) rfl rfl (apF) rfl) (.bin rfl rfl (aaH ae ae)) ?_
       refine aT ?_
       try simp only [t1,cN,uK]
       refine cp au (aaa ((dk k k.length).getD i 0) (k.getD (k.length-1) 0) ae) ?_
       refine bo ?_
       refine ez 73 rfl ?_ ?_<;>intro au8 h73
       ·refine aT ?_
        refine ak (aP (v:=true) rfl rfl (au8) rfl) (.bin rfl rfl (sW ae ae)) ?_
        refine aQ ?_
        refine ez 79 rfl ?_ ?_<;>intro aop h79
        ·have:=he1 (by first | exact .inl h62 | exact .inr h73)
         omega
        ·refine aQ ?_
         refine ze (aP (v:=false) rfl rfl (vM) rfl) ?_
         refine ze (aP (v:=false) rfl rfl (vM) rfl) ?_
         refine ze (aP (v:=false) rfl rfl (vM) rfl) ?_
         refine ak (aP (v:=false) rfl rfl (aop) rfl) (.ox rfl (vM)) ?_
         refine aZ ?_
         refine cM (az.kill _ 7) ?_
         refine ak rfl cV ?_
         refine aQ ?_
         exact l5
       ·refine bD ?_
        refine ak (aP (v:=true) rfl rfl (vM) rfl) (.move _) ?_
        refine ak (aP (v:=true) rfl rfl (vM) rfl) (.move _) ?_
        refine ak (aP (v:=true) rfl rfl (vM) rfl) (.bin rfl rfl rfl) ?_
        refine ak (aP (v:=false) rfl rfl (rfl) rfl) (.ou rfl (vM)) ?_
        refine aQ ?_
        refine aH rfl ?_ ?_<;>intro aK4 h87
        ·have:=he2 h62 h73
         omega
        ·refine aQ ?_
         refine cM (az.kill _ 7) ?_
         refine ak rfl cV ?_
         refine aQ ?_
         exact l5
     ·refine bC ?_
      exact n6
def mK (s:Rat × Rat):Rat × Rat:=if jX s 0=true then(0,eQ (s.1*s.1) (s.2*s.2)) else(fb (s.1*s.1) (s.2*s.2),eQ (s.1*s.1) (s.2*s.2))
def pR (a b:Rat × Rat):Rat × Rat:=ga (ga (ga (a.1*b.1,a.1*b.1) (a.1*b.2,a.1*b.2)) (a.2*b.1,a.2*b.1)) (a.2*b.2,a.2*b.2)
def rcS (b:Rat × Rat):Rat × Rat:=(fb (1/b.1) (1/b.2),eQ (1/b.1) (1/b.2))
def vo (a b:Rat × Rat):Rat × Rat:=pR a (rcS b)
def dC (R:Nat) (s:Rat × Rat):Prop:=rl s.1<=R/\rl s.2<=R
theorem dC.le {R S:Nat} {s:Rat × Rat} (h:dC R s) (k:R<=S):dC S s:=⟨ba h.1 k,ba h.2 k⟩
theorem anR {a b:Rat} {R:Nat} (ha:rl a<=R) (hb:rl b<=R):rl (fb a b)<=R:=by unfold fb;split<;>assumption
theorem ajL {a b:Rat} {R:Nat} (ha:rl a<=R) (hb:rl b<=R):rl (eQ a b)<=R:=by unfold eQ;split<;>assumption
theorem aei {R:Nat} {s t:Rat × Rat} (hs:dC R s) (ht:dC R t):dC R (ga s t):=⟨anR hs.1 ht.1,ajL hs.2 ht.2⟩
theorem afp {R S:Nat} {a b:Rat × Rat} (ha:dC R a) (hb:dC S b):dC (R+S) (pR a b):=by
 obtain⟨a1,a2⟩:=ha
 obtain⟨b1,b2⟩:=hb
 have h:∀ x y:Rat,rl x<=R->rl y<=S->dC (R+S) (x*y,x*y):=fun x y hx hy=>by
  have:=df x y
  exact⟨by show rl (x*y)<=_;omega,by show rl (x*y)<=_;omega⟩
 exact aei (aei (aei (h _ _ a1 b1) (h _ _ a1 b2)) (h _ _ a2 b1)) (h _ _ a2 b2)
theorem av6 {R:Nat} {b:Rat × Rat} (hb:dC R b):dC (R+1) (rcS b):=by
 have h:∀ x:Rat,rl x<=R->rl (1/x)<=R+1:=fun x hx=>by
  have:=tA 1 x
  have:rl 1=1:=rfl
  omega
 exact⟨anR (h _ hb.1) (h _ hb.2),ajL (h _ hb.1) (h _ hb.2)⟩
theorem atd {R S:Nat} {a b:Rat × Rat} (ha:dC R a) (hb:dC S b):dC (R+(S+1)) (vo a b):=afp ha (av6 hb)
theorem aEY {R:Nat} {s:Rat × Rat} (hs:dC R s) (hR:1<=R):dC (2*R) (mK s):=by
 have h1:=df s.1 s.1
 have h2:=df s.2 s.2
 have h3:=hs.1
 have h4:=hs.2
 have h0:rl 0=1:=rfl
 unfold mK
 split
 ·exact⟨by show rl 0<=_;omega,ajL ae ae⟩
 ·exact⟨anR ae ae,ajL ae ae⟩
structure _root_.Go.Lg.oP where
 x:Rat × Rat
 y:Rat × Rat
 z:Rat × Rat
abbrev oc (b:oP):LV:=.agg [aE b.x,aE b.y,aE b.z]
theorem zM:iZ oc 18 true:=by
 refine⟨fun b=>?_,fun b=>rfl,fun b=>?_⟩
 ·simp [oc,LV.aw,da,ck.aw]
 ·simp [oc,LV.pure,aN,ck.pure]
def qh (R:Nat) (b:oP):Prop:=dC R b.x/\dC R b.y/\dC R b.z
open iy in
theorem aob (a b:Rat × Rat) (R:Nat) (hR:R<=1000000000) (ha:dC R a) (hb:dC R b):ax an 188 [aE a,aE b] (aE (pR a b)):=by
 obtain⟨a1,a2⟩:=ha
 obtain⟨y1,y2⟩:=hb
 have m11:=df a.1 b.1
 have m12:=df a.1 b.2
 have m21:=df a.2 b.1
 have m22:=df a.2 b.2
 have hP:∀ x:Rat,rl x<=2*R->dC (2*R) (x,x):=fun x hx=>⟨hx,hx⟩
 have c0:=hP (a.1*b.1) ae
 have c1:=aei c0 (hP (a.1*b.2) ae)
 have c2:=aei c1 (hP (a.2*b.1) ae)
 obtain⟨d1,d2⟩:=c1
 obtain⟨f1,f2⟩:=c2
 refine aW Tryz.func188 ?_
 refine dH ?_
 refine cp au (iR a.1 b.1 ae) ?_
 refine cp aR (tD (a.1*b.1) ae) ?_
 refine arc ?_
 refine bN ?_
 refine aC ?_
 refine cu (b:=_) rfl aj ?_
 refine bC ?_
 refine a9 8 aq ?_
 refine bc ?_
 refine cp au (iR a.1 b.2 ae) ?_
 refine cp aR (tD (a.1*b.2) ae) ?_
 refine cp au (wv ((a.1*b.1),(a.1*b.1)) ((a.1*b.2),(a.1*b.2)) (by show rl (a.1*b.1)+rl (a.1*b.2)<=_;omega) (by show rl (a.1*b.1)+rl (a.1*b.2)<=_;omega)) ?_
 refine aA ?_
 refine cM (az.kill _ 7) ?_
 refine aA ?_
 refine bN ?_
 refine aC ?_
 refine cu (b:=_) rfl aj ?_
 refine bC ?_
 refine a9 8 aq ?_
 refine bc ?_
 refine cp au (iR a.2 b.1 ae) ?_
 refine cp aR (tD (a.2*b.1) ae) ?_
 refine cp au (wv (ga ((a.1*b.1),(a.1*b.1)) ((a.1*b.2),(a.1*b.2))) ((a.2*b.1),(a.2*b.1)) (by show _+rl (a.2*b.1)<=_;omega) (by show _+rl (a.2*b.1)<=_;omega)) ?_
 refine aA ?_
 refine cM (az.kill _ 7) ?_
 refine aA ?_
 refine bN ?_
 refine aC ?_
 refine cu (b:=_) rfl aj ?_
 refine bC ?_
 refine a9 8 aq ?_
 refine bc ?_
 refine cp au (iR a.2 b.2 ae) ?_
 refine cp aR (tD (a.2*b.2) ae) ?_
 refine cp au (wv (ga (ga ((a.1*b.1),(a.1*b.1)) ((a.1*b.2),(a.1*b.2))) ((a.2*b.1),(a.2*b.1))) ((a.2*b.2),(a.2*b.2)) (by show _+rl (a.2*b.2)<=_;omega) (by show _+rl (a.2*b.2)<=_;omega)) ?_
 refine aA ?_
 refine cM (az.kill _ 7) ?_
 refine aA ?_
 refine bN ?_
 refine aC ?_
 refine ff (b:=_) rfl aj ?_
 refine bG ?_
 exact uy
open H0 in
theorem ajw (s:Rat × Rat) (x:Rat) (h1:rl s.1+rl x<=549755813888) (h2:rl x+rl s.2<=549755813888):ax an 103 [aE s,ah x] (bL (jX s x)):=by
 refine aW Tryz.func103 ?_
 refine bG ?_
 refine cp au (n7 _ _ ae) ?_
 refine aT ?_
 refine ez 10 rfl ?_ ?_<;>intro ob qf
 ·refine aQ ?_
  refine cp au (n7 _ _ ae) ?_
  refine aC ?_
  rw [<-aBL ob]
  exact eB
 ·refine bM ?_
  rw [<-aJw ob]
  exact eB
open iy in
theorem aJ9 (s:Rat × Rat) (R:Nat) (hR:R<=1000000000) (ha:dC R s):ax an 183 [aE s] (aE (mK s)):=by
 obtain⟨a1,a2⟩:=ha
 have m1:=df s.1 s.1
 have m2:=df s.2 s.2
 have h0:rl 0=1:=rfl
 refine aW Tryz.func183 ?_
 refine aZ ?_
 refine a9 12 aq ?_
 refine aA ?_
 refine cp au (iR s.1 s.1 ae) ?_
 refine aA ?_
 refine cp au (iR s.2 s.2 ae) ?_
 refine cp au (acg (s.1*s.1) (s.2*s.2) ae) ?_
 refine bo ?_
 refine ak rfl qY ?_
 refine cp au (ajw s 0 ae ae) ?_
 refine aT ?_
 refine aH rfl ?_ ?_<;>intro ac2 h17
 ·have hS:mK s=(0,eQ (s.1*s.1) (s.2*s.2)):=if_pos h17
  refine av ?_
  refine ak rfl qY ?_
  refine bC ?_
  rw [hS]
  exact uy
 ·have hS:mK s=(fb (s.1*s.1) (s.2*s.2),eQ (s.1*s.1) (s.2*s.2)):=if_neg (by rw [h17];decide)
  refine bD ?_
  rw [hS]
  exact uy
open iy in
theorem ado (a b:Rat × Rat) (R:Nat) (hR:R<=100000000) (ha:dC R a) (hb:dC R b) (hz:jX b 0=false):ax an 186 [aE a,aE b] (.bf [aE (vo a b),iL 0]):=by
 have ha2:=ha.le (Nat.le_succ R)
 have hrc:=av6 hb
 obtain⟨y1,y2⟩:=hb
 have h0:rl 0=1:=rfl
 have fu:rl 1=1:=rfl
 have qd1:=tA 1 b.1
 have qd2:=tA 1 b.2
 have uW:ax an 107 [iL 1] (ah 1):=xx 1 aj aj
 have rX:=wY 1 b.1 ae
 have hq2:=wY 1 b.2 ae
 refine aW Tryz.func186 (ht:=(kL (ck.pure _) rfl)) ?_
 refine bG ?_
 refine ak rfl qY ?_
 refine cp au (ajw b 0 ae ae) ?_
 refine aT ?_
 refine aH rfl ?_ ?_<;>intro ahH h13
 ·rw [hz] at ahH
  cases ahH
 ·refine aA ?_
  refine cp aR (uW) ?_
  refine bD ?_
  refine cp au (rX) ?_
  refine dH ?_
  refine cp au (hq2) ?_
  refine bD ?_
  refine a9 5 aq ?_
  refine aQ ?_
  refine cp au (acg (1/b.1) (1/b.2) ae) ?_
  refine cp au (aob a (rcS b) (R+1) ae ha2 hrc) ?_
  refine bc ?_
  exact vW [] rfl rfl rfl (ck.aw _) (aaQ _) oA (.pure (ck.pure _)) rfl (.pure rfl)
def ya (l:List Int) (k:Nat):V3:=⟨(oB l k).1,(oB l (oB l k).2).1,(oB l (oB l (oB l k).2).2).1⟩
def vp (l:List Int) (k:Nat):Nat:=(oB l (oB l (oB l k).2).2).2
theorem aqM {l:List Int} {k:Nat} (hl:l.length<=500) (hk:k<=500):vp l k<=500:=aex hl (aex hl (aex hl hk))
def dwV (l:List Int) (k:Nat):Rat:=((1+(eM l k 3).tmod 3:Int):Rat)
def dpK (l:List Int) (k:Nat):Nat:=bJ l (vp l k)
theorem aki (l:List Int) (k:Nat):1<=1+(eM l k 3).tmod 3/\1+(eM l k 3).tmod 3<=3:=by
 have h:=pQ (l:=l) (k:=k) (n:=3) aj
 rw [Int.tmod_eq_emod_of_nonneg h.1]
 omega
theorem aHT (l:List Int) (k:Nat):0<dwV l k:=by
 have:=aki l k
 exact sK.2 ae
theorem axO {l:List Int} {k:Nat} (hl:l.length<=500) (hk:k<=500):dpK l k<=500:=od hl (aqM hl hk)
def dqK (l:List Int):Nat->Nat->Nat
 | k,0=>k
 | k,c+1=>dqK l (dpK l k) c
theorem arx {l:List Int} (hl:l.length<=500):∀ (k c:Nat),k<=500->dqK l k c<=500
 | k,0,h=>h
 | k,c+1,h=>arx hl _ c (axO hl h)
def nk (l:List Int) (k:Nat):Rat:=((eM l k 4-2:Int):Rat)
theorem axz (l:List Int) (k:Nat):rl (nk l k)<=1/\rl (nk l k+1)<=1:=by
 have h:=pQ (l:=l) (k:=k) (n:=4) aj
 refine⟨ad9 ae,?_⟩
 have e:nk l k+1=((eM l k 4-1:Int):Rat):=by
  unfold nk
  rw [show eM l k 4-1=(eM l k 4-2)+1 by omega,abD];rfl
 rw [e]
 exact ad9 ae
def cD (l:List Int) (k:Nat) (n:Nat):Nat:=(1+eM l k (n:Int)).toNat
theorem ak4 (l:List Int) (k:Nat) {n:Nat} (hn:0<n):1<=cD l k n/\cD l k n<=n/\(cD l k n:Int)=1+eM l k (n:Int):=by
 have h:=pQ (l:=l) (k:=k) (n:=(n:Int)) ae
 unfold cD
 omega
theorem awz {P:Program} {ops:Array Oper} {D:Array Bool} {L:St} {K:St->Prop} {fuel:Nat} (i j k:Nat) (o o2 o3:Oper) (hr:Region.ready .any ops D=[i,j,k]) (ho:ops[i]?=some o) (ho2:ops[j]?=some o2) (ho3:ops[k]?=some o3)
  (h:opsL P false ops [o] L (fun L'=>jx P ops fuel (D.setIfInBounds i true) L' K)) (h2:opsL P false ops [o2] L (fun L'=>jx P ops fuel (D.setIfInBounds j true) L' K)) (h3:opsL P false ops [o3] L (fun L'=>jx P ops fuel (D.setIfInBounds k true) L' K)):jx P ops (fuel+1) D L K:=by
 simp only [opsL] at h h2 h3
 refine⟨fun e=>(by rw [hr] at e;cases e),fun x hx=>?_⟩
 rw [hr] at hx
 simp only [fx,jy,or_false] at hx
 rcases hx with rfl | rfl | rfl
 ·obtain⟨L',h1,h4⟩:=h
  exact⟨o,L',ho,h1,h4⟩
 ·obtain⟨L',h1,h4⟩:=h2
  exact⟨o2,L',ho2,h1,h4⟩
 ·obtain⟨L',h1,h4⟩:=h3
  exact⟨o3,L',ho3,h1,h4⟩
theorem avZ {α:Type} (n:Nat) (t:α):ay n t++[t]=ay (n+1) t:=by
 rw [List.replicate_succ']
section
variable {P:Program} {H:bW} {ρ:Operand->LV} {T:TypeId}
theorem abb {o0 o1:Operand} {p:V3} {r:Rat} [z:ZI P T (.agg [.agg [ah 0,ah 0,ah 0],ah 0])] [s:SI P T [(9,true),(3,true)]] (h0:ρ o0=a5 p) (h1:ρ o1=ah r) :
  aF P H ρ (.build T #[(0,o0),(1,o1)]) (aY ⟨p,r⟩):=by
 have:=aF.bd (H:=H) (ρ:=ρ) (ps:=#[(0,o0),(1,o1)]) (z:=z) (s:=s) (by simp [lay,LV.aw,da,ar.aw,ar.isAgg,ud]) (by
  intro q hq
  simp only [fx,jy,or_false] at hq
  rcases hq with rfl | rfl
  ·exact⟨_,rfl,by rw [h0];simp [lay,bl.aw,LV.aw,da,ar.aw];rfl,by rw [h0];exact LV.fp (bl.pure _),by rw [h0];exact LV.eW (bl.pure _)⟩
  ·exact⟨_,rfl,by rw [h1];simp [lay,ar.aw,ar.isAgg],by rw [h1];exact LV.fp (ar.pure _),by rw [h1];exact LV.eW (ar.pure _)⟩)
 simp only [kh,tF,tW,vx,h0,h1] at this
 exact this
end
theorem aJf {P:Program} {L:St} {a:Nat} {T:TypeId} {b sz:Nat} {x y:LV} {m:Bool} {n:Nat} {ag:Bool} {blk:bg} (bs:List Nat) (h0:bs.contains 0=false) (h:L.slot a=.aD b sz 0 0) (hb:L.heap b=some ⟨sz,[x],m⟩)
  (hx:x.aw=sz) (cm:x.at 0 n ag=some x) (hT:bE P T n ag) (hi:cY (L.cd bs).heap x y) (hc:(L.cd bs).heap 0=some blk) (hm:blk.mt=true) (hp:aN blk.vals=true):zi P [.cell a T] L y blk :=
 ⟨[x],[y],(L.cd bs).heap,.cons ⟨b,sz,0,0,_,x,n,ag,h,hb,rfl,rfl,hx,cm,hT⟩ .nil,tb bs h0,.cons (.cF hi) .nil,hc,hm,hp,rfl⟩
namespace alr
theorem aO {p q:Prop} (k:q) (e:p=q:=by simp only [e1,e2,e3,e4,p1,p2,p3,q1,q2,q3,l1,t0,t1,r1,r2,r3,r4,Nat.zero_add,Nat.reduceMul,Nat.reduceAdd,b1,b2,b3,b4,b5,b6,i1,i2,i3,i4,i5,i6,Nat.reduceBEq,l1,List.set_cons_zero,List.set_cons_succ,Nat.reduceEqDiff,reduceIte,if_true,if_false,eN,eY,aV bF,aV ar,cU,eu,LV.kill,bX,agm];exact rfl):p:=e.mpr k
end alr
open alr in
theorem aGa (l:List Int) (k:Nat) (hl:l.length<=500) (hk:k<=500):nO an 145 ⟨2,[jB l k],true⟩ [.aD 0 2 0 0] (a5 (ya l k)) ⟨2,[jB l (vp l k)],true⟩:=by
 have k1:=aex (l:=l) hl hk
 have k2:=aex (l:=l) hl k1
 refine xY Tryz.func145 ?_
 refine bo ?_
 refine l7 0 rfl rfl rfl (dB l _) (.cons .ptr .nil) .ptr (akV l k ae ae) rfl (dB l _) (ar.pure _) ?_
 refine av ?_
 refine l7 0 rfl rfl rfl (dB l _) (.cons .ptr .nil) .ptr (akV l (oB l k).2 ae ae) rfl (dB l _) (ar.pure _) ?_
 refine av ?_
 refine l7 0 rfl rfl rfl (dB l _) (.cons .ptr .nil) .ptr (akV l (oB l (oB l k).2).2 ae ae) rfl (dB l _) (ar.pure _) ?_
 refine bc ?_
 exact ahj rfl rfl cs (dZ cs rfl) ju (.pure pu) rfl rfl (dB l _)
theorem yA {a b:List Rat} {i:Nat} (h:i<a.length):(a++b).getD i 0=a.getD i 0:=by
 rw [bp,bp,aaM h]
theorem zc {a b:List Rat} {i:Nat} (h:a.length<=i):(a++b).getD i 0=b.getD (i-a.length) 0:=by
 rw [bp,bp,ae8 h]
theorem vz {n i:Nat} {T:Rat} (h:i<n):(ay n T).getD i 0=T:=by
 rw [bp,b7 nH];simp
theorem apa (a b:List Rat) (t:Rat):∀ i,i<=a.length->gM (a++b) t i=gM a t i
 | 0,_=>rfl
 | i+1,h=>by rw [gM,gM,apa a b t i ae,yA ae]
theorem agN (a b:List Rat) (t:Rat):∀ i,gM (a++b) t (a.length+i)=gM a t a.length+gM b t i
 | 0=>by rw [mS,apa _ _ _ _ (bq _)];rfl
 | i+1=>by
  rw [<-p8,gM,agN a b t i,gM,zc ae,aoH];omega
theorem afM (n:Nat) (T t:Rat):∀ i,i<=n->gM (ay n T) t i=if T=t then i else 0
 | 0,_=>by split<;>rfl
 | i+1,h=>by
  rw [gM,afM n T t i ae,vz ae]
  split<;>rfl
theorem aDI {P:Program} {L:St} {a u v:Nat} {T U:TypeId} {b c sz sy:Nat} {x y x' y' z z':LV} {m m':Bool} {n n':Nat} {ag ag':Bool} (bs:List Nat) (h0:bs.contains 0=false) (h:L.slot a=.aD b sz 0 0) (hb:L.heap b=some ⟨sz,[x],m⟩)
  (hx:x.aw=sz) (cm:x.at 0 n ag=some x) (hT:bE P T n ag) (hi:cY (L.cd bs).heap x y) (h':L.slot u=.aD c sy 0 0) (hc:L.heap c=some ⟨sy,[x'],m'⟩)
  (hx':x'.aw=sy) (akS:x'.at 0 n' ag'=some x') (hT':bE P U n' ag') (n5:cY (L.cd bs).heap x' y') (hz:L.slot v=z) (hiz:cY (L.cd bs).heap z z'):qc P [.cell a T,.cell u U,.tmp v] L (.bf [y,y',z']) [] :=
 ⟨[x,x',z],[y,y',z'],(L.cd bs).heap,[],.cons ⟨b,sz,0,0,_,x,n,ag,h,hb,rfl,rfl,hx,cm,hT⟩ (.cons ⟨c,sy,0,0,_,x',n',ag',h',hc,rfl,rfl,hx',akS,hT'⟩ (.cons hz .nil)),tb bs h0,.cons (.cF hi) (.cons (.cF n5) (.cons (.cF hiz) .nil)),zN,rfl,fun k b h=>by simp at h,rfl⟩
theorem ahQ {p:List Rat} {x:Rat} (hl:p.length<=10) (hp:∀ y∈p,rl y<=700000) (hx:rl x<=100000):HS p x:=by
 have h1:=jF 1 x
 have h0:rl 1=1:=rfl
 refine⟨rl (1-x)+rl x+1,bq _,ae,fun y hy=>?_⟩
 have h2:=hp y hy
 have h3:2 ^ p.length<=2 ^ 10:=mh aj hl
 have h4:(rl y+(rl (1-x)+rl x+1))*2 ^ p.length<=1000000*2 ^ 10:=mM ae h3
 omega
open H0 in
theorem ami (s:Rat × Rat) (h:rl s.2+rl s.1<=549755813888):ax an 164 [aE s] (ah (s.2-s.1)):=by
 refine aW Tryz.func164 ?_
 refine bG ?_
 refine cp au (sw s.2 s.1 h) ?_
 refine aA ?_
 exact gy
section
variable {P:Program} {H:bW} {ρ:Operand->LV} {T E:TypeId}
theorem bdW {o1:Operand} {r:Rat} [z:ZI P T (.agg [.agg [ah 0,ah 0,ah 0],ah 0])] [s:SI P T [(9,true),(3,true)]] (h1:ρ o1=ah r) :
  aF P H ρ (.build T #[(1,o1)]) (aY ⟨⟨0,0,0⟩,r⟩):=by
 have:=aF.bd (H:=H) (ρ:=ρ) (ps:=#[(1,o1)]) (z:=z) (s:=s) (by simp [lay,LV.aw,da,ar.aw,ar.isAgg,ud]) (by
  intro q hq
  simp only [fx,jy,or_false] at hq
  subst hq
  exact⟨_,rfl,by rw [h1];simp [lay,ar.aw,ar.isAgg],by rw [h1];exact LV.fp (ar.pure _),by rw [h1];exact LV.eW (ar.pure _)⟩)
 simp only [kh,tF,tW,vx,h1] at this
 exact this
theorem ajK {o0 o1:Operand} {a b:Rat} [u:UN P T (.array 3 E)] [t:TI P E 3 true] [z:ZI P T (.agg [ah 0,ah 0,ah 0])] (h0:ρ o0=ah a) (h1:ρ o1=ah b):aF P H ρ (.build T #[(0,o0),(1,o1)]) (a5 ⟨a,b,0⟩):=by
 have:=aF.zj (H:=H) (ρ:=ρ) (ps:=#[(0,o0),(1,o1)]) (u:=u) (t:=t) (z:=z) (by simp [lay,ar.aw,ar.isAgg]) (by
  intro q hq
  simp only [fx,jy,or_false] at hq
  rcases hq with rfl | rfl
  ·exact ajv
  ·exact⟨_,rfl,by rw [h1];simp [lay,ar.aw,ar.isAgg],by rw [h1];exact LV.fp (ar.pure _),by rw [h1];exact LV.eW (ar.pure _)⟩)
 simp only [kh,tF,tW,vx,h0,h1] at this
 exact this
end
open iy in
theorem aA3 :ax an 73 [iL 0] (a5 ⟨1,0,0⟩):=by
 have h1:ax an 13 [iL 1] (ah 1):=so 1 aj aj
 refine aW aoB (ht:=(fun r=>LV.di r _ (bl.pure _))) ?_
 refine dH ?_
 refine cp aR (h1) ?_
 refine bC ?_
 exact tV
open iy in
theorem aAm :ax an 73 [iL 1] (a5 ⟨0,1,0⟩):=by
 have h1:ax an 13 [iL 1] (ah 1):=so 1 aj aj
 refine aW aoB (ht:=(fun r=>LV.di r _ (bl.pure _))) ?_
 refine dH ?_
 refine cp aR (h1) ?_
 refine bC ?_
 exact tV
theorem aB8 {P:Program} {H:bW} {ρ:Operand->LV} {T E:TypeId} [u:UN P T (.array 3 E)] [t:TI P E 3 true] [z:ZI P T (.agg [ah 0,ah 0,ah 0])]:aF P H ρ (.build T #[]) (a5 ⟨0,0,0⟩) :=
 aF.zj (H:=H) (ρ:=ρ) (ps:=#[]) (u:=u) (t:=t) (z:=z) (by simp [lay,ar.aw,ar.isAgg]) (fun q hq=>by simp at hq)
theorem aEQ {p:List Rat} (h:0<p.length):(eF p).1<=(eF p).2:=by
 have:=(aey p p.length).1 0 h
 exact gR this.1 this.2
theorem sq_pos {s:Rat × Rat} (h:0<s.1) (h2:s.1<=s.2):mK s=(s.1*s.1,s.2*s.2)/\jX (mK s) 0=false:=by
 have hn:jX s 0=false:=by unfold jX;rw [decide_eq_false cj];rfl
 have hm:s.1*s.1<=s.2*s.2:=gR (u5 h2 (ib h)) (pb h2 cj)
 have hp:=aak h h
 have e:mK s=(s.1*s.1,s.2*s.2):=by
  unfold mK
  rw [if_neg (by rw [hn];decide)]
  unfold fb eQ
  rw [if_neg cj]
  split
  ·rfl
  ·have:s.1*s.1=s.2*s.2:=by grind
   rw [this]
 refine⟨e,?_⟩
 rw [e]
 unfold jX
 rw [decide_eq_false (by show ¬(s.1*s.1<=0);grind)];rfl
def spK (po:List aG) (k:Nat):Rat × Rat:=pR (vo (eF (fq po k)) (mK (eF (aL po)))) (1,1)
def spd (po:List aG):oP:=⟨spK po 0,spK po 1,spK po 2⟩
section
variable {po:List aG} {d:Nat} (h:oy po d)
include h
end
def kB (s:Rat × Rat) (n:Int):Rat:=s.1+qM n*(s.2-s.1)
open iy in
theorem asr (s:Rat × Rat) (n:Int) (R:Nat) (hR:R<=1000000) (hs:dC R s) (hn:-9223372036854775808<=n/\n<=9223372036854775807):ax an 18 [aE s,iL n] (ah (kB s n)):=by
 obtain⟨a1,a2⟩:=hs
 have hp:=axD n
 have m1:=jF s.2 s.1
 have m2:=df (qM n) (s.2-s.1)
 refine aW Tryz.func18 ?_
 refine aZ ?_
 refine a9 11 aq ?_
 refine aQ ?_
 refine cp aR (azd n hn) ?_
 refine aA ?_
 refine cp au (aa9 s.2 s.1 ae) ?_
 refine cp au (vf (qM n) (s.2-s.1) ae) ?_
 refine cp au (qO s.1 (qM n*(s.2-s.1)) ae) ?_
 refine aA ?_
 exact gy
def fC (k:List Rat) (at_:Nat) (t:Rat):Nat->Nat->Rat
 | 0,i=>if i=at_ then 1 else 0
 | d+1,i=>if at_<i\/i+(d+1)<at_ then 0 else
   (t-k.getD i 0)/(k.getD (i+(d+1)) 0-k.getD i 0)*fC k at_ t d i+(k.getD (i+(d+1)+1) 0-t)/(k.getD (i+(d+1)+1) 0-k.getD (i+1) 0)*fC k at_ t d (i+1)
theorem ajp {a b c d:Rat} {R:Nat} (ha:rl a<=R) (hb:rl b<=R) (hc:rl c<=R) (hd:rl d<=R):rl (a-b)<=2*R+1/\rl (c-d)<=2*R+1/\rl ((a-b)/(c-d))<=4*R+2:=by
 have h1:=jF a b
 have h2:=jF c d
 have h3:=tA (a-b) (c-d)
 exact⟨ae,ae,ae⟩
theorem afd {k:List Rat} {at_:Nat} {t:Rat} {R:Nat} (hR:3<=R) (hk:∀ x∈k,rl x<=R) (ht:rl t<=R):∀ d i,rl (fC k at_ t d i)<=(10*R)*2 ^ d-(8*R+5)
 | 0,i=>by
  rw [fC];split
  ·show 1<=_;rw [acv];omega
  ·show 1<=_;rw [acv];omega
 | d+1,i=>by
  have g:∀ j,rl (k.getD j 0)<=R:=iX ae hk
  have a1:=afd (at_:=at_) hR hk ht d i
  have a2:=afd (at_:=at_) hR hk ht d (i+1)
  have p1:=(ajp ht (g i) (g (i+(d+1))) (g i)).2.2
  have p2:=(ajp (g (i+(d+1)+1)) ht (g (i+(d+1)+1)) (g (i+1))).2.2
  have h2:2 ^ (d+1)=2*2 ^ d:=by rw [jt];omega
  have h1:1<=2 ^ d:=Nat.one_le_two_pow
  have hm:(10*R)*2 ^ (d+1)=2*((10*R)*2 ^ d):=by rw [h2];rw [Nat.mul_left_comm]
  have fe:10*R<=(10*R)*2 ^ d:=asb _ ae
  rw [fC]
  split
  ·show 1<=_;rw [hm];omega
  ·have m1:=df ((t-k.getD i 0)/(k.getD (i+(d+1)) 0-k.getD i 0)) (fC k at_ t d i)
   have m2:=df ((k.getD (i+(d+1)+1) 0-t)/(k.getD (i+(d+1)+1) 0-k.getD (i+1) 0)) (fC k at_ t d (i+1))
   have s1:=lN ((t-k.getD i 0)/(k.getD (i+(d+1)) 0-k.getD i 0)*fC k at_ t d i) ((k.getD (i+(d+1)+1) 0-t)/(k.getD (i+(d+1)+1) 0-k.getD (i+1) 0)*fC k at_ t d (i+1))
   rw [hm]
   omega
def jq (po:List aG) (x:Rat):V3:=jC (1/aJ (aL po) x) ⟨aJ (a8 po 0) x,aJ (a8 po 1) x,aJ (a8 po 2) x⟩
theorem xo {po:List aG} {k i:Nat} (h:i<po.length):(a8 po k).getD i 0=(po.getD i default).w*(po.getD i default).p.at k:=by
 unfold a8
 rw [bp,g8,b7 h,bp,b7 h];rfl
theorem aav {po:List aG} {i:Nat} (h:i<po.length):(aL po).getD i 0=(po.getD i default).w:=by
 unfold aL
 rw [bp,g8,b7 h,bp,b7 h];rfl
theorem aam {a b c:Nat} (h:a=b+c) (h2:a<=9223372036854775807):dN .sub .i64 (a:Nat) (b:Nat)=some (.int .i64 ((c:Nat):Int)):=by
 rw [aaH ae ae];congr 2;omega
theorem ap3 {f:Nat->Rat} {R:Nat} (hR:1<=R):∀ n,(∀ i,i<n->rl (f i)<=R)->rl (sm n f)<=1+n*(R+1)
 | 0,_=>by show 1<=_;omega
 | n+1,h=>by
  have h1:=ap3 hR n (fun i hi=>h i ae)
  have h2:=h n ae
  have h3:=lN (sm n f) (f n)
  rw [sm,v9];omega
open H0 in
theorem apB (a b:Rat) (h:rl a+rl b<=1000000):ax an 274 [ah a,ah b] (ah (a/b)):=by
 refine aW Tryz.func274 ?_
 refine bC ?_
 refine cp au (axv a b ae) ?_
 refine iE ?_
 exact gy
open anC in
theorem aBj (k:List Rat) (at_:Nat) (t:Rat) (hl:k.length<=1000) (cm:at_<=1000) (hk:∀ x∈k,rl x<=1000) (ht:rl t<=1000) (i:Nat):ax an 232 [.list 3 (k.map ah),ai i,iL 0,ai at_,ah t] (ah (fC k at_ t 0 i)):=by
 have uW:ax an 13 [iL 1] (ah 1):=so 1 aj aj
 refine aW arF ?_
 refine dH ?_
 refine aH rfl ?_ ?_<;>intro qC lG
 ·refine bo ?_
  refine aH rfl ?_ ?_<;>intro ac2 h17
  ·have hV:fC k at_ t 0 i=1:=by rw [fC,if_pos ae]
   refine aT ?_
   refine cp aR (uW) ?_
   refine aC ?_
   rw [hV]
   exact gy
  ·have hV:fC k at_ t 0 i=0:=by rw [fC,if_neg ae]
   refine aA ?_
   refine ak rfl qY ?_
   refine bc ?_
   rw [hV]
   exact gy
 ·first | exact absurd qC aj | cases qC | exact absurd rfl lG
namespace apz
theorem aO {p q:Prop} (k:q) (e:p=q:=by simp only [e1,e2,e3,e4,p1,p2,p3,q1,q2,q3,l1,t0,t1,r1,r2,r3,r4,Nat.zero_add,Nat.reduceMul,Nat.reduceAdd,b1,b2,b3,b4,b5,b6,i1,i2,i3,i4,i5,i6,Nat.reduceBEq,cN,eia,eib,eic,List.set_cons_zero,List.set_cons_succ,Nat.reduceEqDiff,reduceIte,if_true,if_false,eN,eY,aV bl,aV bF,aV ar,cU,eu,LV.kill,bX];exact rfl):p:=e.mpr k
end apz
open apz in
theorem aCF (k:List Rat) (at_:Nat) (t:Rat) (hl:k.length<=1000) (cm:at_<=1000) (hk:∀ x∈k,rl x<=1000) (ht:rl t<=1000) (d:Nat) (hd:d+1<=7) (ih:∀ i,i+d+1<k.length->ax an 232 [.list 3 (k.map ah),ai i,ai d,ai at_,ah t] (ah (fC k at_ t d i))) (i:Nat) (hi:i+(d+1)+1<k.length):ax an 232 [.list 3 (k.map ah),ai i,ai (d+1),ai at_,ah t] (ah (fC k at_ t (d+1) i)):=by
 have g:∀ j,rl (k.getD j 0)<=1000:=iX aj hk
 have pp1:=ajp ht (g i) (g (i+(d+1))) (g i)
 have pp2:=ajp (g (i+(d+1)+1)) ht (g (i+(d+1)+1)) (g (i+1))
 have nq1:=afd (at_:=at_) aj hk ht d i
 have nq2:=afd (at_:=at_) aj hk ht d (i+1)
 have hpw:2 ^ d<=2 ^ 6:=mh aj ae
 have m1:=df ((t-k.getD i 0)/(k.getD (i+(d+1)) 0-k.getD i 0)) (fC k at_ t d i)
 have m2:=df ((k.getD (i+(d+1)+1) 0-t)/(k.getD (i+(d+1)+1) 0-k.getD (i+1) 0)) (fC k at_ t d (i+1))
 have vn:=ih i ae
 have nv:=ih (i+1) ae
 refine aW arF ?_
 have eia:True:=trivial
 have eib:True:=trivial
 have eic:True:=trivial
 refine dH ?_
 refine aH rfl ?_ ?_<;>intro qC lG
 ·omega
 ·refine bD ?_
  refine ez 23 rfl ?_ ?_<;>intro tP sg
  ·have hV:fC k at_ t (d+1) i=0:=by rw [fC,if_pos ae]
   refine bC ?_
   refine ak rfl qY ?_
   refine bc ?_
   rw [hV]
   exact gy
  ·refine aQ ?_
   refine ak (aP (v:=false) rfl rfl (tP) rfl) (.bin rfl rfl (xj ae)) ?_
   refine aA ?_
   refine aH rfl ?_ ?_<;>intro abN h29
   ·have hV:fC k at_ t (d+1) i=0:=by rw [fC,if_pos ae]
    refine aT ?_
    refine ak rfl qY ?_
    refine bc ?_
    rw [hV]
    exact gy
   ·have hV:fC k at_ t (d+1) i=(t-k.getD i 0)/(k.getD (i+(d+1)) 0-k.getD i 0)*fC k at_ t d i+(k.getD (i+(d+1)+1) 0-t)/(k.getD (i+(d+1)+1) 0-k.getD (i+1) 0)*fC k at_ t d (i+1):=by rw [fC,if_neg ae]
    refine aQ ?_
    refine a9 19 aq ?_
    refine bc ?_
    refine cp au (aa9 t (k.getD i 0) (by have:=g i;omega)) ?_
    refine aQ ?_
    refine ak rfl aac ?_
    refine aC ?_
    refine cp au (aa9 (k.getD (i+(d+1)) 0) (k.getD i 0) (by have:=g i;have:=g (i+(d+1));omega)) ?_
    refine cp au (apB (t-k.getD i 0) (k.getD (i+(d+1)) 0-k.getD i 0) ae) ?_
    refine bc ?_
    refine a9 24 aq ?_
    refine aQ ?_
    refine ak rfl aac ?_
    refine ak rfl cV ?_
    refine aQ ?_
    refine cp au (aa9 (k.getD (i+(d+1)+1) 0) t (by have:=g (i+(d+1)+1);omega)) ?_
    refine aQ ?_
    refine ak rfl aac ?_
    refine ak rfl cV ?_
    refine aA ?_
    refine ak rfl cV ?_
    refine aT ?_
    refine cp au (aa9 (k.getD (i+(d+1)+1) 0) (k.getD (i+1) 0) (by have:=g (i+1);have:=g (i+(d+1)+1);omega)) ?_
    refine cp au (apB (k.getD (i+(d+1)+1) 0-t) (k.getD (i+(d+1)+1) 0-k.getD (i+1) 0) ae) ?_
    refine bc ?_
    refine a9 20 aq ?_
    refine aA ?_
    refine ak rfl lK ?_
    refine aT ?_
    refine cp am5 (vn) ?_
    refine cp au (vf _ (fC k at_ t d i) ae) ?_
    refine aQ ?_
    refine ak rfl cV ?_
    refine av ?_
    refine ak rfl lK ?_
    refine aT ?_
    refine cp am5 (nv) ?_
    refine cp au (vf _ (fC k at_ t d (i+1)) ae) ?_
    refine cp au (qO _ _ ae) ?_
    refine aA ?_
    rw [hV]
    exact gy
theorem axy (k:List Rat) (at_:Nat) (t:Rat) (hl:k.length<=1000) (cm:at_<=1000) (hk:∀ x∈k,rl x<=1000) (ht:rl t<=1000):∀ (d:Nat) (hd:d<=7) (i:Nat) (hi:i+d+1<k.length),ax an 232 [.list 3 (k.map ah),ai i,ai d,ai at_,ah t] (ah (fC k at_ t d i))
 | 0,_,i,_=>aBj k at_ t hl cm hk ht i
 | d+1,hd,i,hi=>aCF k at_ t hl cm hk ht d hd (fun i hi=>axy k at_ t hl cm hk ht d ae i hi) i ae
namespace atj
theorem aO {p q:Prop} (k:q) (e:p=q:=by simp only [e1,e2,e3,e4,p1,p2,p3,q1,q2,q3,l1,t0,t1,r1,r2,r3,r4,Nat.zero_add,Nat.reduceMul,Nat.reduceAdd,b1,b2,b3,b4,b5,b6,i1,i2,i3,i4,i5,i6,Nat.reduceBEq,Nat.sub_zero,Nat.add_zero,hln,hls,hcA,hcB,hcC,hcD,Nat.reduceEqDiff,reduceIte,if_true,if_false,aV ar,cU,LV.kill,bX];exact rfl):p:=e.mpr k
end atj
open atj in
theorem aJd (k:List Rat) (i:Nat) (t:Rat) (cp:Nat) (hi:i<k.length) (gh:k.length<=cp) (hl:k.length<=1000):aaR an 240 ⟨3,[ah t],true⟩ ⟨3,(k.map ah),true⟩ [.kC 1 3 0 k.length cp,ai i,.ref 0 3 0 1] (.ref 1 3 0 (k.length+1)) ⟨3,[ah t],true⟩ [⟨3,((k.take i++t :: k.drop i).map ah),true⟩]:=by
 have hlK:(k.map ah).length=k.length:=List.length_map _
 have hln:i+(k.length+1-i)=k.length+1:=by omega
 have hls:k.length+1-(i+1)=k.length-i:=by omega
 have xf:(ay (k.length+1-i) (ah 0))=ah 0 :: ay (k.length-i) (ah 0):=by rw [show k.length+1-i=(k.length-i)+1 by omega,List.replicate_succ]
 have hti:((k.map ah).take i).length=i:=by rw [eP,hlK];omega
 have hcA:((k.map ah).take i++(ay (k.length+1-i) (ah 0))).take i++[ah t]++((k.map ah).take i++(ay (k.length+1-i) (ah 0))).drop (i+[ah t].length)=((k.map ah).take i++ah t :: ay (k.length-i) (ah 0)):=by
  rw [xf,af5 hti,<-rm,acq hti]
  simp
 have nz:((k.map ah).drop i).length=k.length-i:=by rw [List.length_drop,hlK]
 have hcB:((k.map ah).take i++ah t :: ay (k.length-i) (ah 0)).take (i+1)++((k.map ah).drop i)++((k.map ah).take i++ah t :: ay (k.length-i) (ah 0)).drop (i+1+((k.map ah).drop i).length)=((k.take i++t :: k.drop i).map ah):=by
  have e1x:((k.map ah).take i++ah t :: ay (k.length-i) (ah 0))=((k.map ah).take i++[ah t])++ay (k.length-i) (ah 0):=by simp
  have h1:((k.map ah).take i++[ah t]).length=i+1:=by simp [hti]
  rw [e1x,af5 h1,<-rm,acq h1,nz,kg (l:=ay (k.length-i) (ah 0)) aM]
  simp
 have hdE:(k.map ah).drop (i+1+((k.map ah).drop i).length)=[]:=kg (by rw [nz,hlK];omega)
 have hcC:(k.map ah).take (i+1)++((k.map ah).drop i)++(k.map ah).drop (i+1+((k.map ah).drop i).length)=(k.map ah).take (i+1)++((k.map ah).drop i):=by rw [hdE,ng]
 have hcD:((k.map ah).take (i+1)++((k.map ah).drop i)).take i++[ah t]++((k.map ah).take (i+1)++((k.map ah).drop i)).drop (i+[ah t].length)=((k.take i++t :: k.drop i).map ah):=by
  have h1:((k.map ah).take (i+1)).length=i+1:=by rw [eP,hlK];omega
  rw [List.take_append_of_le_length ae,List.take_take,mf ae]
  rw [show i+[ah t].length=i+1 from rfl,acq h1]
  simp
 have sr:aN ((k.take i++t :: k.drop i).map ah)=true:=a7 ar _
 refine fnC Tryz.func240 ?_
 refine bD ?_
 refine ak rfl (.aed (a:=i) (h:=k.length) rfl dI db (fun y hy=>by cases hy;exact⟨_,rfl⟩) (fun h=>by cases h) (fun y hy=>by cases hy) (fun _=>rfl) ae ae ae) ?_
 refine oF ?_
 refine ff (b:=_) rfl (rfl) ?_
 refine jI ?_
 refine ff (b:=_) rfl (beq_eq_false_iff_ne.2 ae) ?_
 refine aZ ?_
 refine ak rfl (.bin rfl rfl (xj (a:=k.length) (b:=1) ae)) ?_
 refine av ?_
 refine ak rfl (.aes rfl rfl UN.h) ?_
 refine aQ ?_
 refine aH rfl ?_ ?_<;>intro amP h31
 ·refine aA ?_
  refine ak rfl (.aed (a:=0) (h:=i) rfl dI db (fun y hy=>by cases hy) (fun _=>rfl) (fun y hy=>by cases hy;exact⟨_,rfl⟩) (fun h=>by cases h) ae ae ae) ?_
  refine aT ?_
  refine ak rfl (.bin rfl rfl (xj (a:=k.length) (b:=1) ae)) ?_
  refine av ?_
  refine ak rfl (.bin rfl rfl (aam (a:=k.length+1) (b:=i) (c:=k.length+1-i) ae ae)) ?_
  refine auz rfl rfl (.agl (d:=40) (n:=k.length+1-i) (len:=i) (cp:=cp) (b:=1) (sz:=3) (z:=ah 0) (blk:=⟨3,(k.map ah),true⟩) dI Tryz.underlying3 (q8 ▸ mq) (by rw [ar.isAgg];exact db) (ar.aw 0) mY rfl rfl rfl (by rw [hlK];omega) rfl rfl ae aj ae ae) ?_
  refine aZ ?_
  try refine aO ?_
  refine ak rfl akj ?_
  refine av ?_
  try refine aO ?_
  refine bS rfl (.adm (b:=40) (sz:=3) (off:=i) (n1:=k.length+1-i) (c:=0) (off2:=0) (n2:=1) (news:=[ah t]) rfl rfl rfl rfl (by rw [lT,hti];omega) dI dI db rfl rfl rfl (by show 1=min _ _;rw [mf ae]) (ava) (bq 1) rfl) ?_
  refine aQ ?_
  refine aC0 8 aq (az.aoF (t:=0) rfl) ?_
  try refine aO ?_
  refine aQ ?_
  refine ak rfl (.bin rfl rfl (xj (a:=i) (b:=1) ae)) ?_
  refine ak rfl alP ?_
  refine aT ?_
  refine ak rfl (.wS (a:=i) (h:=k.length) rfl dI db (fun y hy=>by cases hy;exact⟨_,rfl⟩) (fun h=>by cases h) (fun y hy=>by cases hy) (fun _=>rfl) om om om) ?_
  try refine aO ?_
  refine bS rfl (.adm (b:=40) (sz:=3) (off:=i+1) (n1:=k.length-i) (c:=1) (off2:=i) (n2:=k.length-i) (news:=((k.map ah).drop i)) rfl rfl rfl rfl (by rw [lT,hti,List.length_cons,List.length_replicate];omega) dI dI db rfl rfl rfl (by show _=min _ _;rw [nz,Nat.min_self]) (by rw [nz];omega) (by rw [nz,hlK];omega) (nT).symm) ?_
  refine bM ?_
  refine⟨_,az.kill _ 1,?_⟩
  try refine aO ?_
  exact apy rfl rfl rfl (by simp [aN,ar.pure]) aj aM rfl sr
 ·refine aZ ?_
  refine ak rfl (.bin rfl rfl (xj (a:=k.length) (b:=1) ae)) ?_
  refine ak rfl (.aed (a:=0) (h:=k.length+1) rfl dI db (fun y hy=>by cases hy) (fun _=>rfl) (fun y hy=>by cases hy;exact⟨_,rfl⟩) (fun h=>by cases h) ae ae ae) ?_
  refine bc ?_
  refine cM (az.aoF (t:=0) rfl) ?_
  try refine aO ?_
  refine aA ?_
  refine ak rfl (.bin rfl rfl (xj (a:=i) (b:=1) ae)) ?_
  refine ak rfl alP ?_
  try refine aO ?_
  refine auz rfl rfl (.ovl (ag:=true) Tryz.func278 rfl rfl rfl rfl dI db rfl rfl aj aj ae aj) ?_
  refine aQ ?_
  refine cu (b:=_) rfl (rfl) ?_
  refine av ?_
  refine a9 8 aq ?_
  refine aQ ?_
  refine ak rfl (.bin rfl rfl (xj (a:=i) (b:=1) ae)) ?_
  refine ak rfl alP ?_
  refine aT ?_
  refine ak rfl akj ?_
  try refine aO ?_
  refine bS rfl (.adm (b:=1) (sz:=3) (off:=i+1) (n1:=k.length-i) (c:=1) (off2:=i) (n2:=k.length+1-i) (news:=((k.map ah).drop i)) rfl rfl rfl rfl (by rw [hlK];omega) dI dI db rfl rfl rfl (by show _=min _ _;rw [nz,Nat.min_eq_right ae]) (by rw [nz];omega) (by rw [nz,hlK];omega) (nT).symm) ?_
  refine aC ?_
  refine ak rfl akj ?_
  refine av ?_
  try refine aO ?_
  refine bS rfl (.adm (b:=1) (sz:=3) (off:=i) (n1:=k.length+1-i) (c:=0) (off2:=0) (n2:=1) (news:=[ah t]) rfl rfl rfl rfl (by rw [lT,eP,hlK,nz];omega) dI dI db rfl rfl rfl (by show 1=min _ _;rw [mf ae]) (ava) (bq 1) rfl) ?_
  refine bM ?_
  refine⟨_,az.refl _,?_⟩
  try refine aO ?_
  exact apy rfl rfl rfl (by simp [aN,ar.pure]) aj aM rfl sr
theorem aGG (k:List Rat) (i:Nat) (t:Rat) (hi:i<k.length) (hl:k.length<=1000) :
  aaR an 240 ⟨3,[ah t],true⟩ ⟨3,(k.map ah),true⟩ [.ref 1 3 0 k.length,ai i,.ref 0 3 0 1] (.ref 1 3 0 (k.length+1)) ⟨3,[ah t],true⟩ [⟨3,((k.take i++t :: k.drop i).map ah),true⟩] :=
 azG ae fun cp h=>aJd k i t cp hi h hl
theorem fy0 (bs:List Nat):yP bs []=[]:=rfl
theorem fyc (bs:List Nat) (c:Nat) (y:bg) (l:List (Nat × bg)):yP bs ((c,y) :: l)=(c,⟨y.sz,y.vals,y.mt && !bs.contains c⟩) :: yP bs l:=rfl
theorem aI9 {l:List (Nat × bg)} {c:Nat} (h:∀ x∈l.map (·.1),x≠c):hp l c=none:=by
 induction l with
 | nil=>rfl
 | cons q t ih =>
  obtain⟨d,y⟩:=q
  have e:Nat.beq c d=false:=by
   rw [<-Bool.not_eq_true,Nat.beq_eq]
   exact fun e=>h d aM e.symm
  simp only [hp,e,cond_false]
  exact ih fun x hx=>h x (by simp only [List.map_cons,fx];exact .inr hx)
theorem aC8 (x:Rat):∃ n:Nat,x<((n:Int):Rat):=by
 refine⟨(x.floor+1).toNat,?_⟩
 have h:=Rat.lt_floor_add_one x
 have h2:x.floor+1<=(((x.floor+1).toNat:Nat):Int):=by omega
 have h3:((x.floor+1:Int):Rat)<=((((x.floor+1).toNat:Nat):Int):Rat):=adC.2 h2
 have h4:((x.floor+1:Int):Rat)=(x.floor:Rat)+1:=by rw [abD];rfl
 grind
theorem mvi {g:Rat->Rat} {a b m C:Rat} (cL:a<=b) (h:∀ s d,a<=s->0<=d->s+d<=b->g s+(m*d-C*(d*d))<=g (s+d)):g a+m*(b-a)<=g b:=by
 have steps:∀ n:Nat,0<n->g a+m*(b-a)-C*((b-a)*(b-a))/((n:Int):Rat)<=g b:=by
  intro n hn
  have hn':(0:Rat)<((n:Int):Rat):=sK.2 ae
  obtain⟨N,hN⟩:∃ N:Rat,N=((n:Int):Rat):=⟨_,rfl⟩
  rw [<-hN] at hn' ⊢
  obtain⟨d,hd⟩:∃ d:Rat,d=(b-a)/N:=⟨_,rfl⟩
  have hdN:N*d=b-a:=by rw [hd];grind
  have jM:0<=d:=by
   rw [hd,iV]
   exact iN cj (ib (aiK.2 hn'))
  have key:∀ k:Nat,k<=n->g a+((k:Int):Rat)*(m*d-C*(d*d))<=g (a+((k:Int):Rat)*d):=by
   intro k
   induction k with
   | zero =>
    intro _
    have e1:g a+(((0:Nat):Int):Rat)*(m*d-C*(d*d))=g a:=by simp [kP,vQ]
    have e2:a+(((0:Nat):Int):Rat)*d=a:=by simp [kP,vQ]
    rw [e1,e2];exact gf
   | succ k ih =>
    intro hk
    have h1:=ih ae
    have hkc:(((k+1:Nat):Int):Rat)=((k:Int):Rat)+1:=by push_cast;rfl
    have lS:(0:Rat)<=((k:Int):Rat):=z8.2 ae
    have hkn:(((k+1:Nat):Int):Rat)<=N:=by rw [hN];exact adC.2 ae
    have h2:=h (a+((k:Int):Rat)*d) d (by have:=iN lS jM;grind) jM (by
     have:=pb hkn jM
     rw [hkc] at this;grind)
    rw [hkc]
    have e:a+((k:Int):Rat)*d+d=a+(((k:Int):Rat)+1)*d:=by grind
    rw [e] at h2
    grind
  have:=key n (bq _)
  rw [<-hN] at this
  have e1:a+N*d=b:=by grind
  rw [e1] at this
  have e2:C*((b-a)*(b-a))/N=N*(C*(d*d)):=by
   rw [<-hdN]
   grind
  rw [e2]
  have e3:N*(m*d-C*(d*d))=m*(b-a)-N*(C*(d*d)):=by rw [<-hdN];grind
  grind
 refine pY fun hc=>?_
 obtain⟨X,hX⟩:∃ X:Rat,X=g a+m*(b-a)-g b:=⟨_,rfl⟩
 have hX0:0<X:=by grind
 obtain⟨n,hn⟩:=aC8 (C*((b-a)*(b-a))/X)
 have nQ:=steps (n+1) ae
 obtain⟨K,hK⟩:∃ K:Rat,K=C*((b-a)*(b-a)):=⟨_,rfl⟩
 rw [<-hK] at hn nQ
 obtain⟨N,hN⟩:∃ N:Rat,N=((((n+1:Nat)):Int):Rat):=⟨_,rfl⟩
 have hN0:0<N:=by rw [hN];exact sK.2 ae
 have hnN:((n:Int):Rat)<=N:=by rw [hN];exact adC.2 ae
 rw [<-hN] at nQ
 have h1:K<N*X:=by
  have h2:K/X<N:=by grind
  have h3:=Rat.mul_lt_mul_of_pos_right h2 hX0
  have h4:K/X*X=K:=by grind
  grind
 have h2:K/N<X:=by
  have h3:K/N*N=K:=by grind
  refine pY fun hc=>?_
  have h4:X<=K/N:=by grind
  have h5:=pb h4 (ib hN0)
  grind
 grind
def dv (x y:Rat):Prop:=-y<=x/\x<=y
theorem abk {x y a b:Rat} (h:dv x a) (k:dv y b):dv (x+y) (a+b):=by unfold dv at *;grind
theorem pT {x y a b:Rat} (h:dv x a) (k:dv y b):dv (x*y) (a*b):=by
 have ha:0<=a:=by unfold dv at h;grind
 have hb:0<=b:=by unfold dv at k;grind
 obtain⟨h1,h2⟩:=h
 obtain⟨k1,k2⟩:=k
 constructor
 ·rcases adq (a:=0) (b:=y) with hy | hy
  ·have:=pb h1 hy
   have:=u5 k2 ha
   grind
  ·have:=pb h2 (by grind:0<=-y)
   have:=u5 k1 ha
   grind
 ·rcases adq (a:=0) (b:=y) with hy | hy
  ·have:=pb h2 hy
   have:=u5 k2 ha
   grind
  ·have:=pb h1 (by grind:0<=-y)
   have:=u5 k1 ha
   grind
theorem wO {x a b:Rat} (h:dv x a) (cL:a<=b):dv x b:=by unfold dv at *;grind
theorem atK {x a:Rat} (h:dv x a):0<=a:=by unfold dv at h;grind
theorem alA {x a:Rat} (h:dv x a):dv (-x) a:=by unfold dv at *;grind
theorem aj8 {M t:Rat} (h0:0<=t) (h1:t<=1):∀ (n:Nat) (f:Nat->Rat),(∀ i,i<=n->dv (f i) M)->dv (fE (1-t) t n f) M
 | 0,f,h=>h 0 (bq _)
 | n+1,f,h=>aj8 h0 h1 n _ fun i hi=>by
  have a1:=h i ae
  have a2:=h (i+1) ae
  have b1:dv ((1-t)*f i) ((1-t)*M):=pT (by unfold dv;grind) a1
  have b2:dv (t*f (i+1)) (t*M):=pT (by unfold dv;grind) a2
  exact wO (abk b1 b2) cj
def dF (f:Nat->Rat) (i:Nat):Rat:=f (i+1)-f i
def fD (t:Rat) (n:Nat) (f:Nat->Rat):Rat:=((n:Int):Rat)*fE (1-t) t (n-1) (dF f)
theorem azA (t:Rat) (n:Nat) (f:Nat->Rat):fD t (n+1) f=fD t n (fun i=>(1-t)*f i+t*f (i+1))+fE (1-t) t n (dF f):=by
 unfold fD
 rw [mi]
 have hc:(((n+1:Nat):Int):Rat)=((n:Int):Rat)+1:=by push_cast;rfl
 cases n with
 | zero=>simp;grind
 | succ m =>
  rw [mi]
  have e:fE (1-t) t m (dF fun i=>(1-t)*f i+t*f (i+1))=fE (1-t) t (m+1) (dF f):=by
   rw [fE]
   refine pn _ _ _ _ _ fun i _=>?_
   unfold dF;grind
  rw [e,hc];grind
theorem aAg {M t:Rat} (h0:0<=t) (h1:t<=1) (n:Nat) (f:Nat->Rat) (h:∀ i,i<=n->dv (f i) M) (hM:0<=M):dv (fD t n f) (((n:Int):Rat)*(2*M)):=by
 unfold fD
 have hn:(0:Rat)<=((n:Int):Rat):=z8.2 ae
 cases n with
 | zero=>simp;unfold dv;grind
 | succ m =>
  refine pT (by unfold dv;grind) (aj8 h0 h1 _ _ fun i hi=>?_)
  have a1:=h i ae
  have a2:=h (i+1) ae
  unfold dF
  unfold dv at *;grind
theorem asS:∀ n:Nat,∃ C:Rat,0<=C/\∀ (f:Nat->Rat) (M t d:Rat),0<=M->(∀ i,i<=n->dv (f i) M)->0<=t->0<=d->t+d<=1 ->
  dv (fE (1-(t+d)) (t+d) n f-fE (1-t) t n f-d*fD t n f) (C*M*(d*d))
 | 0=>⟨0,gf,fun f M t d _ _ _ _ _=>by
   show dv (f 0-f 0-d*(((0:Nat):Int)*_)) _
   unfold dv;simp;grind⟩
 | n+1=>by
  obtain⟨C,hC,ih⟩:=asS n
  obtain⟨N,hN⟩:∃ N:Rat,N=((n:Int):Rat):=⟨_,rfl⟩
  have hN0:0<=N:=by rw [hN];exact z8.2 ae
  refine⟨C+(N*4+C*2),by grind,fun f M t d hM hf ht hd htd=>?_⟩
  have ht1:t<=1:=by grind
  have ki:d<=1:=by grind
  have s1:∀ i,i<=n->dv ((1-t)*f i+t*f (i+1)) M:=fun i hi=>by
   have b1:dv ((1-t)*f i) ((1-t)*M):=pT (by unfold dv;grind) (hf i ae)
   have b2:dv (t*f (i+1)) (t*M):=pT (by unfold dv;grind) (hf (i+1) ae)
   exact wO (abk b1 b2) cj
  have s2:∀ i,i<=n->dv (dF f i) (2*M):=fun i hi=>by
   have a1:=hf i ae
   have a2:=hf (i+1) ae
   unfold dF;unfold dv at *;grind
  have r1:=ih _ M t d hM s1 ht hd htd
  have r2:=ih _ (2*M) t d cj s2 ht hd htd
  have r3:=aAg ht ht1 n (dF f) s2 cj
  rw [<-hN] at r3
  have e:fE (1-(t+d)) (t+d) (n+1) f=fE (1-(t+d)) (t+d) n (fun i=>(1-t)*f i+t*f (i+1))+d*fE (1-(t+d)) (t+d) n (dF f):=by
   rw [fE]
   have:=xV (1-(t+d)) (t+d) 1 d n (fun i=>(1-t)*f i+t*f (i+1)) (dF f)
   rw [ph] at this
   rw [<-this]
   refine pn _ _ _ _ _ fun i _=>?_
   unfold dF;grind
  have e0:fE (1-t) t (n+1) f=fE (1-t) t n (fun i=>(1-t)*f i+t*f (i+1)):=rfl
  rw [e,azA,e0]
  obtain⟨A,hA⟩:∃ A,A=fE (1-(t+d)) (t+d) n (fun i=>(1-t)*f i+t*f (i+1)):=⟨_,rfl⟩
  obtain⟨A0,hA0⟩:∃ A,A=fE (1-t) t n (fun i=>(1-t)*f i+t*f (i+1)):=⟨_,rfl⟩
  obtain⟨B,hB⟩:∃ A,A=fE (1-(t+d)) (t+d) n (dF f):=⟨_,rfl⟩
  obtain⟨B0,hB0⟩:∃ A,A=fE (1-t) t n (dF f):=⟨_,rfl⟩
  obtain⟨D1,hD1⟩:∃ A,A=fD t n (fun i=>(1-t)*f i+t*f (i+1)):=⟨_,rfl⟩
  obtain⟨D2,hD2⟩:∃ A,A=fD t n (dF f):=⟨_,rfl⟩
  rw [<-hA,<-hA0,<-hD1] at r1
  rw [<-hB,<-hB0,<-hD2] at r2
  rw [<-hD2] at r3
  rw [<-hA,<-hA0,<-hB,<-hB0,<-hD1]
  have rp:0<=d*d:=iN hd hd
  have q1:dv (d*(B-B0-d*D2)) (1*(C*(2*M)*(d*d))):=pT (by unfold dv;grind) r2
  have q2:dv (d*d*D2) (d*d*(N*(2*(2*M)))):=pT (by unfold dv;grind) r3
  have q3:=abk (abk r1 q1) q2
  refine wO (x:=A+d*B-A0-d*(D1+B0)) ?_ (gf)
  have e2:A+d*B-A0-d*(D1+B0)=A-A0-d*D1+d*(B-B0-d*D2)+d*d*D2:=by grind
  have e3:(C+(N*4+C*2))*M*(d*d)=C*M*(d*d)+1*(C*(2*M)*(d*d))+d*d*(N*(2*(2*M))):=by grind
  rw [e2,e3];exact q3
theorem adR:∀ p:List Rat,∃ M:Rat,0<=M/\∀ i,dv (p.getD i 0) M
 | []=>⟨0,gf,fun i=>by simp [dv]⟩
 | x :: l=>by
  obtain⟨M,h0,h⟩:=adR l
  refine⟨M+(if 0<=x then x else -x),by split<;>grind,fun i=>?_⟩
  cases i with
  | zero=>rw [au4];unfold dv;split<;>grind
  | succ i =>
   rw [ati]
   refine wO (h i) ?_
   split<;>grind
theorem aCM {p:List Rat} (h:0<p.length) (t:Rat):aJ (cX p) t=fD t (p.length-1) (fun i=>p.getD i 0):=by
 have hl:=wX (p:=p)
 unfold fD
 rcases gC p.length 2 with h2 | h2
 ·have h1:p.length-1=0:=by omega
  rw [h1]
  unfold cX
  rw [if_pos h2,mZ aM]
  simp [fE]
 ·rw [if_neg ae] at hl
  rw [mZ ae,hl]
  obtain⟨N,hN⟩:∃ N:Rat,N=(((p.length-1:Nat):Int):Rat):=⟨_,rfl⟩
  have e:=xV (1-t) t N 0 (p.length-1-1) (dF fun i=>p.getD i 0) (dF fun i=>p.getD i 0)
  rw [<-hN]
  have e2:N*fE (1-t) t (p.length-1-1) (dF fun i=>p.getD i 0)=N*fE (1-t) t (p.length-1-1) (dF fun i=>p.getD i 0)+0*fE (1-t) t (p.length-1-1) (dF fun i=>p.getD i 0):=by grind
  rw [e2,<-e]
  refine pn _ _ _ _ _ fun i hi=>?_
  rw [aee ae,<-hN]
  unfold dF;grind
theorem ai9 {p:List Rat} {M t:Rat} (h:0<p.length) (hM:∀ i,dv (p.getD i 0) M) (h0:0<=t) (h1:t<=1):dv (aJ p t) M:=by
 rw [mZ h];exact aj8 h0 h1 _ _ fun i _=>hM i
theorem aqJ {p:List Rat} (h:0<p.length):∃ C:Rat,0<=C/\∀ t d,0<=t->0<=d->t+d<=1->dv (aJ p (t+d)-aJ p t-d*aJ (cX p) t) (C*(d*d)):=by
 obtain⟨M,hM0,hM⟩:=adR p
 obtain⟨C,hC,k⟩:=asS (p.length-1)
 refine⟨C*M,iN hC hM0,fun t d ht hd htd=>?_⟩
 rw [mZ h,mZ h,aCM h]
 exact k _ M t d hM0 (fun i _=>hM i) ht hd htd
theorem amV {a b c:Rat} (h:a<b) (k:b<=c):a<c:=by grind
theorem adA {x y:Rat} (hx:0<x) (h:x<=y):0<1/y/\1/y<=1/x:=by
 have hy:0<y:=by grind
 have e1:1/x*x=1:=by grind
 have e2:1/y*y=1:=by grind
 have r0:0<1/x:=by rw [iV,ph];exact aiK.2 hx
 have s0:0<1/y:=by rw [iV,ph];exact aiK.2 hy
 revert e1 e2 r0 s0
 generalize 1/x=r
 generalize 1/y=s
 intro e1 e2 r0 s0
 refine⟨s0,?_⟩
 have h1:=u5 h (ib (aak s0 r0))
 have e3:s*r*x=s:=by rw [wk,e1,pI]
 have e4:s*r*y=r:=by rw [oW s r,wk,e2,pI]
 rwa [e3,e4] at h1
theorem ann {W r:Rat} (hr:r*W=1) (x:Rat):x/W=x*r:=by
 have h0:W≠0:=by rintro rfl;rw [xi] at hr;exact absurd hr aj
 have h1:=aoc W h0
 have:W⁻¹=r:=by
  have e:r*(W*W⁻¹)=r:=by rw [h1,pI]
  rw [<-wk,hr,ph] at e
  exact e
 rw [iV,this]
theorem aIq {N N' x1 W W' x2 r r1 d N1 W1:Rat} (h1:N1=N+d*N'+x1) (h2:W1=W+d*W'+x2) (hr:r*W=1) (fu:r1*W1=1) :
  N1*r1-N*r-d*((N'*W-N*W')*(r*r))=(x1*W+-(N*x2))*(r*r1)+-((N'*W+-(N*W'))*(r*r*r1)*(d*(d*W'+x2))):=by
 have a1:N1*r1=N1*r1*(r*W):=by rw [hr,pI]
 have a2:N*r=N*r*(r1*W1):=by rw [fu,pI]
 have a3:r*r=r*r*(r1*W1):=by rw [fu,pI]
 have a4:r*r1=r*r1*(r*W):=by rw [hr,pI]
 have b1:N1*r1-N*r=(d*(N'*W-N*W')+(x1*W-N*x2))*(r*r1):=by
  rw [a1,a2,h1,h2];clear a1 a2 a3 a4 hr fu h1 h2;grind
 have b2:r*r=r*r1+r*r*r1*(d*W'+x2):=by
  have t1:r*r*(r1*(W+d*W'+x2))=r*r1*(r*W)+r*r*r1*(d*W'+x2):=by clear a1 a2 a3 a4 hr fu h1 h2 b1;grind
  rw [hr,pI,<-h2,fu,pI] at t1
  exact t1
 rw [b1]
 have b3:d*((N'*W-N*W')*(r*r))=d*((N'*W-N*W')*(r*r1))+d*((N'*W-N*W')*(r*r*r1*(d*W'+x2))):=by
  have:d*((N'*W-N*W')*(r*r))=d*((N'*W-N*W')*(r*r1+r*r*r1*(d*W'+x2))):=by rw [<-b2]
  rw [this];clear a1 a2 a3 a4 hr fu h1 h2 b1 b2 this;grind
 rw [b3]
 clear a1 a2 a3 a4 hr fu h1 h2 b1 b2 b3
 grind
theorem aBz {N N' x1 W W' x2 r r1 d B C c:Rat} (m1:dv N B) (m2:dv W B) (m3:dv N' B) (m4:dv W' B) (hd:0<=d) (ki:d<=1) (e1:dv x1 (C*(d*d))) (e2:dv x2 (C*(d*d))) (hC0:0<=C) (br:dv r c) (br1:dv r1 c) :
  dv ((x1*W+-(N*x2))*(r*r1)+-((N'*W+-(N*W'))*(r*r*r1)*(d*(d*W'+x2)))) (((C*B+B*C)*(c*c)+(B*B+B*B)*(c*c*c)*(B+C))*(d*d)):=by
 have hB0:=atK m1
 have wH:=atK br
 have rp:0<=d*d:=iN hd hd
 have bd:dv d d:=by unfold dv;grind
 have p1:dv ((x1*W+-(N*x2))*(r*r1)) ((C*(d*d)*B+B*(C*(d*d)))*(c*c)):=pT (abk (pT e1 m2) (alA (pT m1 e2))) (pT br br1)
 have p2:dv ((N'*W+-(N*W'))*(r*r*r1)*(d*(d*W'+x2))) ((B*B+B*B)*(c*c*c)*(d*(d*B+C*(d*d)))) :=
  pT (pT (abk (pT m3 m2) (alA (pT m1 m4))) (pT (pT br br) br1)) (pT bd (abk (pT bd m4) e2))
 have rH:0<=(B*B+B*B)*(c*c*c):=iN (aod (iN hB0 hB0) (iN hB0 hB0)) (iN (iN wH wH) wH)
 have p3:(B*B+B*B)*(c*c*c)*(d*(d*B+C*(d*d)))<=(B*B+B*B)*(c*c*c)*((d*d)*(B+C)):=by
  refine u5 ?_ rH
  have:C*(d*d)*d<=C*(d*d)*1:=u5 ki (iN hC0 rp)
  clear p1 p2 rH bd m1 m2 m3 m4 e1 e2 br br1
  grind
 have p4:=abk p1 (alA (wO p2 p3))
 have e:(C*(d*d)*B+B*(C*(d*d)))*(c*c)+(B*B+B*B)*(c*c*c)*((d*d)*(B+C))=((C*B+B*C)*(c*c)+(B*B+B*B)*(c*c*c)*(B+C))*(d*d):=by
  clear p1 p2 p3 p4 rH bd m1 m2 m3 m4 e1 e2 br br1 rp;grind
 rwa [e] at p4
theorem aq0 {n w:List Rat} {w0:Rat} (hn:0<n.length) (hw:0<w.length) (yM:0<w0) (hW:∀ t,0<=t->t<=1->w0<=aJ w t) :
  ∃ K:Rat,∀ t d,0<=t->0<=d->t+d<=1 ->
   dv (aJ n (t+d)/aJ w (t+d)-aJ n t/aJ w t-d*((aJ (cX n) t*aJ w t-aJ n t*aJ (cX w) t)/(aJ w t*aJ w t))) (K*(d*d)):=by
 have kS:0<(cX n).length:=by rw [wX];split<;>omega
 have hdw:0<(cX w).length:=by rw [wX];split<;>omega
 obtain⟨B1,hB1,b1⟩:=adR n
 obtain⟨B2,hB2,b2⟩:=adR w
 obtain⟨B3,hB3,b3⟩:=adR (cX n)
 obtain⟨B4,hB4,b4⟩:=adR (cX w)
 obtain⟨C1,yn,k1⟩:=aqJ hn
 obtain⟨C2,zy,k2⟩:=aqJ hw
 have g1:B1<=B1+B2+B3+B4:=by clear b1 b2 b3 b4 k1 k2 hW;grind
 have g2:B2<=B1+B2+B3+B4:=by clear b1 b2 b3 b4 k1 k2 hW;grind
 have g3:B3<=B1+B2+B3+B4:=by clear b1 b2 b3 b4 k1 k2 hW;grind
 have g4:B4<=B1+B2+B3+B4:=by clear b1 b2 b3 b4 k1 k2 hW;grind
 have g5:C1<=C1+C2:=by clear b1 b2 b3 b4 k1 k2 hW;grind
 have g6:C2<=C1+C2:=by clear b1 b2 b3 b4 k1 k2 hW;grind
 refine⟨((C1+C2)*(B1+B2+B3+B4)+(B1+B2+B3+B4)*(C1+C2))*(1/w0*(1/w0))+((B1+B2+B3+B4)*(B1+B2+B3+B4)+(B1+B2+B3+B4)*(B1+B2+B3+B4))*(1/w0*(1/w0)*(1/w0))*((B1+B2+B3+B4)+(C1+C2)),fun t d ht hd htd=>?_⟩
 have ht1:t<=1:=by clear b1 b2 b3 b4 k1 k2 hW;grind
 have ki:d<=1:=by clear b1 b2 b3 b4 k1 k2 hW;grind
 have aJ2:0<=t+d:=by clear b1 b2 b3 b4 k1 k2 hW;grind
 have rp:0<=d*d:=iN hd hd
 have m1:=wO (ai9 hn b1 ht ht1) g1
 have m2:=wO (ai9 hw b2 ht ht1) g2
 have m3:=wO (ai9 kS b3 ht ht1) g3
 have m4:=wO (ai9 hdw b4 ht ht1) g4
 have e1:=wO (k1 t d ht hd htd) (pb g5 rp)
 have e2:=wO (k2 t d ht hd htd) (pb g6 rp)
 have w1:=hW t ht ht1
 have w2:=hW (t+d) aJ2 htd
 have i1:=adA yM w1
 have i2:=adA yM w2
 have p1:0<aJ w t:=amV yM w1
 have p2:0<aJ w (t+d):=amV yM w2
 have hr:1/aJ w t*aJ w t=1:=by rw [iV,ph];exact akB _ (axH p1)
 have fu:1/aJ w (t+d)*aJ w (t+d)=1:=by rw [iV,ph];exact akB _ (axH p2)
 have uM:1/aJ w t*(1/aJ w t)*(aJ w t*aJ w t)=1:=by
  rw [show 1/aJ w t*(1/aJ w t)*(aJ w t*aJ w t)=(1/aJ w t*aJ w t)*(1/aJ w t*aJ w t) by
   generalize 1/aJ w t=r
   generalize aJ w t=W
   clear b1 b2 b3 b4 k1 k2 hW m1 m2 m3 m4 e1 e2 w1 w2 i1 i2 p1 p2 hr fu;grind,hr,pI]
 rw [ann fu,ann hr,ann uM]
 have c1:dv (1/aJ w t) (1/w0):=⟨by have:=i1.1;have:=i1.2;clear b1 b2 b3 b4 k1 k2 hW m1 m2 m3 m4 e1 e2 hr fu uM i1 i2;generalize 1/aJ w t=r at *;generalize 1/w0=c at *;grind,i1.2⟩
 have c2:dv (1/aJ w (t+d)) (1/w0):=⟨by have:=i2.1;have:=i2.2;clear b1 b2 b3 b4 k1 k2 hW m1 m2 m3 m4 e1 e2 hr fu uM i1 i2;generalize 1/aJ w (t+d)=r at *;generalize 1/w0=c at *;grind,i2.2⟩
 have h1:aJ n (t+d)=aJ n t+d*aJ (cX n) t+(aJ n (t+d)-aJ n t-d*aJ (cX n) t):=by
  generalize aJ n (t+d)=x;generalize aJ n t=y;generalize aJ (cX n) t=z
  clear b1 b2 b3 b4 k1 k2 hW m1 m2 m3 m4 e1 e2 hr fu uM i1 i2 c1 c2;grind
 have h2:aJ w (t+d)=aJ w t+d*aJ (cX w) t+(aJ w (t+d)-aJ w t-d*aJ (cX w) t):=by
  generalize aJ w (t+d)=x;generalize aJ w t=y;generalize aJ (cX w) t=z
  clear b1 b2 b3 b4 k1 k2 hW m1 m2 m3 m4 e1 e2 hr fu uM i1 i2 c1 c2;grind
 rw [aIq h1 h2 hr fu]
 exact aBz m1 m2 m3 m4 hd ki e1 e2 (aod yn zy) c1 c2
theorem azg {n w:List Rat} {w0 m t u:Rat} (hn:0<n.length) (hw:0<w.length) (yM:0<w0) (hW:∀ t,0<=t->t<=1->w0<=aJ w t) (ht:0<=t) (htu:t<=u) (hu:u<=1)
  (h:∀ s,t<=s->s<=u->m<=(aJ (cX n) s*aJ w s-aJ n s*aJ (cX w) s)/(aJ w s*aJ w s)):aJ n t/aJ w t+m*(u-t)<=aJ n u/aJ w u:=by
 obtain⟨K,k⟩:=aq0 hn hw yM hW
 refine mvi (g:=fun x=>aJ n x/aJ w x) (C:=K) htu fun s d hs hd hsd=>?_
 have h1:=(k s d (gR ht hs) hd (gR hsd hu)).1
 have hsu:s<=u:=by clear h1 h k hW;grind
 have h2:=u5 (h s hs hsu) hd
 show aJ n s/aJ w s+_<=aJ n (s+d)/aJ w (s+d)
 clear h k hW
 generalize (aJ (cX n) s*aJ w s-aJ n s*aJ (cX w) s)/(aJ w s*aJ w s)=q at *
 generalize aJ n s/aJ w s=x at *
 generalize aJ n (s+d)/aJ w (s+d)=y at *
 grind
theorem aF0 {p q:List Rat} {t:Rat} (h:0<p.length) (hl:p.length=q.length):aJ (te (·-·) p q) t=aJ p t-aJ q t:=by
 have hz:=aaw (·-·) p q
 rw [mZ ae,mZ h,mZ ae,hz,<-hl]
 have e:=xV (1-t) t 1 (-1) (p.length-1) (fun i=>p.getD i 0) (fun i=>q.getD i 0)
 have e2:∀ a b:Rat,1*a+-1*b=a-b:=fun a b=>by grind
 rw [e2] at e
 rw [<-e]
 refine pn _ _ _ _ _ fun i hi=>?_
 rw [amy ae,e2]
section
variable {po:List aG} {d:Nat} (h:oy po d)
include h
end
def iF (l:List V3) (k:Nat):Nat->Rat × Rat
 | 0=>((l.getD 0 default).at k,(l.getD 0 default).at k)
 | j+1=>ga (iF l k j) ((l.getD (j+1) default).at k,(l.getD (j+1) default).at k)
def pG (l:List V3):oP:=⟨iF l 0 (l.length-1),iF l 1 (l.length-1),iF l 2 (l.length-1)⟩
theorem akk (a b:Rat × Rat):(ga a b).1<=a.1/\(ga a b).1<=b.1/\a.2<=(ga a b).2/\b.2<=(ga a b).2:=by
 unfold ga fb eQ
 refine⟨?_,?_,?_,?_⟩<;>simp only<;>split<;>grind
theorem agx {l:List V3} {R:Nat} (h:∀ i,i<l.length->cJ R (l.getD i default)) (k:Nat):∀ n,n<l.length->dC R (iF l k n)
 | 0,hn=>⟨ac7 (h 0 hn) k,ac7 (h 0 hn) k⟩
 | n+1,hn=>aei (agx h k n ae) ⟨ac7 (h _ hn) k,ac7 (h _ hn) k⟩
theorem akd {a b:Rat} (ha:0<=a) (hb:0<=b):∀ (n:Nat) (f:Nat->Rat),(∀ i,i<=n->0<=f i)->0<=fE a b n f
 | 0,f,h=>h 0 (bq _)
 | n+1,f,h=>by
  rw [fE]
  refine akd ha hb n _ fun i hi=>?_
  have h1:=iN ha (h i ae)
  have h2:=iN hb (h (i+1) ae)
  exact aod h1 h2
theorem an5 {a a1 a2 b lo hi:Rat} (h1:a1<=a) (h2:a<=a2) (k1:lo<=a1*b) (k2:a1*b<=hi) (k3:lo<=a2*b) (k4:a2*b<=hi):lo<=a*b/\a*b<=hi:=by
 rcases adq (a:=0) (b:=b) with hb | hb
 ·have m1:=pb h1 hb
  have m2:=pb h2 hb
  exact⟨gR k1 m1,gR m2 k4⟩
 ·have qm:0<=-b:=by grind
  have m1:=pb h1 qm
  have m2:=pb h2 qm
  have n1:a*b<=a1*b:=by grind
  have n2:a2*b<=a*b:=by grind
  exact⟨gR k3 n2,gR n1 k2⟩
theorem aho {A B:Rat × Rat} {a b:Rat} (h1:A.1<=a) (h2:a<=A.2) (h3:B.1<=b) (h4:b<=B.2):(pR A B).1<=a*b/\a*b<=(pR A B).2:=by
 obtain⟨x1,x2,x3,x4⟩:=akk (A.1*B.1,A.1*B.1) (A.1*B.2,A.1*B.2)
 obtain⟨y1,y2,y3,y4⟩:=akk (ga (A.1*B.1,A.1*B.1) (A.1*B.2,A.1*B.2)) (A.2*B.1,A.2*B.1)
 obtain⟨z1,z2,z3,z4⟩:=akk (ga (ga (A.1*B.1,A.1*B.1) (A.1*B.2,A.1*B.2)) (A.2*B.1,A.2*B.1)) (A.2*B.2,A.2*B.2)
 unfold pR
 simp only at *
 generalize ga (ga (ga (A.1*B.1,A.1*B.1) (A.1*B.2,A.1*B.2)) (A.2*B.1,A.2*B.1)) (A.2*B.2,A.2*B.2)=S at *
 have g1:=an5 (lo:=S.1) (hi:=S.2) h3 h4 (b:=A.1) (by rw [oW];exact gR z1 (gR y1 x1)) (by rw [oW];exact gR x3 (gR y3 z3)) (by rw [oW];exact gR z1 (gR y1 x2)) (by rw [oW];exact gR x4 (gR y3 z3))
 have g2:=an5 (lo:=S.1) (hi:=S.2) h3 h4 (b:=A.2) (by rw [oW];exact gR z1 y2) (by rw [oW];exact gR y4 z3) (by rw [oW];exact z2) (by rw [oW];exact z4)
 rw [oW b] at g1 g2
 exact an5 h1 h2 g1.1 g1.2 g2.1 g2.2
theorem avo {B:Rat × Rat} {b:Rat} (h0:0<B.1) (h1:B.1<=b) (h2:b<=B.2):(rcS B).1<=1/b/\1/b<=(rcS B).2:=by
 have e1:=adA (amV h0 h1) h2
 have e2:=adA h0 h1
 unfold rcS fb eQ
 constructor
 ·simp only;split<;>grind
 ·simp only;split<;>grind
section
variable {po:List aG} {d:Nat} (h:oy po d)
include h
end
section
variable {po:List aG} {d:Nat} (h:oy po d)
include h
end
open iy in
theorem aF9 (a b c w:Rat) (R:Nat) (hR:R<=100000000) (ha:rl a<=R) (hb:rl b<=R) (hc:rl c<=R) (hw:rl w<=R):ax an 64 [.agg [ah a,ah b,ah c,ah w]] (aY ⟨jC (1/w) ⟨a,b,c⟩,w⟩):=by
 have uW:ax an 13 [iL 1] (ah 1):=so 1 aj aj
 have fu:rl 1=1:=rfl
 have hq:=tA 1 w
 refine aW Tryz.func64 (ht:=(fun g=>LV.di g _ (bF.pure _))) ?_
 refine aZ ?_
 refine a9 15 aq ?_
 simp only [au4]
 refine cp aR (uW) ?_
 refine aT ?_
 refine cp au (azi 1 w ae) ?_
 refine aZ ?_
 refine cp au (ars (1/w) ⟨a,b,c⟩ (R+1) ae ae ⟨by show rl a<=_;omega,by show rl b<=_;omega,by show rl c<=_;omega⟩) ?_
 refine aT ?_
 refine rG (abb rfl rfl) ?_
 refine aA ?_
 exact iG [] rfl rfl rfl cs (dZ cs rfl) uF (.pure pu)
theorem aiL {a b:Rat}:∀ (n:Nat) (c:Nat->Rat) (R:Nat),(∀ i,rl (c i)<=R)->rl (fE a b n c)<=(R+(rl a+rl b+1))*2 ^ n
 | 0,c,R,h=>by
  have:=h 0
  show rl (c 0)<=_
  omega
 | n+1,c,R,h=>by
  have:=aiL (a:=a) (b:=b) n (fun i=>a*c i+b*c (i+1)) (2*R+(rl a+rl b+1)) (fun i=>by
   have h0:=h i
   have h1:=h (i+1)
   have m0:=df a (c i)
   have m1:=df b (c (i+1))
   have s0:=lN (a*c i) (b*c (i+1))
   omega)
  rw [fE]
  refine ba this ?_
  rw [jt,Nat.mul_comm (2 ^ n) 2,<-fM]
  exact fU _ ae
theorem fz0 (bs:List Nat):yP bs []=[]:=rfl
def sS (t:Rat) (f:Nat->Rat):Nat->Rat:=fun i=>(1-t)*f i+t*f (i+1)
def sI (t:Rat):Nat->(Nat->Rat)->(Nat->Rat)
 | 0,f=>f
 | n+1,f=>sI t n (sS t f)
theorem aKr (s t:Rat) (f:Nat->Rat):sS s (sS t f)=sS t (sS s f):=by
 funext i;unfold sS;grind
theorem ahv (t s:Rat):∀ (n:Nat) (f:Nat->Rat),sI t n (sS s f)=sS s (sI t n f)
 | 0,f=>rfl
 | n+1,f=>by rw [sI,sI,aKr,ahv t s n]
theorem an7 (t:Rat) (n:Nat) (f:Nat->Rat):sI t (n+1) f=sS t (sI t n f):=by rw [sI,ahv]
theorem acx (t c d:Rat):∀ (n:Nat) (f g:Nat->Rat),sI t n (fun i=>c*f i+d*g i)=fun i=>c*sI t n f i+d*sI t n g i
 | 0,f,g=>rfl
 | n+1,f,g=>by
  rw [sI,sI,sI,<-acx t c d n]
  congr 1;funext i;unfold sS;grind
theorem uV (t:Rat):∀ (n:Nat) (f:Nat->Rat) (i:Nat),sI t n f i=fE (1-t) t n (fun m=>f (i+m))
 | 0,f,i=>rfl
 | n+1,f,i=>by rw [sI,uV t n,fE];rfl
theorem aEE (a b x:Rat) (f:Nat->Rat) (i:Nat):(1-x)*sS a f i+x*sS b f i=sS (a+x*(b-a)) f i:=by unfold sS;grind
def oV (a b:Rat) (n:Nat) (f:Nat->Rat) (j:Nat):Rat:=sI a (n-j) (sI b j f) 0
theorem aBt (a b x:Rat) {n j:Nat} (f:Nat->Rat) (h:j+1<=n):(1-x)*oV a b n f j+x*oV a b n f (j+1)=oV a b (n-1) (sS (a+x*(b-a)) f) j:=by
 unfold oV
 obtain⟨m,rfl⟩:∃ m,n=j+1+m:=⟨n-(j+1),ae⟩
 rw [show j+1+m-j=m+1 by omega,show j+1+m-(j+1)=m by omega,show j+1+m-1-j=m by omega]
 rw [sI,<-ahv b a,sI]
 have e:=acx a (1-x) x m (sI b j (sS a f)) (sI b j (sS b f))
 have e2:=acx b (1-x) x j (sS a f) (sS b f)
 rw [<-e2] at e
 have e3:(fun i=>(1-x)*sS a f i+x*sS b f i)=sS (a+x*(b-a)) f:=by funext i;exact aEE a b x f i
 rw [e3] at e
 exact(congrFun e 0).symm
theorem akc (a b x:Rat) {n:Nat}:∀ (k:Nat) (f:Nat->Rat) (j:Nat),j+k<=n->sI x k (oV a b n f) j=oV a b (n-k) (sI (a+x*(b-a)) k f) j
 | 0,f,j,h=>rfl
 | k+1,f,j,h=>by
  rw [an7]
  unfold sS
  rw [akc a b x k f j ae,akc a b x k f (j+1) ae,aBt _ _ _ _ ae,<-an7,Nat.sub_sub]
theorem apK (a b x:Rat) (n:Nat) (f:Nat->Rat):sI x n (oV a b n f) 0=sI (a+x*(b-a)) n f 0:=by
 rw [akc _ _ _ _ _ _ ae,qn];rfl
theorem asN {p:List Rat} {a b:Rat} (ha:a≠1) {j:Nat} (hj:j<p.length):(eH p a b).getD j 0=oV a b (p.length-1) (fun i=>p.getD i 0) j:=by
 have aX:(1:Rat)-a≠0:=by grind
 have hq:(b-a)/(1-a)*(1-a)=b-a:=kf aX
 unfold eH
 rw [if_neg ha,ail (by rw [aaA];exact hj)]
 generalize (b-a)/(1-a)=s at hq
 have key:∀ (k:Nat) (i:Nat),i+k<=p.length-1->sI s k (fun i=>(nU p a).getD i 0) i=sI a (p.length-1-i-k) (sI b k (fun m=>p.getD (i+m) 0)) 0:=by
  intro k
  induction k with
  | zero =>
   intro i hi
   show (nU p a).getD i 0=_
   rw [aic ae,uV,acA]
   exact pn _ _ _ _ _ fun m _=>by rw [fF];rfl
  | succ k ih =>
   intro i hi
   rw [an7]
   unfold sS
   rw [ih i ae,ih (i+1) ae]
   obtain⟨m,hm⟩:∃ m,p.length-1-i-k=m+1:=⟨p.length-1-i-k-1,ae⟩
   rw [hm,show p.length-1-(i+1)-k=m by omega,show p.length-1-i-(k+1)=m by omega,sI]
   have hsh:(fun m=>p.getD (i+1+m) 0)=fun m=>(fun m=>p.getD (i+m) 0) (m+1):=by funext m;simp only;congr 1;omega
   rw [hsh]
   generalize (fun m=>p.getD (i+m) 0)=f
   rw [<-ahv]
   have e:=acx a (1-s) s m (sI b k (sS a f)) (sI b k (fun m=>f (m+1)))
   have e2:=acx b (1-s) s k (sS a f) (fun m=>f (m+1))
   rw [<-e2] at e
   have e3:(fun i=>(1-s)*sS a f i+s*f (i+1))=sS b f:=by
    funext i;unfold sS
    have h1:(1-s)*(1-a)=1-b:=by grind
    have h2:(1-s)*a+s=b:=by grind
    rw [<-h1,<-h2];grind
   rw [e3] at e
   exact(congrFun e 0).symm
 have:=key j 0 ae
 rw [uV] at this
 simp only [fF,acA] at this
 rw [this];rfl
structure ow (po:List aG) (d R:Nat):Prop where
 hl:po.length=d+1
 hd:1<=d
 h6:d<=6
 ok:∀ q∈po,sf R q
theorem oy.r {po:List aG} {d:Nat} (h:oy po d):ow po d 1:=⟨h.hl,h.hd,h.h6,h.ok⟩
def wM (po:List aG) (x y:Rat) (j:Nat):aG :=
 ⟨⟨(eH (a8 po 0) x y).getD j 0/(eH (aL po) x y).getD j 0,(eH (a8 po 1) x y).getD j 0/(eH (aL po) x y).getD j 0,(eH (a8 po 2) x y).getD j 0/(eH (aL po) x y).getD j 0⟩,(eH (aL po) x y).getD j 0⟩
def lJ (po:List aG) (x y:Rat):List aG:=(c9 po.length).map (wM po x y)
theorem uD (po:List aG) (x y:Rat):(lJ po x y).length=po.length:=by simp [lJ]
theorem amW {po:List aG} {x y:Rat} {j:Nat} (h:j<po.length):(lJ po x y).getD j default=wM po x y j:=by
 unfold lJ;rw [bp,b7 nH];simp
theorem zt (p:List Rat) (a b:Rat):(eH p a b).length=p.length:=by rw [<-arJ,aAY]
theorem adi {a b:Rat} (ha:0<=a) (hb:0<=b) (cL:0<a+b):∀ (n:Nat) (f:Nat->Rat),(∀ i,i<=n->0<f i)->0<fE a b n f
 | 0,f,h=>h 0 (bq _)
 | n+1,f,h=>by
  rw [fE]
  refine adi ha hb cL n _ fun i hi=>?_
  have a1:=h i ae
  have a2:=h (i+1) ae
  have b1:=iN ha (ib a1)
  have b2:=iN hb (ib a2)
  rcases Rat.le_iff_lt_or_eq.1 ha with h0 | h0
  ·have:=aak h0 a1;grind
  ·have:=aak (show 0<b by grind) a2;grind
theorem azv {a b:Rat} (ha:0<=a) (ha1:a<=1) (hb:0<=b) (hb1:b<=1) {n j:Nat} {f:Nat->Rat} (hj:j<=n) (h:∀ i,i<=n->0<f i):0<oV a b n f j:=by
 unfold oV
 rw [uV]
 refine adi cj ha cj _ _ fun m hm=>?_
 rw [uV]
 exact adi cj hb cj _ _ fun m2 fe=>h _ ae
theorem aBZ (a b c e:Rat) (n:Nat) (f g:Nat->Rat) (j:Nat):oV a b n (fun i=>c*f i+e*g i) j=c*oV a b n f j+e*oV a b n g j:=by
 unfold oV
 rw [acx,acx]
theorem ag2 {a b:Rat} {R S:Nat} (ha:rl (1-a)+rl a+1<=S) (hb:rl (1-b)+rl b+1<=S) {n j:Nat} (hn:n<=6) (hj:j<=n) {f:Nat->Rat} (h:∀ i,rl (f i)<=R):rl (oV a b n f j)<=((R+S)*64+S)*64:=by
 unfold oV
 have hp:∀ k,k<=6->2 ^ k<=64:=fun k hk=>mh (n:=2) aj hk
 have h1:∀ m,rl (sI b j f m)<=(R+S)*64:=fun m=>by
  rw [uV]
  have:=aiL (a:=1-b) (b:=b) j (fun i=>f (m+i)) R (fun i=>h _)
  refine ba this (mM ae (hp j ae))
 rw [uV]
 have:=aiL (a:=1-a) (b:=a) (n-j) (fun i=>sI b j f (0+i)) ((R+S)*64) (fun i=>h1 _)
 exact ba this (mM ae (hp (n-j) ae))
section
variable {po:List aG} {d R:Nat} (h:ow po d R) {x y:Rat} (iO:0<=x) (fh:x<1) (jE:0<=y) (ke:y<=1)
include h
theorem abW (k:Nat):(a8 po k).length=d+1:=by rw [kY,h.hl]
theorem adw:(aL po).length=d+1:=by rw [mC,h.hl]
theorem azF {i:Nat} (hi:i<=d):0<(aL po).getD i 0:=by
 have hl:=h.hl
 rw [aav ae]
 exact(h.ok _ (sJ ae)).2.2
theorem aKv:aL (lJ po x y)=eH (aL po) x y:=by
 have hl:=h.hl
 have hw:=adw h
 refine vk (by rw [mC,uD,zt,mC]) fun j h1 h2=>?_
 rw [mC,uD] at h1
 have e1:=aav (po:=lJ po x y) (i:=j) (by rw [uD];exact h1)
 rw [amW h1] at e1
 rw [bp,b7 (by rw [mC,uD];exact h1)] at e1
 have e2:(wM po x y j).w=(eH (aL po) x y).getD j 0:=rfl
 rw [e2,bp,b7 h2] at e1
 exact e1
include fh
theorem aeG {j:Nat} (hj:j<=d):(eH (aL po) x y).getD j 0=oV x y d (fun i=>(aL po).getD i 0) j:=by
 have hw:=adw h
 rw [asN cj ae,hw,mi]
theorem acB (k:Nat) {j:Nat} (hj:j<=d):(eH (a8 po k) x y).getD j 0=oV x y d (fun i=>(a8 po k).getD i 0) j:=by
 have hw:=abW h k
 rw [asN cj ae,hw,mi]
include iO jE ke
theorem ahf {j:Nat} (hj:j<=d):0<(eH (aL po) x y).getD j 0:=by
 rw [aeG h fh hj]
 exact azv iO (ib fh) jE ke hj fun i hi=>azF h hi
theorem anW (k:Nat) (hk:k<3):a8 (lJ po x y) k=eH (a8 po k) x y:=by
 have hl:=h.hl
 refine vk (by rw [kY,uD,zt,kY]) fun j h1 h2=>?_
 rw [kY,uD] at h1
 have e1:=xo (po:=lJ po x y) (k:=k) (i:=j) (by rw [uD];exact h1)
 rw [amW h1] at e1
 rw [bp,b7 (by rw [kY,uD];exact h1)] at e1
 have hp:=ahf h iO fh jE ke (j:=j) ae
 have e2:(wM po x y j).w*(wM po x y j).p.at k=(eH (a8 po k) x y).getD j 0:=by
  have aX:(eH (aL po) x y).getD j 0≠0:=by grind
  have hm:∀ q:Rat,(eH (aL po) x y).getD j 0*(q/(eH (aL po) x y).getD j 0)=q:=fun q=>by rw [oW];exact kf aX
  match k,hk with
  | 0,_=>exact hm _
  | 1,_=>exact hm _
  | 2,_=>exact hm _
 rw [e2,bp,b7 h2] at e1
 exact e1
theorem aJ3 (s:Rat):jq (lJ po x y) s=jq po (x+s*(y-x)):=by
 have hl:=h.hl
 have hw:=adw h
 have ew:aJ (eH (aL po) x y) s=aJ (aL po) (x+s*(y-x)):=by
  have:=apK x y s d (fun i=>(aL po).getD i 0)
  rw [uV,uV] at this
  rw [mZ (by rw [zt];omega),mZ ae,zt,hw,mi]
  simp only [fF] at this
  rw [<-this]
  exact pn _ _ _ _ _ fun i hi=>aeG h fh ae
 have en:∀ k,aJ (eH (a8 po k) x y) s=aJ (a8 po k) (x+s*(y-x)):=fun k=>by
  have hn:=abW h k
  have:=apK x y s d (fun i=>(a8 po k).getD i 0)
  rw [uV,uV] at this
  rw [mZ (by rw [zt];omega),mZ ae,zt,hn,mi]
  simp only [fF] at this
  rw [<-this]
  exact pn _ _ _ _ _ fun i hi=>acB h fh k ae
 unfold jq
 rw [aKv h,anW h iO fh jE ke 0 aj,anW h iO fh jE ke 1 aj,anW h iO fh jE ke 2 aj,ew,en,en,en]
end
theorem al2 {f:Nat} (hc:∀ s t:Rat × Rat,rl s.1+rl t.1<=34359738368->rl s.2+rl t.2<=34359738368->ax an f [aE s,aE t] (aE (ga s t))) {l:List V3} {R:Nat} (hR:R<=1000000) (hb:∀ i,i<l.length->cJ R (l.getD i default)) (k j:Nat) (hj:j+1<l.length) :
  ax an f [aE (iF l k j),aE ((l.getD (j+1) default).at k,(l.getD (j+1) default).at k)] (aE (iF l k (j+1))):=by
 have q:=agx hb k j ae
 have g:=ac7 (hb (j+1) hj) k
 have h1:R+R<=34359738368:=by omega
 exact hc _ _ (ba (adu q.1 g) h1) (ba (adu q.2 g) h1)
theorem aBh:(LV.agg [.agg [ah 0,ah 0],.agg [ah 0,ah 0],.agg [ah 0,ah 0]]).aw=18:=by simp [LV.aw,da,ar.aw]
theorem aHJ (a b c:Rat × Rat):(LV.agg [aE a,aE b,aE c]).aw=18:=zM.aw ⟨a,b,c⟩
theorem dr1 (l:List V3) (j:Nat):(l.drop 1).getD j default=l.getD (j+1) default:=by
 rw [bp,bp,tc,qB]
namespace aqF
theorem aO {p q:Prop} (k:q) (e:p=q:=by simp only [e1,e2,e3,e4,p1,p2,p3,q1,q2,q3,l1,t0,t1,r1,r2,r3,r4,Nat.zero_add,Nat.reduceMul,Nat.reduceAdd,b1,b2,b3,b4,b5,b6,i1,i2,i3,i4,i5,i6,Nat.reduceBEq,aBh,aHJ,dr1,cN,List.length_drop,List.length_map,List.set_cons_zero,List.set_cons_succ,Nat.reduceEqDiff,reduceIte,if_true,if_false,eN,eY,aV bl,aV bF,aV ar,cU,eu,LV.kill,bX];exact rfl):p:=e.mpr k
end aqF
open aqF in
theorem aGf (l:List V3) (h0:0<l.length) (hl:l.length<=1000) (R:Nat) (hR:R<=1000000) (hb:∀ i,i<l.length->cJ R (l.getD i default)):ax an 98 [.list 9 (l.map a5)] (.bf [oc (pG l),iL 0]):=by
 obtain⟨z1,z2,z3⟩:=hb 0 h0
 refine aW Tryz.func98 (ht:=(kL (zM.pure _) rfl)) ?_
 refine pU ?_
 refine aH rfl ?_ ?_<;>intro ob qf
 ·omega
 ·refine bD ?_
  refine bN ?_
  refine aC ?_
  refine cu (b:=_) rfl aj ?_
  refine qF ?_
  refine cp aR (tD (l.getD 0 default).x ae) ?_
  refine aZ ?_
  refine ak rfl (.acn (a:=1) bl rfl wK ju rfl om) ?_
  refine bc ?_
  refine dV (fun(j:Nat) L=>(((((((((St.mk L.slot (hp [(2,⟨18,[.agg [.agg [ah 0,ah 0],.agg [ah 0,ah 0],.agg [ah 0,ah 0]]],true⟩),(4,⟨18,[.agg [aE (iF l 0 j),.agg [ah 0,ah 0],.agg [ah 0,ah 0]]],true⟩)])).put (some 0) (.list 9 (l.map a5))).put (some 2) (.aD 2 18 0 0)).put (some 4) (.aD 4 18 0 0)).put (some 5) (iL 0)).put (some 12) (iL 0)).put (some 24) (.list 9 ((l.drop 1).map a5))).put (some 25) (ai (l.length-1))).put (some 26) (ai j))) (fun j=>j<=l.length-1) (fun j=>l.length-1-j) 0 (b8 _) ?_
  rintro j L2 hj
  refine aC ?_
  refine aH rfl ?_ ?_<;>intro zu h27
  ·have jr:j<l.length-1:=by omega
   obtain⟨g1,g2,g3⟩:=hb (j+1) ae
   have hH0:ax an 182 [aE (iF l 0 j),aE ((l.getD (j+1) default).x,(l.getD (j+1) default).x)] (aE (iF l 0 (j+1))):=al2 (fun s t h1 h2=>wv s t ae ae) hR hb 0 j ae
   refine bG ?_
   refine a9 10 aq ?_
   refine aZ ?_
   refine cp aR (tD (l.getD (j+1) default).x ae) ?_
   refine cp au (hH0) ?_
   refine bc ?_
   refine cM (az.kill _ 7) ?_
   refine ak rfl cV ?_
   refine aQ ?_
   exact y9
  ·obtain rfl:j=l.length-1:=by omega
   refine bC ?_
   refine bN ?_
   refine aC ?_
   refine cu (b:=_) rfl aj ?_
   refine qF ?_
   refine cp aR (tD (l.getD 0 default).y ae) ?_
   refine aZ ?_
   refine ak rfl (.acn (a:=1) bl rfl wK ju rfl om) ?_
   refine bc ?_
   refine dV (fun(j:Nat) L=>(((((((((St.mk L.slot (hp [(2,⟨18,[.agg [.agg [ah 0,ah 0],.agg [ah 0,ah 0],.agg [ah 0,ah 0]]],true⟩),(4,⟨18,[.agg [aE (iF l 0 (l.length-1)),aE (iF l 1 j),.agg [ah 0,ah 0]]],true⟩)])).put (some 0) (.list 9 (l.map a5))).put (some 2) (.aD 2 18 0 0)).put (some 4) (.aD 4 18 0 0)).put (some 5) (iL 1)).put (some 12) (iL 1)).put (some 24) (.list 9 ((l.drop 1).map a5))).put (some 25) (ai (l.length-1))).put (some 26) (ai j))) (fun j=>j<=l.length-1) (fun j=>l.length-1-j) 0 (b8 _) ?_
   rintro j L2 hj
   refine aC ?_
   refine aH rfl ?_ ?_<;>intro zu h27
   ·have jr:j<l.length-1:=by omega
    obtain⟨g1,g2,g3⟩:=hb (j+1) ae
    have vj:ax an 182 [aE (iF l 1 j),aE ((l.getD (j+1) default).y,(l.getD (j+1) default).y)] (aE (iF l 1 (j+1))):=al2 (fun s t h1 h2=>wv s t ae ae) hR hb 1 j ae
    refine bG ?_
    refine a9 10 aq ?_
    refine aZ ?_
    refine cp aR (tD (l.getD (j+1) default).y ae) ?_
    refine cp au (vj) ?_
    refine bc ?_
    refine cM (az.kill _ 7) ?_
    refine ak rfl cV ?_
    refine aQ ?_
    exact y9
   ·obtain rfl:j=l.length-1:=by omega
    refine bC ?_
    refine bN ?_
    refine aC ?_
    refine cu (b:=_) rfl aj ?_
    refine qF ?_
    refine cp aR (tD (l.getD 0 default).z ae) ?_
    refine aZ ?_
    refine ak rfl (.acn (a:=1) bl rfl wK ju rfl om) ?_
    refine bc ?_
    refine dV (fun(j:Nat) L=>(((((((((St.mk L.slot (hp [(2,⟨18,[.agg [.agg [ah 0,ah 0],.agg [ah 0,ah 0],.agg [ah 0,ah 0]]],true⟩),(4,⟨18,[.agg [aE (iF l 0 (l.length-1)),aE (iF l 1 (l.length-1)),aE (iF l 2 j)]],true⟩)])).put (some 0) (.list 9 (l.map a5))).put (some 2) (.aD 2 18 0 0)).put (some 4) (.aD 4 18 0 0)).put (some 5) (iL 2)).put (some 12) (iL 2)).put (some 24) (.list 9 ((l.drop 1).map a5))).put (some 25) (ai (l.length-1))).put (some 26) (ai j))) (fun j=>j<=l.length-1) (fun j=>l.length-1-j) 0 (b8 _) ?_
    rintro j L2 hj
    refine aC ?_
    refine aH rfl ?_ ?_<;>intro zu h27
    ·have jr:j<l.length-1:=by omega
     obtain⟨g1,g2,g3⟩:=hb (j+1) ae
     have hH2:ax an 182 [aE (iF l 2 j),aE ((l.getD (j+1) default).z,(l.getD (j+1) default).z)] (aE (iF l 2 (j+1))):=al2 (fun s t h1 h2=>wv s t ae ae) hR hb 2 j ae
     refine bG ?_
     refine a9 10 aq ?_
     refine aZ ?_
     refine cp aR (tD (l.getD (j+1) default).z ae) ?_
     refine cp au (hH2) ?_
     refine bc ?_
     refine cM (az.kill _ 7) ?_
     refine ak rfl cV ?_
     refine aQ ?_
     exact y9
    ·obtain rfl:j=l.length-1:=by omega
     refine bC ?_
     refine bN ?_
     refine aC ?_
     refine ff (b:=_) rfl aj ?_
     refine dH ?_
     exact vW [] rfl rfl rfl cs (dZ cs rfl) T97 (.pure pu) rfl (.pure rfl)
end Go.Proofs.YtckppbhafancnaaGreat
end
