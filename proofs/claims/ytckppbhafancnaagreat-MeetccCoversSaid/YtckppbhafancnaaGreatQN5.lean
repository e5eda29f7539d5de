/- Texts B1, M1, R6, B2, C1, C2, D1, E1, E3, K1, K4, H1, V1, P1, H2, C3, TW, K3, E2, S1, S2, K5, K8, K9, K13, K2, K10, K7, K11, K14, K16, P4, K17, K18, P5, K20, LgS, LgT, LgU, LgV, LgW of this proof, joined. -/
import Derived.Test.YtckppbhafancnaaGreatQN4
set_option linter.unusedVariables false
set_option linter.unusedSimpArgs false
section
set_option linter.unusedVariables false
set_option linter.unusedSimpArgs false
set_option maxHeartbeats 8000000
set_option maxRecDepth 100000
attribute [local irreducible] Go.Lg.opsL Go.Lg.cy Go.Lg.mR Go.Lg.oF
namespace Go.Proofs.YtckppbhafancnaaGreat
open Go.Lg
end Go.Proofs.YtckppbhafancnaaGreat
namespace Go.Lg
open Go.Proofs.YtckppbhafancnaaGreat in
theorem aB.as4 {P:Program} {H:bK} {ρ:Operand->LV} {T:TypeId} (hT:ka P T [(1,false),(1,false),(1,false)]) (hz:cU P T (.agg [.v (.bool false),.list 1 [],.list 1 []])):aB P H ρ (.build T #[]) (ae 0):=by
 rw [nP]
 exact aB.build (zs:=[.v (.bool false),.list 1 [],.list 1 []]) (ps:=#[]) hT hz (by intro p hp;cases hp)
end Go.Lg
namespace Go.Proofs.YtckppbhafancnaaGreat
open Go.Lg
theorem cx:(default:Rat)=0:=rfl
def iO (t:Rat):List Rat->List Rat
 | x :: y :: r=>((1-t)*x+t*y) :: iO t (y :: r)
 | _=>[]
theorem qJ (t:Rat):∀ p:List Rat,(iO t p).length=p.length-1
 | []=>rfl
 | [_]=>rfl
 | x :: y :: r=>by simp [iO,qJ t (y :: r)]
theorem acJ (t:Rat):∀ (p:List Rat) (i:Nat),i+1<p.length->(iO t p).getD i 0=(1-t)*p.getD i 0+t*p.getD (i+1) 0
 | [],i,h=>by simp at h
 | [_],i,h=>by simp at h
 | x :: y :: r,0,_=>by simp [iO]
 | x :: y :: r,i+1,h=>by
   have:=acJ t (y :: r) i lJ
   simpa [iO] using this
theorem dg {p:List Rat} {i:Nat} (h:i<p.length):p.getD i 0∈p:=by
 rw [List.getD_eq_getElem?_getD,List.getElem?_eq_getElem h];exact List.getElem_mem h
theorem ac8 {p:List Rat} {x:Rat} (h:x∈p):∃ i,i<p.length/\p.getD i 0=x:=by
 obtain⟨i,hi,rfl⟩:=List.getElem_of_mem h
 exact⟨i,hi,by rw [List.getD_eq_getElem?_getD,List.getElem?_eq_getElem hi];rfl⟩
theorem atT {p q:List Rat} (hl:p.length=q.length) (h:∀ i,i<p.length->p.getD i 0=q.getD i 0):p=q:=by
 apply List.ext_getElem hl
 intro i h1 h2
 have:=h i h1
 rw [List.getD_eq_getElem?_getD,List.getD_eq_getElem?_getD,List.getElem?_eq_getElem h1,List.getElem?_eq_getElem h2] at this
 exact this
def vn (t:Rat):Nat->List Rat->List Rat
 | 0,_=>[]
 | k+1,p=>p.getD 0 0 :: vn t k (iO t p)
def qT (t:Rat):Nat->List Rat->List Rat->List Rat
 | 0,q,tl=>q++tl
 | k+1,q,tl=>qT t k (iO t q) (q.getD k 0 :: tl)
def nT (p:List Rat) (t:Rat):List Rat:=vn t p.length p
def lF (p:List Rat) (t:Rat):List Rat:=qT t p.length p []
theorem ak4 (t:Rat):∀ (k:Nat) (p:List Rat),(vn t k p).length=k
 | 0,_=>rfl
 | k+1,p=>by simp [vn,ak4 t k]
theorem anL (t:Rat):∀ (k:Nat) (q tl:List Rat),q.length=k->(qT t k q tl).length=k+tl.length
 | 0,q,tl,h=>by simp [qT,h]
 | k+1,q,tl,h=>by rw [qT,anL t k _ _ (by rw [qJ];omega)];simp;omega
theorem vX (p:List Rat) (t:Rat):(nT p t).length=p.length:=ak4 t _ _
theorem vU (p:List Rat) (t:Rat):(lF p t).length=p.length:=by rw [lF,anL t _ _ _ rfl];simp
theorem awI {α:Type} (A B:List α) (x v:α) {n:Nat} (h:n=A.length):(A++x :: B).set n v=A++v :: B:=by subst h;simp
theorem afZ {α:Type} (A B:List α) (d:α) {i:Nat} (h:i<A.length):(A++B).getD i d=A.getD i d:=by simp [List.getD_eq_getElem?_getD,List.getElem?_append_left h]
theorem aid {α:Type} (A B:List α) (d:α) {i:Nat} (h:A.length<=i):(A++B).getD i d=B.getD (i-A.length) d:=by simp [List.getD_eq_getElem?_getD,List.getElem?_append_right h]
theorem aj9 (l:List Rat) (k p:Nat):(l.drop k).getD p 0=l.getD (k+p) 0:=by
 rw [List.getD_eq_getElem?_getD,List.getD_eq_getElem?_getD,List.getElem?_drop]
theorem ar4 {t:Rat} {q tl:List Rat} {i:Nat} (h:i+1<q.length) :
  ((iO t q).take i++(q.drop i++tl)).getD i 0=q.getD i 0/\((iO t q).take i++(q.drop i++tl)).getD (i+1) 0=q.getD (i+1) 0:=by
 have hl:((iO t q).take i).length=i:=by rw [List.length_take,qJ];omega
 constructor
 ·rw [aid _ _ _ J,hl,Nat.sub_self,afZ _ _ _ bm,aj9,Nat.add_zero]
 ·rw [aid _ _ _ J,hl,afZ _ _ _ bm,aj9];congr 1;omega
theorem aCl {t:Rat} {q tl:List Rat} {i:Nat} (h:i+1<q.length) :
  ((iO t q).take i++(q.drop i++tl)).set i ((1-t)*q.getD i 0+t*q.getD (i+1) 0)=(iO t q).take (i+1)++(q.drop (i+1)++tl):=by
 have hl:((iO t q).take i).length=i:=by rw [List.length_take,qJ];omega
 rw [List.drop_eq_getElem_cons J,List.cons_append,awI _ _ _ _ hl.symm,<-acJ t q i h]
 have hs:i<(iO t q).length:=by rw [qJ];omega
 rw [List.take_succ_eq_append_getElem hs,List.append_assoc]
 congr 1
 rw [List.getD_eq_getElem?_getD,List.getElem?_eq_getElem hs]
 simp
theorem aAZ {t:Rat} {q tl:List Rat} {k:Nat} (h:q.length=k+1):(iO t q).take k++(q.drop k++tl)=iO t q++(q.getD k 0 :: tl):=by
 rw [List.take_of_length_le (by rw [qJ];omega),List.drop_eq_getElem_cons J,List.drop_of_length_le J,List.getD_eq_getElem?_getD,List.getElem?_eq_getElem J]
 simp
theorem agQ {t:Rat} {q:List Rat} {C M k:Nat} (hC:rl (1-t)+rl t+1<=C) (h:∀ x∈q,(rl x+C)*2 ^ (k+1)<=M):∀ x∈iO t q,(rl x+C)*2 ^ k<=M:=by
 intro x hx
 obtain⟨i,hi,rfl⟩:=ac8 hx
 rw [qJ] at hi
 rw [acJ t q i J]
 have h1:=h _ (dg (p:=q) (i:=i) J)
 have h2:=h _ (dg (p:=q) (i:=i+1) J)
 have e1:=jq ((1-t)*q.getD i 0) (t*q.getD (i+1) 0)
 have e2:=cO (1-t) (q.getD i 0)
 have e3:=cO t (q.getD (i+1) 0)
 rw [Nat.pow_succ] at h1 h2
 have hle:rl ((1-t)*q.getD i 0+t*q.getD (i+1) 0)+C<=(rl (q.getD i 0)+C)+(rl (q.getD (i+1) 0)+C):=by omega
 have:=Nat.mul_le_mul_right (2 ^ k) hle
 have e6:=Nat.add_mul (rl (q.getD i 0)+C) (rl (q.getD (i+1) 0)+C) (2 ^ k)
 have e4:(rl (q.getD i 0)+C)*(2 ^ k*2)=(rl (q.getD i 0)+C)*2 ^ k*2:=by rw [Nat.mul_assoc]
 have e5:(rl (q.getD (i+1) 0)+C)*(2 ^ k*2)=(rl (q.getD (i+1) 0)+C)*2 ^ k*2:=by rw [Nat.mul_assoc]
 omega
theorem aml {o p:List Rat} {k:Nat} (hk:k<p.length) (cJ:o.length=p.length) (ht:o.take k=p.take k):(o.set k (p.getD k 0)).take (k+1)=p.take (k+1):=by
 rw [List.take_succ_eq_append_getElem (by simpa [cJ] using hk),List.take_succ_eq_append_getElem hk,List.take_set_of_le (Nat.le_refl _),ht]
 congr 1
 simp [List.getD_eq_getElem?_getD,List.getElem?_eq_getElem hk]
theorem r1r:((1:Int):Rat)=1:=rfl
theorem zi {x:Rat} {C M k:Nat} (h:(rl x+C)*2 ^ k<=M):rl x+C<=M:=by
 have:1<=2 ^ k:=Nat.pow_pos J
 exact Nat.le_trans (Nat.le_mul_of_pos_right _ this) h
theorem aj1 {p:List Rat} {C:Nat} (hC:1<=C) (h:∀ x∈p,(rl x+C)*2 ^ p.length<=1073741824):p.length<=30:=by
 cases p with
 | nil=>simp
 | cons x r =>
  have h1:=h x aO
  have h2:1*2 ^ (x :: r).length<=(rl x+C)*2 ^ (x :: r).length:=Nat.mul_le_mul_right _ J
  rcases Nat.lt_or_ge 30 (x :: r).length with h3 | h3
  ·have h4:2 ^ 31<=2 ^ (x :: r).length:=Nat.pow_le_pow_right J h3
   omega
  ·exact h3
theorem azj {t:Rat} {q tl:List Rat} {i:Nat} (h:i<q.length):((iO t q).take i++(q.drop i++tl)).length=q.length+tl.length:=by
 simp [qJ];omega
namespace aod
theorem aH {p q:Prop} (k:q) (e:p=q:=by simp only [e1,e2,e3,e4,p1,p2,p3,q1,q2,q3,l1,t0,t1,r1,r2,r3,r4,Nat.zero_add,Nat.reduceMul,Nat.reduceAdd,b1,b2,b3,b4,b5,b6,i1,i2,i3,i4,i5,i6,Nat.reduceBEq,cx,Rat.add_zero,aP ao,cH,LV.kill,bN];exact rfl):p:=e.mpr k
end aod
open aod in
theorem ahK (p:List Rat) (hl:p.length<=1048576) (ma:∀ x∈p,rl x<=274877906944):mP Tryz.prog 178 [.list 3 (p.map ae)] (.ref 1 3 0 p.length) [⟨3,p.map ae,true⟩]:=by
 refine fnO Tryz.func178 ?_
 refine bq ?_
 refine eH rfl rfl (.kM (n:=p.length) (m:=p.length) ml ml om om om) ?_
 refine bu ?_
 refine jP (fun(k:Nat) (o:List Rat) L=>(((((St.mk L.slot (hp [(8,⟨3,o.map ae,true⟩)])).put (some 3) (.ref 8 3 0 p.length)).put (some 9) (.list 3 (p.map ae))).put (some 10) (ah p.length)).put (some 11) (ah k))) (fun k o=>k<=p.length/\o.length=p.length/\o.take k=p.take k) (fun k o=>p.length-k) 0 (List.replicate p.length 0) ⟨Nat.zero_le _,by simp,rfl⟩ ?_
 rintro k o L1 ⟨hk,cJ,ht⟩
 refine aA ?_
 refine aC rfl ?_ ?_<;>intro aav h12
 ·have kL:k<p.length:=by omega
  have hrk:=ma _ (dg kL)
  refine nn ?_
  refine ak rfl ob ?_
  refine cp aq (iw (p.getD k 0) 0 (by rw [show rl 0=1 from rfl];omega)) ?_
  refine a6 ?_
  refine cq (aw.kill _ 5) ?_
  refine ax ?_
  exact fZ (k+1) (o.set k (p.getD k 0)) ⟨J,by simp [cJ],aml kL cJ ht⟩
 ·obtain rfl:k=p.length:=by omega
  rw [List.take_length,<-cJ,List.take_length] at ht
  refine bu ?_
  subst ht
  exact ab2 rfl rfl (aW ao _)
namespace aoJ
theorem aH {p q:Prop} (k:q) (e:p=q:=by simp only [e1,e2,e3,e4,p1,p2,p3,q1,q2,q3,l1,t0,t1,r1,r2,r3,r4,Nat.zero_add,Nat.reduceMul,Nat.reduceAdd,b1,b2,b3,b4,b5,b6,i1,i2,i3,i4,i5,i6,Nat.reduceBEq,abG,cx,Rat.add_zero,List.append_nil,List.length_append,r1r,ek,eq0,ahC,aiN,ems,eme,kX,k5,kI,iz,List.length_cons,List.length_nil,aP ao,cH,LV.kill,bN];exact rfl):p:=e.mpr k
end aoJ
open aoJ in
theorem auk (p:List Rat) (t:Rat) (cc:Nat) (hC:rl (1-t)+rl t+1<=cc) (sQ:cc<=1073741824) (hs:∀ x∈p,(rl x+cc)*2 ^ p.length<=1073741824):av Tryz.prog 176 [.list 3 (p.map ae),ae t] (.a7 [.list 3 ((nT p t).map ae),.list 3 ((lF p t).map ae)]):=by
 have hlen:=aj1 (Nat.le_trans (Nat.le_add_left 1 _) hC) hs
 have ma:∀ x∈p,rl x<=274877906944:=fun x hx=>by have:=zi (hs x hx);omega
 refine aN Tryz.func176 ?_
 have ek:True:=trivial
 have eq0:True:=trivial
 have ahC:True:=trivial
 have aiN:True:=trivial
 have ems:True:=trivial
 have eme:True:=trivial
 have kX:True:=trivial
 refine bf ?_
 refine aY 4 an ?_
 refine cp aK (uc 1 ai ai) ?_
 refine ar ?_
 refine cp aq (py _ _ (by rw [show rl ((1:Int):Rat)=1 from rfl];omega)) ?_
 refine aR ?_
 refine y7 [] rfl rfl (.cons (.pure (et ao _ _)) .nil) (ahK p J ma) (aW ao _) rfl ?_
 refine aR ?_
 refine eH rfl rfl (.aiI (n:=0) (m:=p.length) ao Tryz.underlying155 Z31 cK kA rfl rfl J J J) ?_
 refine dj ?_
 refine jo (aw.mv (t:=8) (b:=18) 33 ai ai ai rfl rfl rfl) ?_
 refine lp4 (fun(k:Nat) (q tl lo:List Rat) L=>((((((St.mk L.slot (hp [(3,⟨3,[ae t],true⟩),(6,⟨3,[ae (1-t)],true⟩),(1000241,⟨3,(q++tl).map ae,true⟩),(33,⟨3,lo.map ae,true⟩)])).put (some 3) (.az 3 3 0 0)).put (some 6) (.az 6 3 0 0)).put (some 7) (.ref 1000241 3 0 p.length)).put (some 8) (.ref 33 3 0 lo.length)).put (some 9) (iL ((k:Int)-1)))) (fun k q tl lo=>q.length=k/\k+tl.length=p.length/\lo.length+k=p.length/\lo++vn t k q=nT p t/\qT t k q tl=lF p t/\∀ x∈q,(rl x+cc)*2 ^ k<=1073741824) (fun k q tl lo=>k) p.length p ([]) ([]) ⟨rfl,by simp,by simp,by simp [nT],rfl,hs⟩ ?_
 rintro k q tl lo L1 ⟨hq,xx,bX,hL,hH,bB⟩
 refine aR ?_
 refine aC rfl ?_ ?_<;>intro qt oL
 ·obtain⟨j,rfl⟩:∃ j,k=j+1:=⟨k-1,J⟩
  have ek:(((j+1:Nat):Int)-1)=(j:Int):=by omega
  have eq0:(q++tl).getD 0 0=q.getD 0 0:=afZ _ _ _ J
  have mS:=zi (bB _ (dg (i:=0) J))
  refine bC ?_
  refine ak rfl ob ?_
  simp only [wV,cx,Nat.zero_add,eq0]
  refine cp aq (iw _ 0 (by rw [show rl 0=1 from rfl];omega)) ?_
  refine ar ?_
  refine bI rfl (.app (news:=[ae (q.getD 0 0+0)]) rfl rfl rfl rfl rfl aO (.inl rfl) ai Tryz.underlying155 Tryz.underlying155 ko cK rfl kA (.inl ⟨32,0,_,rfl,by decide,rfl,rfl,by simp,rfl,by simp [aG,ao.pure]⟩) bm bm ai) ?_
  refine ax ?_
  refine cq (aw.kill _ 32) ?_
  refine a6 ?_
  refine dJ (fun(i:Nat) L=>((((((((St.mk L.slot (hp [(3,⟨3,[ae t],true⟩),(6,⟨3,[ae (1-t)],true⟩),(1000241,⟨3,((iO t q).take i++(q.drop i++tl)).map ae,true⟩),(33,⟨3,(lo++[q.getD 0 0]).map ae,true⟩)])).put (some 3) (.az 3 3 0 0)).put (some 6) (.az 6 3 0 0)).put (some 7) (.ref 1000241 3 0 p.length)).put (some 8) (.ref 33 3 0 (lo.length+1))).put (some 9) (ah j)).put (some 34) (ah j)).put (some 35) (ah i))) (fun i=>i<=j) (fun i=>j-i) 0 (Nat.zero_le _) ?_
  rintro i L2 hi
  refine aA ?_
  refine aC rfl ?_ ?_<;>intro apr h36
  ·have qF:i<j:=by omega
   have kX:((i:Int)+1).toNat=i+1:=by omega
   obtain⟨ahC,aiN⟩:=ar4 (t:=t) (q:=q) (tl:=tl) (i:=i) J
   have ems:=aCl (t:=t) (q:=q) (tl:=tl) (i:=i) J
   have g8:=zi (bB _ (dg (i:=i) J))
   have nH:=zi (bB _ (dg (i:=i+1) J))
   have iF:=cO (1-t) (q.getD i 0)
   have dZ:=cO t (q.getD (i+1) 0)
   have tX:=azj (t:=t) (q:=q) (tl:=tl) (i:=i) J
   refine bC ?_
   refine aY 17 an ?_
   refine aR ?_
   simp only [t1,cx,Nat.zero_add,ahC]
   refine cp aq (gr _ _ J) ?_
   refine aA ?_
   simp only [kX,cx,Nat.zero_add,aiN]
   refine cp aq (gr _ _ J) ?_
   refine cp aq (iw _ _ J) ?_
   refine bC ?_
   exact jX
  ·obtain rfl:j=i:=by omega
   have eme:=aAZ (t:=t) (tl:=tl) hq
   refine bu ?_
   exact oM j (iO t q) (q.getD j 0 :: tl) (lo++[q.getD 0 0]) ⟨by rw [qJ];omega,by simp;omega,by simp;omega,by rw [List.append_assoc];exact hL,hH,agQ hC bB⟩
 ·obtain rfl:k=0:=by omega
  obtain rfl:q=[]:=List.eq_nil_of_length_eq_zero hq
  rw [vn,List.append_nil] at hL
  rw [qT] at hH
  refine dk ?_
  rw [<-hL,<-hH]
  exact ag8 [33,1000241] rfl rfl (eN ao rfl rfl rfl) rfl (eN ao rfl rfl (by simpa using xx.symm))
def ik (l:List Int) (k:Nat):LV:=.agg [.list 1 (l.map eW),.v (.int .i64 (k:Nat))]
theorem cW (l:List Int) (k:Nat):aG [ik l k]=true:=by simp [aG,ik,LV.pure,aW m9]
theorem af1 {a b:Int} (h:b≠0):dp .rem .i64 a b=some (.int .i64 (a.tmod b)):=by simp [dp,h]
theorem dfi:(default:Int)=0:=rfl
def dQ (l:List Int) (k:Nat) (n:Int):Int:=if k<l.length then l.getD k 0 % n else 0
def bD (l:List Int) (k:Nat):Nat:=if k<l.length then k+1 else k
theorem nc {l:List Int} {k:Nat} {n:Int} (h:0<n):0<=dQ l k n/\dQ l k n<n:=by
 unfold dQ;split
 ·exact⟨Int.emod_nonneg _ J,Int.emod_lt_of_pos _ h⟩
 ·omega
theorem aB8 {a m:Int} (hm:0<m):a % m=if a.tmod m<0 then a.tmod m+m else a.tmod m:=by
 have h1:=Int.emod_nonneg a (show m≠0 by omega)
 have h2:=Int.emod_lt_of_pos a hm
 rw [Int.tmod_eq_emod]
 split<;>split<;>omega
theorem aeQ {P:Program} {L:St} {a:Nat} {T:TypeId} {b sz:Nat} {x y:LV} {m:Bool} {n:Nat} {ag:Bool} {blk:a8} (h:L.slot a=.az b sz 0 0) (hb:L.heap b=some ⟨sz,[x],m⟩)
  (hx:x.au=sz) (bV:x.at 0 n ag=some x) (hT:bo P T n ag) (hi:cG L.heap x y) (h0:L.heap 0=some blk) (hm:blk.mt=true) (hp:aG blk.vals=true):vf P [.cell a T] L y blk :=
 ⟨[x],[y],L.heap,.cons ⟨b,sz,0,0,_,x,n,ag,h,hb,rfl,rfl,hx,bV,hT⟩ .nil,bK.le_refl _,.cons (.cf hi) .nil,h0,hm,hp,rfl⟩
theorem awe {P:Program} {L:St} {t:Nat} {x y:LV} {blk:a8} (bs:List Nat) (h0:bs.contains 0=false) (h:L.slot t=x) (hi:cG (L.bR bs).heap x y) (hb:(L.bR bs).heap 0=some blk) (hm:blk.mt=true) (hp:aG blk.vals=true):vf P [.tmp t] L y blk :=
 ⟨[x],[y],(L.bR bs).heap,.cons h .nil,pG bs h0,.cons (.cf hi) .nil,hb,hm,hp,rfl⟩
def mL (l:List Int) (k:Nat):Rat × Nat :=
 if dQ l (bD l k) 4=3 then(((dQ l k 13-6:Int):Rat)/((1+dQ l (bD l (bD l k)) 4:Int):Rat),bD l (bD l (bD l k))) else(((dQ l k 13-6:Int):Rat),bD l (bD l k))
theorem aaz {n d:Int} (h1:n.natAbs<4294967296) (h2:d.natAbs<4294967296):rl ((n:Rat)/(d:Rat))<=1:=by
 rw [<-ac5]
 have:=aaf (k:=1) (decide (n<0) != decide (d<0)) (by simpa using h1) (by simpa using h2)
 omega
theorem abj {n:Int} (h1:n.natAbs<4294967296):rl (n:Rat)<=1:=by
 have:=aaz (n:=n) (d:=1) h1 ai
 rwa [show ((1:Int):Rat)=1 from rfl,Rat.div_def,show (1:Rat)⁻¹=1 by grind,Rat.mul_one] at this
theorem atO {P:Program} {L:St} {t b sz:Nat} {blk:a8} (h:L.slot t=.az b sz 0 0) (hb:L.heap b=some blk) (hp:aG blk.vals=true):nt P [.tmp t] L (.az 1 sz 0 0) [blk] :=
 ⟨[.az b sz 0 0],[.az 1 sz 0 0],L.heap,[b],.cons h .nil,bK.le_refl _,.cons (.ptr (k:=0) rfl) .nil,by simp,rfl,fun k c hk=>by
  cases k with
  | zero=>simp at hk;subst hk;exact⟨blk,hb,rfl,hp⟩
  | succ k=>simp at hk,rfl⟩
theorem l8 {l:List Int} {k:Nat} (hl:l.length<=500) (hk:k<=500):bD l k<=500:=by unfold bD;split<;>omega
theorem acs {l:List Int} {k:Nat} (hl:l.length<=500) (hk:k<=500):(mL l k).2<=500:=by
 have h1:=l8 (l:=l) hl hk
 have h2:=l8 (l:=l) hl h1
 unfold mL;split
 ·exact l8 hl h2
 ·exact h2
theorem acH (l:List Int) (k b:Nat):(ik l k).kill b=ik l k:=LV.ki b _ (by simp [ik,LV.pure,aG,aW m9])
open H0 in
theorem aat (n m:Int) (hm:0<m) (dZ:m<=4611686018427387904):av Tryz.prog 12 [iL n,iL m] (iL (n % m)):=by
 have hE:=aB8 (a:=n) hm
 have hb:=Int.tmod_lt_of_pos n hm
 have ud:=Int.lt_tmod_of_pos n hm
 refine aN Tryz.func12 ?_
 refine bq ?_
 refine ak rfl (.bin rfl rfl (af1 J)) ?_
 refine bC ?_
 refine fT (fun L=>∃ (r:Int) (L1:St),(r=n % m)/\L=((St.mk L1.slot (hp [])).put (some 0) (iL r))) ?_ ?_
 ·refine aC rfl ?_ ?_<;>intro tf h9
  ·refine aJ ?_
   refine ak rfl wI ?_
   refine aJ ?_
   exact⟨n.tmod m+m,_,by rw [hE,if_pos h9],((aj (bz cl) cl)).symm⟩
  ·refine aL ?_
   exact⟨n.tmod m,_,by rw [hE,if_neg h9],((aj (bz cl) cl)).symm⟩
 ·rintro _ ⟨r,LC9,hr,rfl⟩
  refine bf ?_
  rw [<-hr]
  exact dF
open H0 in
theorem aBb (l:List Int) (h:l.length<=9223372036854775807):av Tryz.prog 8 [.list 1 (l.map eW)] (bL (decide (l.length<=500))):=by
 refine aN Tryz.func8 ?_
 refine dk ?_
 refine dA (x:=.v (.bool (decide (((l.length:Nat):Int)<=500)))) rfl ?_
 rw [show decide (((l.length:Nat):Int)<=500)=decide (l.length<=500) by rw [decide_eq_decide];omega]
 exact .pure rfl
open H0 in
theorem atK (l:List Int):mP Tryz.prog 22 [.list 1 (l.map eW)] (.az 1 2 0 0) [⟨2,[ik l 0],true⟩]:=by
 refine fnO Tryz.func22 ?_
 refine bf ?_
 refine ak rfl (.build (zs:=[.v (.slice none 0 0),.v (.int .i64 0)]) an7 awC (by simp only [List.forall_mem_cons];exact⟨⟨_,rfl,rfl,kU⟩,fun _ h=>by cases h⟩)) ?_
 refine eH rfl rfl (.box kU) ?_
 refine ax ?_
 exact atO rfl rfl (cW l 0)
namespace aor
theorem aH {p q:Prop} (k:q) (e:p=q:=by simp only [e1,e2,e3,e4,p1,p2,p3,q1,q2,q3,l1,t0,t1,r1,r2,r3,r4,Nat.zero_add,Nat.reduceMul,Nat.reduceAdd,b1,b2,b3,b4,b5,b6,i1,i2,i3,i4,i5,i6,Nat.reduceBEq,l1,ek1,dfi];exact rfl):p:=e.mpr k
end aor
open aor in
theorem oS (l:List Int) (k:Nat) (n:Int) (hl:l.length<=500) (hk:k<=500) (hn:0<n) (lr:n<=1000):lE Tryz.prog 31 ⟨2,[ik l k],true⟩ [.az 0 2 0 0,iL n] (iL (dQ l k n)) ⟨2,[ik l (bD l k)],true⟩:=by
 refine tD Tryz.func31 ?_
 have ek1:True:=trivial
 refine aR ?_
 refine aY 10 an ?_
 refine bu ?_
 refine aC rfl ?_ ?_<;>intro ot jS
 ·have rq:¬ k<l.length:=by omega
  refine aR ?_
  rw [dQ,if_neg rq,bD,if_neg rq]
  exact sB rfl (.cf (.pure rfl)) rfl rfl (cW l _)
 ·have rq:k<l.length:=by omega
  have ek1:(((k+1:Nat):Int)-1).toNat=k:=by omega
  refine bp ?_
  refine bI rfl (.store (y:=ik l k) (y':=ik l (k+1)) rfl rfl rfl rfl rfl rfl rfl T3 kU) ?_
  refine aJ ?_
  refine aY 14 an ?_
  refine bf ?_
  refine ak rfl (.bin rfl rfl (xI (by first | omega | (simp;omega)) (by first | omega | (simp;omega)))) ?_
  refine aJ ?_
  refine cp aq (aat _ _ J J) ?_
  refine ax ?_
  rw [dQ,if_pos rq,bD,if_pos rq]
  exact sB rfl (.cf (.pure rfl)) rfl rfl (cW l _)
namespace aqZ
theorem aH {p q:Prop} (k:q) (e:p=q:=by simp only [e1,e2,e3,e4,p1,p2,p3,q1,q2,q3,l1,t0,t1,r1,r2,r3,r4,Nat.zero_add,Nat.reduceMul,Nat.reduceAdd,b1,b2,b3,b4,b5,b6,i1,i2,i3,i4,i5,i6,Nat.reduceBEq,l1];exact rfl):p:=e.mpr k
end aqZ
open aqZ in
theorem ahx (l:List Int) (k:Nat) (hl:l.length<=500) (hk:k<=500):lE Tryz.prog 67 ⟨2,[ik l k],true⟩ [.az 0 2 0 0] (ae (mL l k).1) ⟨2,[ik l (mL l k).2],true⟩:=by
 have k1:=l8 (l:=l) hl hk
 have k2:=l8 (l:=l) hl k1
 have v8:=nc (l:=l) (k:=k) (n:=13) ai
 have ud:=nc (l:=l) (k:=bD l (bD l k)) (n:=4) ai
 refine tD Tryz.func67 ?_
 refine bf ?_
 refine uA 0 rfl rfl rfl (cW l _) (.cons .ptr (.cons (.cf (.pure rfl)) .nil)) .ptr (oS l k 13 J J ai ai) rfl (cW l _) ?_
 refine aR ?_
 refine uA 0 rfl rfl rfl (cW l _) (.cons .ptr (.cons (.cf (.pure rfl)) .nil)) .ptr (oS l (bD l k) 4 J J ai ai) rfl (cW l _) ?_
 refine aJ ?_
 refine aC rfl ?_ ?_<;>intro ni h8
 ·refine aJ ?_
  refine ak rfl tE ?_
  refine ar ?_
  refine uA 0 rfl rfl rfl (cW l _) (.cons .ptr (.cons (.cf (.pure rfl)) .nil)) .ptr (oS l (bD l (bD l k)) 4 J J ai ai) rfl (cW l _) ?_
  refine ak rfl wI ?_
  refine cp aq (aam (dQ l k 13-6) (1+dQ l (bD l (bD l k)) 4) J J J J J) ?_
  refine a6 ?_
  rw [mL,if_pos h8]
  exact aeQ rfl rfl (ao.au _) (n6 _) cK (.pure (ao.pure _)) rfl rfl (cW l _)
 ·refine a6 ?_
  refine ak rfl tE ?_
  refine cp aK (oJ (dQ l k 13-6) J J) ?_
  refine ax ?_
  rw [mL,if_neg h8]
  exact aeQ rfl rfl (ao.au _) (n6 _) cK (.pure (ao.pure _)) rfl rfl (cW l _)
theorem auZ (q:Rat):iD q≠1:=by rw [tk];split<;>omega
theorem amp (n:Nat) (h:(al n).length<=4611686018427387904):av Tryz.prog 147 [ba n] (bL true):=by
 have:=as2 (al n) h
 rwa [decide_eq_true] at this
 by_cases h0:(al n).length=0
 ·exact .inl h0
 ·exact .inr (acN (adk n) J)
theorem aoq {q:Rat} (h:0<(al (iD q)).length):Nat.gcd q.num.natAbs (iD q)=1:=by
 rw [ae0 h];exact q.reduced
end Go.Proofs.YtckppbhafancnaaGreat
namespace Go.Lg
end Go.Lg
namespace Go.Proofs.YtckppbhafancnaaGreat
open Go.Lg
theorem m10 {m:Nat} (h:m<10):(48+m % 10) % 4294967296=48+m:=by
 rw [Nat.mod_eq_of_lt h,Nat.mod_eq_of_lt (Nat.lt_of_lt_of_le (Nat.add_lt_add_left h 48) ai)]
namespace anY
theorem aH {p q:Prop} (k:q) (e:p=q:=by simp only [e1,e2,e3,e4,p1,p2,p3,q1,q2,q3,l1,t0,t1,r1,r2,r3,r4,Nat.zero_add,Nat.reduceMul,Nat.reduceAdd,b1,b2,b3,b4,b5,b6,i1,i2,i3,i4,i5,i6,Nat.reduceBEq,bU,fb,wV];exact rfl):p:=e.mpr k
end anY
open anY in
theorem aAK (q:Rat) (h:rl q<=1099511627776):av Tryz.prog 80 [ae q] (bL true):=by
 have a1:=kW q
 have a2:=mr q
 have a3:=lM q
 have aQ:=auZ q
 refine aN Tryz.func80 ?_
 refine bp ?_
 refine cp aK (amp _ J) ?_
 refine ax ?_
 refine cp aK (amp _ J) ?_
 refine bf ?_
 refine dy 18 rfl ?_ ?_<;>intro rD rZ
 ·refine bq ?_
  refine aC rfl ?_ ?_<;>intro adY yI
  ·exfalso
   have:=(x8 (n:=iD q) J).1
   omega
  ·refine bp ?_
   refine aC rfl ?_ ?_<;>intro zz xW
   ·refine aA ?_
    refine dy 33 rfl ?_ ?_<;>intro adx h33
    ·have hz:=we (q:=q) J
     subst hz
     refine bC ?_
     exact dF
    ·exfalso
     have hz:=we (q:=q) J
     subst hz
     revert adx
     decide
   ·refine bq ?_
    refine dy 43 rfl ?_ ?_<;>intro ajP h43
    ·refine a6 ?_
     first | simp only [bU,mb] | skip
     refine aR ?_
     exact dF
    ·have mb:=aoq (q:=q) J
     refine ax ?_
     refine cp aq (aio _ _ (cE _) (cE _) J J) ?_
     first | simp only [bU,mb] | skip
     refine cp aK (aaS (al 1) (cE _) ai) ?_
     refine aA ?_
     exact dF
 ·refine yS ?_
  refine aC rfl ?_ ?_<;>intro zz xW
  ·refine aA ?_
   refine dy 33 rfl ?_ ?_<;>intro adx h33
   ·have hz:=we (q:=q) J
    subst hz
    refine bC ?_
    exact dF
   ·exfalso
    have hz:=we (q:=q) J
    subst hz
    revert adx
    decide
  ·refine bq ?_
   refine dy 43 rfl ?_ ?_<;>intro ajP h43
   ·refine a6 ?_
    first | simp only [bU,mb] | skip
    refine aR ?_
    exact dF
   ·have mb:=aoq (q:=q) J
    refine ax ?_
    refine cp aq (aio _ _ (cE _) (cE _) J J) ?_
    first | simp only [bU,mb] | skip
    refine cp aK (aaS (al 1) (cE _) ai) ?_
    refine aA ?_
    exact dF
def HS (p:List Rat) (t:Rat):Prop:=∃ cc,rl (1-t)+rl t+1<=cc/\cc<=1073741824/\∀ x∈p,(rl x+cc)*2 ^ p.length<=1073741824
theorem acb (p:List Rat) (t:Rat) (h:HS p t):av Tryz.prog 176 [.list 3 (p.map ae),ae t] (.a7 [.list 3 ((nT p t).map ae),.list 3 ((lF p t).map ae)]):=by
 obtain⟨cc,h1,h2,h3⟩:=h
 exact auk p t cc h1 h2 h3
theorem HS.len {p:List Rat} {t:Rat} (h:HS p t):p.length<=30:=by
 obtain⟨cc,h1,h2,h3⟩:=h
 exact aj1 (Nat.le_trans (Nat.le_add_left 1 _) h1) h3
theorem HS.rl {p:List Rat} {t:Rat} (h:HS p t):rl t<=1073741824/\∀ x∈p,Go.Lg.rl x<=1073741824:=by
 obtain⟨cc,h1,h2,h3⟩:=h
 exact⟨J,fun x hx=>by have:=zi (h3 x hx);omega⟩
def cN (p:List Rat) (t:Rat):Rat:=(nT p t).getD (p.length-1) 0
def uh (p:List Rat) (a b:Rat):List Rat:=if 1-a≠0 then nT (lF p a) ((b-a)/(1-a)) else if b≠0 then lF (nT p b) (1/b) else p.reverse
theorem amm (p:List Rat) {x:Nat} (h:x<p.length):p.reverse.getD x 0=p.getD (p.length-1-x) 0:=by
 rw [List.getD_eq_getElem?_getD,List.getD_eq_getElem?_getD,List.getElem?_reverse h]
theorem yX (o:List Rat) (i x:Nat) (v:Rat) (hi:i<o.length):(o.set i v).getD x 0=if x=i then v else o.getD x 0:=by
 rw [List.getD_eq_getElem?_getD,List.getD_eq_getElem?_getD,List.getElem?_set]
 by_cases h:i=x
 ·subst h;simp [hi]
 ·rw [if_neg h,if_neg (fun e=>h e.symm)]
theorem axE {p o:List Rat} {i j n:Nat} (hp:p.length=n) (ho:o.length=n) (qF:i<j) (hj:j+i+1=n)
  (h:∀ x,x<n->o.getD x 0=if x<i\/n<=x+i then p.getD (n-1-x) 0 else p.getD x 0) :
  ∀ x,x<n->((o.set i (o.getD j 0)).set j (o.getD i 0)).getD x 0=if x<i+1\/n<=x+(i+1) then p.getD (n-1-x) 0 else p.getD x 0:=by
 intro x hx
 rw [yX _ _ _ _ bm,yX _ _ _ _ J,h j J,h i J,h x hx]
 by_cases h1:x=j
 ·subst h1
  rw [if_pos rfl,if_neg J,if_pos J,show n-1-x=i by omega]
 ·rw [if_neg h1]
  by_cases h2:x=i
  ·subst h2
   rw [if_pos rfl,if_neg J,if_pos J,show n-1-x=j by omega]
  ·rw [if_neg h2]
   by_cases h3:x<i\/n<=x+i
   ·rw [if_pos h3,if_pos J]
   ·rw [if_neg h3,if_neg J]
theorem au0 {p o:List Rat} {i n:Nat} (hp:p.length=n) (ho:o.length=n) (hi:n<=2*i+1) (h:∀ x,x<n->o.getD x 0=if x<i\/n<=x+i then p.getD (n-1-x) 0 else p.getD x 0):o=p.reverse:=by
 refine atT (by simp [hp,ho]) (fun x hx=>?_)
 rw [amm p J,h x J,hp]
 by_cases h3:x<i\/n<=x+i
 ·rw [if_pos h3]
 ·rw [if_neg h3];congr 1;omega
namespace amd
theorem aH {p q:Prop} (k:q) (e:p=q:=by simp only [e1,e2,e3,e4,p1,p2,p3,q1,q2,q3,l1,t0,t1,r1,r2,r3,r4,Nat.zero_add,Nat.reduceMul,Nat.reduceAdd,b1,b2,b3,b4,b5,b6,i1,i2,i3,i4,i5,i6,Nat.reduceBEq,cx,ej,hll];exact rfl):p:=e.mpr k
end amd
open amd in
theorem aee (p:List Rat) (t:Rat) (h:HS p t) (mO:0<p.length):av Tryz.prog 190 [.list 3 (p.map ae),ae t] (ae (cN p t)):=by
 have hll:=vX p t
 have hlen:=h.len
 have hj:(((p.length:Nat):Int)-1).toNat=p.length-1:=by omega
 refine aN Tryz.func190 ?_
 have ej:True:=trivial
 refine dk ?_
 refine aC rfl ?_ ?_<;>intro tf h9
 ·omega
 ·refine aA ?_
  refine cp aq (acb _ _ (by assumption)) ?_
  refine bu ?_
  refine ak rfl jm ?_
  refine aA ?_
  rw [cN]
  exact fk
open H0 in
theorem aif (a b:Rat) (h:rl a+rl b<=1099511627776):av Tryz.prog 177 [ae a,ae b] (ae (a/b)):=by
 refine aN Tryz.func177 ?_
 refine bp ?_
 refine cp aq (tT _ _ J) ?_
 refine gz ?_
 exact fk
def ll:Nat->Nat->Nat
 | _,0=>1
 | 0,_+1=>0
 | n+1,k+1=>ll n k+ll n (k+1)
theorem ajl:∀ {n k:Nat},n<k->ll n k=0
 | 0,k+1,_=>rfl
 | n+1,k+1,h=>by rw [ll,ajl J,ajl J]
theorem aq1:∀ n,ll n n=1
 | 0=>rfl
 | n+1=>by rw [ll,aq1 n,ajl J]
theorem aiM (n:Nat):ll n 0=1:=by cases n<;>rfl
theorem aiJ:∀ n k,ll n k<=2 ^ n
 | n,0=>by rw [aiM];exact Nat.pow_pos J
 | 0,k+1=>by simp [ll]
 | n+1,k+1=>by
   have h1:=aiJ n k
   have h2:=aiJ n (k+1)
   rw [ll,Nat.pow_succ];omega
theorem afb {n:Nat} (k:Nat) (h:n<=40):ll n k<=1099511627776:=Nat.le_trans (aiJ n k) (Nat.pow_le_pow_right (n:=2) J h)
def s9 (n:Nat):List Int:=(List.range (n+1)).map fun x=>(ll n x:Int)
def gX (n:Nat):List Rat:=(List.range (n+1)).map fun x=>((ll n x:Int):Rat)
theorem wR (n:Nat):(s9 n).length=n+1:=by simp [s9]
theorem vY (n:Nat):(gX n).length=n+1:=by simp [gX]
theorem ahu {n x:Nat} (h:x<=n):(s9 n).getD x 0=(ll n x:Int):=by
 rw [List.getD_eq_getElem?_getD,List.getElem?_eq_getElem (by rw [wR];omega)];simp [s9]
theorem atq {n x:Nat} (h:x<=n):(gX n).getD x 0=((ll n x:Int):Rat):=by
 rw [List.getD_eq_getElem?_getD,List.getElem?_eq_getElem (by rw [vY];omega)];simp [gX]
theorem avz {p q:List Int} (hl:p.length=q.length) (h:∀ i,i<p.length->p.getD i 0=q.getD i 0):p=q:=by
 apply List.ext_getElem hl
 intro i h1 h2
 have:=h i h1
 rw [List.getD_eq_getElem?_getD,List.getD_eq_getElem?_getD,List.getElem?_eq_getElem h1,List.getElem?_eq_getElem h2] at this
 exact this
theorem aAo (o:List Int) (i x:Nat) (v:Int) (hi:i<o.length):(o.set i v).getD x 0=if x=i then v else o.getD x 0:=by
 rw [List.getD_eq_getElem?_getD,List.getD_eq_getElem?_getD,List.getElem?_set]
 by_cases h:i=x
 ·subst h;simp [hi]
 ·rw [if_neg h,if_neg (fun e=>h e.symm)]
def abE (k i:Nat) (o:List Int):Prop:=o.length=k+2/\∀ x,x<k+2->o.getD x 0=if i<x/\x<=k then(ll (k+1) x:Int) else if x<=k then(ll k x:Int) else 1
theorem avY (k:Nat):abE k k (s9 k++[1]):=by
 refine⟨by simp [wR],fun x hx=>?_⟩
 rw [if_neg J]
 by_cases h:x<=k
 ·rw [if_pos h,afZ _ _ _ (by rw [wR];omega),ahu h]
 ·rw [if_neg h,aid _ _ _ (by rw [wR];omega),wR,show x-(k+1)=0 by omega];rfl
theorem asH {k i:Nat} {o:List Int} (h:abE k (i+1) o) (hi:i+1<=k):abE k i (o.set (i+1) (o.getD (i+1) 0+o.getD i 0)):=by
 obtain⟨h1,h2⟩:=h
 refine⟨by simp [h1],fun x hx=>?_⟩
 rw [aAo _ _ _ _ J]
 by_cases wc:x=i+1
 ·subst wc
  rw [if_pos rfl,if_pos ⟨J,hi⟩,h2 _ J,h2 _ J,if_neg J,if_pos J,if_neg J,if_pos J,ll]
  simp;omega
 ·rw [if_neg wc,h2 x hx]
  by_cases h3:i+1<x/\x<=k
  ·rw [if_pos h3,if_pos ⟨J,h3.2⟩]
  ·rw [if_neg h3,if_neg (show ¬ (i<x/\x<=k) by omega)]
theorem aBY {k:Nat} {o:List Int} (h:abE k 0 o):o=s9 (k+1):=by
 obtain⟨h1,h2⟩:=h
 refine avz (by rw [wR,h1]) (fun x hx=>?_)
 rw [h2 x J,ahu J]
 by_cases h3:0<x/\x<=k
 ·rw [if_pos h3]
 ·rw [if_neg h3]
  by_cases h4:x<=k
  ·obtain rfl:x=0:=by omega
   rw [if_pos h4,aiM,aiM]
  ·obtain rfl:x=k+1:=by omega
   rw [if_neg h4,aq1];rfl
theorem anP {k i:Nat} {o:List Int} (h:abE k i o) (hk:k<=39) {x:Nat} (hx:x<k+2):0<=o.getD x 0/\o.getD x 0<=1099511627776:=by
 rw [h.2 x hx]
 have h1:=afb (n:=k+1) x J
 have h2:=afb (n:=k) x J
 split
 ·omega
 ·split<;>omega
theorem yA {n:Nat} (hn:n<=40):∀ x∈gX n,rl x<=2:=by
 intro x hx
 simp only [gX,List.mem_map] at hx
 obtain⟨k,_,rfl⟩:=hx
 have h:=afb k hn
 rw [<-adH]
 have:=aaf (k:=2) (decide ((ll n k:Int)<0)) (n:=(ll n k:Int).natAbs) (d:=1) J ai
 omega
theorem zj {o p:List Rat} {k:Nat} {v:Rat} (hk:k<p.length) (cJ:o.length=p.length) (ht:o.take k=p.take k) (hv:v=p.getD k 0):(o.set k v).take (k+1)=p.take (k+1):=by subst hv;exact aml hk cJ ht
theorem aA9 (n:Nat) (f:Int->LV):((s9 n).map f).take (n+1)=(s9 n).map f:=by rw [List.take_of_length_le (by simp [wR])]
theorem aiG {a b:List Rat} (h:a.length=b.length) (h2:∀ k,k<a.length->a.getD k 0=b.getD k 0):a=b:=by
 refine List.ext_getElem h fun k h1 h3=>?_
 have:=h2 k h1
 rw [List.getD_eq_getElem?_getD,List.getD_eq_getElem?_getD,List.getElem?_eq_getElem h1,List.getElem?_eq_getElem h3] at this
 exact this
theorem ga {o:List Rat} {S:Nat} (h1:1<=S) (h:∀ x∈o,rl x<=S) (k:Nat):rl (o.getD k 0)<=S:=by
 rcases Nat.lt_or_ge k o.length with hk | hk
 ·exact h _ (dg hk)
 ·rw [List.getD_eq_getElem?_getD,List.getElem?_eq_none hk];show rl 0<=S;rw [show rl 0=1 from rfl];exact h1
theorem ayt {o:List Rat} {S:Nat} {i:Nat} {v:Rat} (h:∀ x∈o,rl x<=S) (hv:rl v<=S):∀ x∈o.set i v,rl x<=S:=fun x hx=>by
 rcases List.mem_or_eq_of_mem_set hx with h1 | h1
 ·exact h x h1
 ·rw [h1];exact hv
namespace ap8
theorem aH {p q:Prop} (k:q) (e:p=q:=by simp only [e1,e2,e3,e4,p1,p2,p3,q1,q2,q3,l1,t0,t1,r1,r2,r3,r4,Nat.zero_add,Nat.reduceMul,Nat.reduceAdd,b1,b2,b3,b4,b5,b6,i1,i2,i3,i4,i5,i6,Nat.reduceBEq,dfi,cx,aA9,List.append_nil,wR,ek1,ek2,egr,k5,kI,iz,List.length_cons,List.length_nil,aP m9,aP ao,LV.kill,bN];exact rfl):p:=e.mpr k
end ap8
open ap8 in
theorem agw (n:Nat) (hn:n<=40):av Tryz.prog 291 [ah n] (.list 3 ((gX n).map ae)):=by
 refine aN Tryz.func291 ?_
 have ek1:True:=trivial
 have ek2:True:=trivial
 have egr:True:=trivial
 refine mV ?_
 refine jo (aw.mv (t:=3) (b:=8) 14 ai ai ai rfl rfl rfl) ?_
 refine dJ (fun(k:Nat) L=>((((St.mk L.slot (hp [(14,⟨1,(s9 k).map eW,true⟩)])).put (some 3) (.ref 14 1 0 (k+1))).put (some 9) (ah n)).put (some 10) (ah k))) (fun k=>k<=n) (fun k=>n-k) 0 (Nat.zero_le _) ?_
 rintro k L1 hk
 refine aA ?_
 refine aC rfl ?_ ?_<;>intro aeE zY
 ·have hkn:k<n:=by omega
  have ek2:((((k+1+1:Nat)):Int)-2)=(k:Int):=by omega
  refine bf ?_
  refine bI rfl (.app (news:=[eW 1]) rfl rfl rfl rfl rfl (by simp [wR]) (.inl rfl) ai Tryz.underlying123 Tryz.underlying123 Z2 T2 rfl B2 (.inl ⟨13,0,_,rfl,by decide,rfl,rfl,by simp,rfl,rfl⟩) bm bm ai) ?_
  refine ax ?_
  refine cq (aw.kill _ 13) ?_
  refine aR ?_
  refine jP (fun(i:Nat) (o:List Int) L=>(((((St.mk L.slot (hp [(14,⟨1,o.map eW,true⟩)])).put (some 3) (.ref 14 1 0 (k+1+1))).put (some 4) (ah i)).put (some 9) (ah n)).put (some 10) (ah k))) (fun i o=>i<=k/\abE k i o) (fun i o=>i) k (s9 k++[1]) ⟨Nat.le_refl _,avY k⟩ ?_
  rintro i o L2 ⟨hi,hP⟩
  refine aR ?_
  refine aC rfl ?_ ?_<;>intro aeg h19
  ·obtain⟨j,rfl⟩:∃ j,i=j+1:=⟨i-1,J⟩
   have ek1:(((j+1:Nat):Int)-1)=(j:Int):=by omega
   have cJ:=hP.1
   have v8:=anP hP J (x:=j+1) J
   have ud:=anP hP J (x:=j) J
   refine ax ?_
   refine aY 11 an ?_
   refine yS ?_
   exact fZ j (o.set (j+1) (o.getD (j+1) 0+o.getD j 0)) ⟨J,asH hP hi⟩
  ·obtain rfl:i=0:=by omega
   have hE:=aBY hP
   subst hE
   refine bp ?_
   exact iG (k+1) J
 ·obtain rfl:n=k:=by omega
  refine bq ?_
  refine eH rfl rfl (.kM (n:=n+1) (m:=n+1) ml ml om om om) ?_
  refine bu ?_
  refine jP (fun(i:Nat) (w:List Rat) L=>(((((St.mk L.slot (hp [(14,⟨1,(s9 n).map eW,true⟩),(36,⟨3,w.map ae,true⟩)])).put (some 5) (.ref 36 3 0 (n+1))).put (some 37) (.ref 14 1 0 (n+1))).put (some 38) (ah (n+1))).put (some 39) (ah i))) (fun i w=>i<=n+1/\w.length=n+1/\w.take i=(gX n).take i) (fun i w=>n+1-i) 0 (List.replicate (n+1) 0) ⟨Nat.zero_le _,by simp,rfl⟩ ?_
  rintro i w L3 ⟨hi,gM,jl⟩
  refine aA ?_
  refine aC rfl ?_ ?_<;>intro ag7 tY
  ·have sv:i<=n:=by omega
   have egr:=ahu sv
   have lS:=afb i hn
   refine im ?_
   refine cp aK (uc (ll n i:Int) J J) ?_
   refine bC ?_
   exact fZ (i+1) (w.set i ((ll n i:Int):Rat)) ⟨J,by simp [gM],zj (by rw [vY];omega) (by rw [vY,gM]) jl (atq J).symm⟩
  ·obtain rfl:i=n+1:=by omega
   have hE:w=gX n:=by
    rw [List.take_of_length_le J,List.take_of_length_le (by rw [vY];omega)] at jl
    exact jl
   subst hE
   refine bu ?_
   exact mz [36] rfl rfl (eN ao rfl rfl (by rw [vY]))
theorem ue {a b:Nat} (h:a+b<=9223372036854775807):dp .add .i64 (a:Nat) (b:Nat)=some (.int .i64 ((a+b:Nat):Int)):=by
 rw [o6 J J];congr 2
theorem ace {a:Nat} (h:a+1<=9223372036854775807):dp .add .i64 (a:Nat) 1=some (.int .i64 ((a+1:Nat):Int)):=by
 rw [o6 J J];congr 2
theorem awZ {o:List Rat} {i:Nat} {v:Rat} (h:i<o.length):(o.set i v).getD i 0=v:=by rw [yX _ _ _ _ h,if_pos rfl]
def vQ (x:Rat) (i:Nat) (y:List Rat) (q:List Rat) (o:List Rat):Nat->List Rat
 | 0=>o
 | j+1=>(vQ x i y q o j).set (i+j) ((vQ x i y q o j).getD (i+j) 0+x*(y.getD j 0*q.getD j 0))
def allM (p q:List Rat):Nat->List Rat
 | 0=>List.replicate (p.length-1+(q.length-1)+1) 0
 | i+1=>vQ ((gX (p.length-1)).getD i 0*p.getD i 0) i (gX (q.length-1)) q (allM p q i) q.length
def lX (p q:List Rat):List Rat:=(List.range (p.length-1+(q.length-1)+1)).map fun k=>(allM p q p.length).getD k 0/(gX (p.length-1+(q.length-1))).getD k 0
theorem aeX (x:Rat) (i:Nat) (y q o:List Rat):∀ j,(vQ x i y q o j).length=o.length
 | 0=>rfl
 | j+1=>by simp [vQ,aeX x i y q o j]
theorem adP (p q:List Rat):∀ i,(allM p q i).length=p.length-1+(q.length-1)+1
 | 0=>by simp [allM]
 | i+1=>by rw [allM,aeX,adP p q i]
theorem ya (p q:List Rat):(lX p q).length=p.length-1+(q.length-1)+1:=by simp [lX]
theorem auy {p q:List Rat} {k:Nat} (h:k<p.length-1+(q.length-1)+1):(lX p q).getD k 0=(allM p q p.length).getD k 0/(gX (p.length-1+(q.length-1))).getD k 0:=by
 rw [List.getD_eq_getElem?_getD,List.getElem?_eq_getElem (by rw [ya];exact h)];simp [lX]
theorem ajn {x:Rat} {i R S:Nat} {y q o:List Rat} (hS:1<=S) (ho:∀ v∈o,rl v<=S) (hx:rl x<=R+2) (hy:∀ v∈y,rl v<=2) (hq:∀ v∈q,rl v<=R) (hR:1<=R):∀ j,∀ v∈vQ x i y q o j,rl v<=S+j*(2*R+5)
 | 0,v,hv=>by have:=ho v hv;omega
 | j+1,v,hv=>by
   have ih:=ajn (i:=i) hS ho hx hy hq hR j
   refine ayt (S:=S+(j+1)*(2*R+5)) (fun w hw=>?_) ?_ v hv
   ·have:=ih w hw;rw [Nat.succ_mul];omega
   ·have h1:=ga J ih (i+j)
    have h2:=ga J hy j
    have h3:=ga J hq j
    have e1:=cO (y.getD j 0) (q.getD j 0)
    have e2:=cO x (y.getD j 0*q.getD j 0)
    have e3:=jq ((vQ x i y q o j).getD (i+j) 0) (x*(y.getD j 0*q.getD j 0))
    rw [Nat.succ_mul];omega
theorem abQ {p q:List Rat} {R:Nat} (fv:p.length<=41) (iK:q.length<=41) (hR:1<=R) (jx:∀ v∈p,rl v<=R) (hq':∀ v∈q,rl v<=R):∀ i,∀ v∈allM p q i,rl v<=1+i*(q.length*(2*R+5))
 | 0,v,hv=>by
   simp only [allM,List.mem_replicate] at hv
   rw [hv.2];show rl 0<=_;rw [show rl 0=1 from rfl];omega
 | i+1,v,hv=>by
   have ih:=abQ fv iK hR jx hq' i
   have hx:rl ((gX (p.length-1)).getD i 0*p.getD i 0)<=R+2:=by
    have h1:=ga J (yA (n:=p.length-1) J) i
    have h2:=ga hR jx i
    have:=cO ((gX (p.length-1)).getD i 0) (p.getD i 0)
    omega
   have:=ajn J ih hx (yA (n:=q.length-1) J) hq' hR q.length v hv
   rw [Nat.succ_mul];omega
theorem amM {i j l R:Nat} (hi:i<=41) (hl:l<=41) (hj:j<=l) (hR:R<=67108864):1+i*(l*(2*R+5))+j*(2*R+5)<=231122948107:=by
 have h1:=Nat.mul_le_mul hl (show 2*R+5<=134217733 by omega)
 have h2:=Nat.mul_le_mul hi h1
 have h3:=Nat.mul_le_mul (show j<=41 by omega) (show 2*R+5<=134217733 by omega)
 omega
def gh (p:List Rat):List Rat:=if p.length<2 then [0] else(List.range (p.length-1)).map fun i=>(((p.length-1:Nat):Int):Rat)*(p.getD (i+1) 0-p.getD i 0)
theorem aaB {p:List Rat}:(gh p).length=if p.length<2 then 1 else p.length-1:=by unfold gh;split<;>simp
theorem arV {p:List Rat} {i:Nat} (h:i+1<p.length):(gh p).getD i 0=(((p.length-1:Nat):Int):Rat)*(p.getD (i+1) 0-p.getD i 0):=by
 unfold gh
 rw [if_neg J,List.getD_eq_getElem?_getD,List.getElem?_eq_getElem bm];simp
theorem ad4 {p:List Rat} {R:Nat} (hR:1<=R) (hl:p.length<=1000) (h:∀ x∈p,rl x<=R):∀ x∈gh p,rl x<=2*R+4:=by
 intro x hx
 obtain⟨k,hk,rfl⟩:=ac8 hx
 rw [aaB] at hk
 by_cases h2:p.length<2
 ·rw [if_pos h2] at hk
  have:gh p=[0]:=by unfold gh;rw [if_pos h2]
  rw [this]
  obtain rfl:k=0:=by omega
  show rl 0<=_
  rw [show rl 0=1 from rfl];omega
 ·rw [if_neg h2] at hk
  rw [arV J]
  have h3:=abj (n:=((p.length-1:Nat):Int)) J
  have h4:=h _ (dg (i:=k) J)
  have h5:=h _ (dg (i:=k+1) J)
  have h6:=iq (p.getD (k+1) 0) (p.getD k 0)
  have h7:=cO (((p.length-1:Nat):Int):Rat) (p.getD (k+1) 0-p.getD k 0)
  omega
namespace aqT
theorem aH {p q:Prop} (k:q) (e:p=q:=by simp only [e1,e2,e3,e4,p1,p2,p3,q1,q2,q3,l1,t0,t1,r1,r2,r3,r4,Nat.zero_add,Nat.reduceMul,Nat.reduceAdd,b1,b2,b3,b4,b5,b6,i1,i2,i3,i4,i5,i6,Nat.reduceBEq,cx,List.length_set,aP ao,cH,dO,LV.kill,bN];exact rfl):p:=e.mpr k
end aqT
open aqT in
theorem aen (p:List Rat) (hl:p.length<=1000) (ma:∀ x∈p,rl x<=1073741824):av Tryz.prog 250 [.list 3 (p.map ae)] (.list 3 ((gh p).map ae)):=by
 refine aN Tryz.func250 ?_
 refine dj ?_
 refine aC rfl ?_ ?_<;>intro ni h8
 ·have hE:gh p=[0]:=by unfold gh;rw [if_pos J]
  refine aL ?_
  refine ak rfl ob ?_
  refine aA ?_
  rw [hE]
  exact mz [10] rfl rfl (eN ao rfl rfl rfl)
 ·have kT:(gh p).length=p.length-1:=by rw [aaB,if_neg J]
  refine aA ?_
  refine ak rfl jm ?_
  refine cp aK (uc ((p.length-1:Nat):Int) J J) ?_
  refine bf ?_
  refine ak rfl jm ?_
  refine eH rfl rfl (.kM (n:=(p.length-1)) (m:=(p.length-1)) ml ml om om om) ?_
  refine bu ?_
  refine jP (fun(i:Nat) (w:List Rat) L=>(((((((St.mk L.slot (hp [(3,⟨3,[ae (((p.length-1:Nat):Int):Rat)],true⟩),(18,⟨3,w.map ae,true⟩)])).put (some 0) (.list 3 (p.map ae))).put (some 3) (.az 3 3 0 0)).put (some 4) (.ref 18 3 0 (p.length-1))).put (some 19) (.ref 18 3 0 (p.length-1))).put (some 20) (ah (p.length-1))).put (some 21) (ah i))) (fun i w=>i<=p.length-1/\w.length=p.length-1/\w.take i=(gh p).take i) (fun i w=>p.length-1-i) 0 (List.replicate (p.length-1) 0) ⟨Nat.zero_le _,by simp,rfl⟩ ?_
  rintro i w L1 ⟨hi,gM,jl⟩
  refine aA ?_
  refine aC rfl ?_ ?_<;>intro adD h22
  ·have dB:i<p.length-1:=by omega
   have g8:=ma _ (dg (i:=i) J)
   have nH:=ma _ (dg (i:=i+1) J)
   have xt:=iq (p.getD (i+1) 0) (p.getD i 0)
   have hr4:=abj (n:=((p.length-1:Nat):Int)) J
   refine bC ?_
   refine aY 15 an ?_
   refine a6 ?_
   refine ak rfl cB ?_
   refine aA ?_
   refine cp aq (py (p.getD (i+1) 0) (p.getD i 0) J) ?_
   refine cp aq (gr (((p.length-1:Nat):Int):Rat) (p.getD (i+1) 0-p.getD i 0) J) ?_
   refine bC ?_
   exact fZ (i+1) (w.set i ((((p.length-1:Nat):Int):Rat)*(p.getD (i+1) 0-p.getD i 0))) ⟨J,by simp [gM],zj J J jl (arV J).symm⟩
  ·obtain rfl:i=p.length-1:=by omega
   have hE:w=gh p:=by
    rw [List.take_of_length_le J,List.take_of_length_le J] at jl
    exact jl
   subst hE
   refine bu ?_
   exact mz [18] rfl rfl (eN ao rfl rfl kT.symm)
end Go.Proofs.YtckppbhafancnaaGreat
namespace Go.Lg
theorem aw.cf {L:St} {t:Nat} {x y:LV} (bs:List Nat) (h0:bs.contains 0=false) (h:L.slot t=x) (hi:cG (L.bR bs).heap x y):aw L ((L.bR bs).put (some t) y):=by
 rintro n W X Z0 a w ⟨dL,bB,μ,Z,hc,hr⟩
 obtain⟨Z1,k1,k2⟩:=hc.tC (pG bs h0)
 refine⟨dL,bB,μ,Z1,by rw [jT];exact k1,fun s=>?_⟩
 have dt:Frame Z μ w w:=⟨fun _ _=>rfl,fun _ id _ c _ _ hh=>⟨c,hh,rfl⟩⟩
 have hs:=(hr s).mono k2 (fun _ _ h=>h) dt
 rw [fO]
 split
 ·rename_i cQ
  subst cQ
  rw [h] at hs
  exact a9.pE (LV.dY hi.lay.2.2) (hi.z6 k1 hs)
 ·exact hs
end Go.Lg
namespace Go.Proofs.YtckppbhafancnaaGreat
open Go.Lg
theorem awQ {a:Rat} (h:0<a):cM a=1:=by unfold cM;rw [if_neg cA,if_neg cA]
theorem aBS {a:Rat} (h:a<0):cM a=-1:=by unfold cM;rw [if_neg cA,if_pos h]
theorem ar5 (a:Rat):(a=0/\cM a=0)\/(0<a/\cM a=1)\/(a<0/\cM a=-1):=by
 by_cases h:a=0
 ·exact .inl ⟨h,by rw [h];rfl⟩
 ·by_cases h1:a<0
  ·exact .inr (.inr ⟨h1,aBS h1⟩)
  ·have:0<a:=by grind
   exact .inr (.inl ⟨this,awQ this⟩)
theorem aok {a:Rat} (h:cM a≠0):a≠0:=fun e=>h (by rw [e];rfl)
theorem axM {a b:Int} (h:b≠0) (h1:-9223372036854775808<=a.tdiv b) (h2:a.tdiv b<=9223372036854775807):dp .quo .i64 a b=some (.int .i64 (a.tdiv b)):=by
 simp only [dp];rw [if_neg h,IntWalk.i64_in _ ⟨h1,h2⟩]
def fE (a b:Rat):Nat->(Nat->Rat)->Rat
 | 0,f=>f 0
 | n+1,f=>fE a b n (fun i=>a*f i+b*f (i+1))
theorem qm (a b:Rat):∀ (n:Nat) (f g:Nat->Rat),(∀ i,i<=n->f i=g i)->fE a b n f=fE a b n g
 | 0,f,g,h=>h 0 (Nat.le_refl _)
 | n+1,f,g,h=>qm a b n _ _ fun i hi=>by rw [h i J,h (i+1) J]
theorem aba (a b c d:Rat):∀ (n:Nat) (f g:Nat->Rat),fE a b n (fun i=>c*f i+d*g i)=c*fE a b n f+d*fE a b n g
 | 0,f,g=>rfl
 | n+1,f,g=>by
  rw [fE,fE,fE,<-aba a b c d n]
  congr 1;funext i;grind
theorem ah7 (a b:Rat) (n:Nat) (f:Nat->Rat):fE a b (n+1) f=a*fE a b n f+b*fE a b n (fun i=>f (i+1)):=aba a b a b n f (fun i=>f (i+1))
theorem ajz (a b u v:Rat):∀ (n:Nat) (f:Nat->Rat),fE a b n (fun k=>fE u v k f)=fE (a+b*u) (b*v) n f
 | 0,f=>rfl
 | n+1,f=>by
  rw [ah7,ajz a b u v n f]
  have e:=ajz a b u v n (fun i=>u*f i+v*f (i+1))
  have e2:(fun i=>fE u v (i+1) f)=(fun k=>fE u v k (fun i=>u*f i+v*f (i+1))):=rfl
  rw [e2,e,<-aba]
  show fE _ _ n _=fE _ _ n _
  congr 1;funext i;grind
theorem ahS (t:Rat):∀ (k:Nat) (q:List Rat),k<q.length->(vn t q.length q).getD k 0=fE (1-t) t k (fun i=>q.getD i 0)
 | 0,q,h=>by
  obtain⟨m,hm⟩:∃ m,q.length=m+1:=⟨q.length-1,J⟩
  rw [hm];rfl
 | k+1,q,h=>by
  obtain⟨m,hm⟩:∃ m,q.length=m+1:=⟨q.length-1,J⟩
  have hs:(iO t q).length=m:=by rw [qJ];omega
  have:=ahS t k (iO t q) J
  rw [hs] at this
  rw [hm,vn,List.getD_cons_succ,this,fE]
  exact qm _ _ _ _ _ fun i hi=>acJ t q i J
theorem sN {p:List Rat} {t:Rat} (h:0<p.length):cN p t=fE (1-t) t (p.length-1) (fun i=>p.getD i 0):=ahS t _ p J
theorem ah8:∀ (n:Nat) (f:Nat->Rat),fE 0 1 n f=f n
 | 0,f=>rfl
 | n+1,f=>by rw [fE,ah8 n];grind
theorem ajv {t:Rat} {C M:Nat} (hC:rl (1-t)+rl t+1<=C):∀ (k:Nat) (q:List Rat),q.length=k->(∀ x∈q,(rl x+C)*2 ^ k<=M)->∀ x∈vn t k q,rl x+C<=M
 | 0,q,_,_,x,hx=>by cases hx
 | k+1,q,hq,h,x,hx=>by
  rw [vn,List.mem_cons] at hx
  rcases hx with rfl | hx
  ·exact zi (h _ (dg J))
  ·exact ajv hC k (iO t q) (by rw [qJ];omega) (agQ hC h) x hx
theorem arC {t:Rat} {C M:Nat} (hC:rl (1-t)+rl t+1<=C):∀ (k:Nat) (q tl:List Rat),q.length=k->(∀ x∈q,(rl x+C)*2 ^ k<=M)->(∀ x∈tl,rl x+C<=M)->∀ x∈qT t k q tl,rl x+C<=M
 | 0,q,tl,hq,_,h2,x,hx=>by
  obtain rfl:q=[]:=List.eq_nil_of_length_eq_zero hq
  exact h2 x hx
 | k+1,q,tl,hq,h,h2,x,hx=>by
  refine arC hC k (iO t q) _ (by rw [qJ];omega) (agQ hC h) (fun y hy=>?_) x hx
  rcases List.mem_cons.1 hy with rfl | hy
  ·exact zi (h _ (dg J))
  ·exact h2 y hy
theorem HS.lo {p:List Rat} {t:Rat} (h:HS p t):∀ x∈nT p t,Go.Lg.rl x<=1073741824:=fun x hx=>by
 obtain⟨cc,h1,h2,h3⟩:=h
 have:=ajv h1 p.length p rfl h3 x hx
 omega
theorem HS.hi {p:List Rat} {t:Rat} (h:HS p t):∀ x∈lF p t,Go.Lg.rl x<=1073741824:=fun x hx=>by
 obtain⟨cc,h1,h2,h3⟩:=h
 have:=arC h1 p.length p [] rfl h3 (fun y hy=>by cases hy) x hx
 omega
theorem HS.ev {p:List Rat} {t:Rat} (h:HS p t):Go.Lg.rl (cN p t)<=1073741824:=ga ai h.lo _
theorem aiO (a b:Rat):∀ (n:Nat) (f:Nat->Rat),fE a b n f=fE b a n (fun i=>f (n-i))
 | 0,f=>rfl
 | n+1,f=>by
  rw [ah7,ah7,aiO a b n f,aiO a b n (fun i=>f (i+1))]
  have e1:fE b a n (fun i=>f (n-i+1))=fE b a n (fun i=>f (n+1-i)):=qm _ _ _ _ _ fun i hi=>by congr 1;omega
  have e2:(fun i=>f (n+1-(i+1)))=fun i=>f (n-i):=by funext i;congr 1;omega
  rw [e1,e2];grind
theorem alN (t:Rat):∀ (k:Nat) (q tl:List Rat),q.length=k->∀ j,j<k->(qT t k q tl).getD j 0=fE (1-t) t (k-1-j) (fun i=>q.getD (j+i) 0)
 | 0,_,_,_,j,h=>by omega
 | k+1,q,tl,hq,j,hj=>by
  rw [qT]
  have hs:(iO t q).length=k:=by rw [qJ];omega
  rcases Nat.lt_or_ge j k with h | h
  ·rw [alN t k _ _ hs j h,show k+1-1-j=k-1-j+1 by omega,fE]
   exact qm _ _ _ _ _ fun i hi=>by rw [acJ t q _ J];rfl
  ·obtain rfl:j=k:=by omega
   rw [show j+1-1-j=0 by omega]
   have hE:∀ (m:Nat) (q' tl':List Rat),q'.length=m->∀ x,(qT t m q' tl').getD (m+x) 0=tl'.getD x 0:=by
    intro m
    induction m with
    | zero=>intro q' tl' h x;obtain rfl:q'=[]:=List.eq_nil_of_length_eq_zero h;rw [Nat.zero_add];rfl
    | succ m ih =>
     intro q' tl' h x
     rw [qT,show m+1+x=m+(x+1) by omega,ih _ _ (by rw [qJ];omega)];rfl
   have:=hE j (iO t q) (q.getD j 0 :: tl) hs 0
   rw [Nat.add_zero] at this
   rw [this];rfl
theorem afg {p:List Rat} {j:Nat} (h:j<p.length) (t:Rat):(lF p t).getD j 0=fE (1-t) t (p.length-1-j) (fun i=>p.getD (j+i) 0):=alN t _ p [] rfl j h
theorem adQ {p:List Rat} {j:Nat} (h:j<p.length) (t:Rat):(nT p t).getD j 0=fE (1-t) t j (fun i=>p.getD i 0):=ahS t j p h
def dH (p:List Rat) (a b:Rat):List Rat:=if a=1 then nT (lF p.reverse 0) ((1-b-0)/(1-0)) else nT (lF p a) ((b-a)/(1-a))
theorem amn:∀ (n:Nat) (f:Nat->Rat),fE 1 0 n f=f 0
 | 0,f=>rfl
 | n+1,f=>by rw [fE,amn n];grind
theorem atn (p:List Rat):lF p 0=p:=by
 refine aiG (vU p 0) fun j hj=>?_
 rw [vU] at hj
 rw [afg hj,show (1:Rat)-0=1 from by grind,amn];rfl
theorem amj (p:List Rat) (a b:Rat):uh p a b=dH p a b:=by
 unfold uh dH
 by_cases ha:a=1
 ·subst ha
  rw [if_neg cA,if_pos rfl,atn]
  have e0:(1-b-0)/(1-0)=1-b:=by rw [show (1:Rat)-0=1 by grind,show (1:Rat)-b-0=1-b by grind,Rat.div_def,Rat.inv_eq_of_mul_eq_one (show (1:Rat)*1=1 by grind),Rat.mul_one]
  rw [e0]
  have hr:p.reverse.length=p.length:=List.length_reverse
  by_cases hb:b=0
  ·subst hb
   rw [if_neg cA]
   refine aiG (by rw [vX]) fun j hj=>?_
   rw [adQ hj,show (1:Rat)-(1-0)=0 by grind,show (1:Rat)-0=1 by grind,ah8]
  ·rw [if_pos hb]
   refine aiG (by rw [vU,vX,vX,hr]) fun j hj=>?_
   rw [vU,vX] at hj
   rw [afg (by rw [vX];exact hj),vX,adQ (by rw [hr];exact hj)]
   have e1:fE (1-1/b) (1/b) (p.length-1-j) (fun i=>(nT p b).getD (j+i) 0)=fE (1-1/b) (1/b) (p.length-1-j) (fun k=>fE (1-b) b k (fun i=>fE (1-b) b j (fun x=>p.getD (i+x) 0))):=by
    refine qm _ _ _ _ _ fun i hi=>?_
    rw [adQ J]
    have asl:∀ (i j:Nat) (f:Nat->Rat),fE (1-b) b (j+i) f=fE (1-b) b i (fun y=>fE (1-b) b j (fun x=>f (y+x))):=by
     intro i
     induction i with
     | zero=>intro j f;show fE (1-b) b j f=fE (1-b) b j (fun x=>f (0+x));simp only [Nat.zero_add]
     | succ i ih =>
      intro j f
      rw [show j+(i+1)=(j+i)+1 by omega,fE,ih j,fE]
      refine qm _ _ _ _ _ fun y hy=>?_
      have:=aba (1-b) b (1-b) b j (fun x=>f (y+x)) (fun x=>f (y+x+1))
      rw [this]
      congr 3
      funext x;congr 1;omega
    exact asl i j _
   have hi:=Rat.mul_inv_cancel _ hb
   rw [e1,ajz,show (1-1/b)+(1/b)*(1-b)=0 by rw [Rat.div_def];grind,show 1/b*b=1 by rw [Rat.div_def];grind,ah8,aiO]
   rw [show (1:Rat)-(1-b)=b by grind]
   refine qm _ _ _ _ _ fun i hi=>?_
   rw [amm p J]
   congr 1;omega
 ·rw [if_pos cA,if_neg ha]
theorem azI (p:List Rat) (a b:Rat):(uh p a b).length=p.length:=by
 unfold uh
 split
 ·rw [vX,vU]
 ·split
  ·rw [vU,vX]
  ·simp
def gj (a b:Rat):Rat:=if b<a then b else a
def fQ (a b:Rat):Rat:=if a<b then b else a
def mM (s:Rat × Rat) (t:Rat × Rat):Rat × Rat:=(gj s.1 t.1,fQ s.2 t.2)
def l7 (p:List Rat):Nat->Rat × Rat
 | 0=>(0,0)
 | k+1=>mM (if k=0 then(p.getD k 0,p.getD k 0) else l7 p k) (p.getD k 0,p.getD k 0)
def gy (p:List Rat):Rat × Rat:=l7 p p.length
theorem ann (a:Rat):gj a a=a:=by unfold gj;split<;>rfl
theorem akP (a:Rat):fQ a a=a:=by unfold fQ;split<;>rfl
theorem at6 (a b:Rat):gj a b<=a/\gj a b<=b/\(gj a b=a\/gj a b=b):=by unfold gj;split<;>grind
theorem aB6 (a b:Rat):a<=fQ a b/\b<=fQ a b/\(fQ a b=a\/fQ a b=b):=by unfold fQ;split<;>grind
theorem aeh (p:List Rat):∀ k,(∀ i,i<k->(l7 p k).1<=p.getD i 0/\p.getD i 0<=(l7 p k).2)/\(0<k->(∃ i,i<k/\(l7 p k).1=p.getD i 0)/\∃ i,i<k/\(l7 p k).2=p.getD i 0)
 | 0=>⟨fun i h=>by omega,fun h=>by omega⟩
 | k+1=>by
  obtain⟨h1,h2⟩:=aeh p k
  rw [l7]
  by_cases hk:k=0
  ·subst hk
   rw [if_pos rfl]
   simp only [mM,ann,akP]
   refine⟨fun i hi=>?_,fun _=>⟨⟨0,J,rfl⟩,⟨0,J,rfl⟩⟩⟩
   obtain rfl:i=0:=by omega
   exact⟨Rat.le_refl,Rat.le_refl⟩
  ·rw [if_neg hk]
   obtain⟨⟨i,hi,ei⟩,⟨j,hj,ej⟩⟩:=h2 J
   have a:=at6 (l7 p k).1 (p.getD k 0)
   have b:=aB6 (l7 p k).2 (p.getD k 0)
   simp only [mM]
   refine⟨fun x hx=>?_,fun _=>⟨?_,?_⟩⟩
   ·by_cases rP:x=k
    ·subst rP;exact⟨a.2.1,b.2.1⟩
    ·have:=h1 x J
     exact⟨Rat.le_trans a.1 this.1,Rat.le_trans this.2 b.1⟩
   ·rcases a.2.2 with e | e
    ·exact⟨i,J,by rw [e,ei]⟩
    ·exact⟨k,J,e⟩
   ·rcases b.2.2 with e | e
    ·exact⟨j,J,by rw [e,ej]⟩
    ·exact⟨k,J,e⟩
theorem ajy {p:List Rat} {R:Nat} (hR:1<=R) (h:∀ k,rl (p.getD k 0)<=R):∀ k,rl (l7 p k).1<=R/\rl (l7 p k).2<=R
 | 0=>⟨hR,hR⟩
 | k+1=>by
  obtain⟨⟨i,_,ei⟩,⟨j,_,ej⟩⟩:=(aeh p (k+1)).2 J
  rw [ei,ej]
  exact⟨h i,h j⟩
theorem ahX {p:List Rat} {R:Nat} (hR:1<=R) (h:∀ x∈p,rl x<=R) (k:Nat):rl (p.getD k 0)<=R:=ga hR h k
theorem adp {a b:Rat}:fh a b<=0↔a<=b:=by
 unfold fh;split
 ·rename_i h;exact⟨fun _=>Rat.le_of_lt h,fun _=>by decide⟩
 ·split
  ·rename_i h;exact⟨fun e=>absurd e ai,fun e=>absurd h (Rat.not_lt.2 e)⟩
  ·rename_i h;exact⟨fun _=>Rat.not_lt.1 h,fun _=>by decide⟩
def iW (s:Rat × Rat) (x:Rat):Bool:=decide (s.1<=x) && decide (x<=s.2)
theorem akN {s:Rat × Rat} {x:Rat} (h:decide (fh s.1 x<=0)=true):decide (fh x s.2<=0)=iW s x:=by
 unfold iW
 rw [decide_eq_true (adp.1 (of_decide_eq_true h)),Bool.true_and,decide_eq_decide,adp]
theorem akZ {s:Rat × Rat} {x:Rat} (h:decide (fh s.1 x<=0)=false):false=iW s x:=by
 unfold iW
 rw [decide_eq_false (fun e=>of_decide_eq_false h (adp.2 e)),Bool.false_and]
def ia (n:Int):Int:=1+(n.tdiv 17) % 12
def nD (n:Int):Rat:=((n % (ia n+1):Int):Rat)/((ia n:Int):Rat)
theorem afn (n:Int):1<=ia n/\ia n<=12:=by
 unfold ia
 have h1:=Int.emod_nonneg (n.tdiv 17) (show (12:Int)≠0 by decide)
 have h2:=Int.emod_lt_of_pos (n.tdiv 17) (show (0:Int)<12 by decide)
 omega
theorem ajs {a b:Int} (ha:0<=a) (hb:0<b):(0:Rat)<=(a:Rat)/(b:Rat):=by
 rw [Rat.div_def]
 exact Rat.mul_nonneg (Rat.intCast_nonneg.2 ha) (Rat.le_of_lt (Rat.inv_pos.2 (Rat.intCast_pos.2 hb)))
theorem ayT {a b c:Int} (hc:0<c) (h:a+b=c):(a:Rat)/(c:Rat)+(b:Rat)/(c:Rat)=1:=by
 have h1:(c:Rat)≠0:=fun e=>by have:=Rat.intCast_eq_zero_iff.1 e;omega
 rw [Rat.div_def,Rat.div_def,<-Rat.add_mul,<-Rat.intCast_add,h,Rat.mul_inv_cancel _ h1]
theorem asE (n:Int):0<=nD n/\nD n<=1:=by
 have hd:=afn n
 have h1:=Int.emod_nonneg n (show ia n+1≠0 by omega)
 have h2:=Int.emod_lt_of_pos n (show (0:Int)<ia n+1 by omega)
 have h3:=ajs (a:=n % (ia n+1)) (b:=ia n) h1 J
 have h4:=ajs (a:=ia n-n % (ia n+1)) (b:=ia n) J J
 have h5:=ayT (a:=n % (ia n+1)) (b:=ia n-n % (ia n+1)) (c:=ia n) J J
 unfold nD
 exact⟨h3,by grind⟩
theorem alR (n:Int):rl (nD n)<=1:=by
 have hd:=afn n
 have h1:=Int.emod_nonneg n (show ia n+1≠0 by omega)
 have h2:=Int.emod_lt_of_pos n (show (0:Int)<ia n+1 by omega)
 exact aaz J J
theorem adX {p:List Rat} {R:Nat} (hR:1<=R) (h:∀ x∈p,rl x<=R):rl (gy p).1<=R/\rl (gy p).2<=R:=ajy hR (ahX hR h) p.length
open H0 in
theorem zJ (a b:Rat) (h:rl a+rl b<=549755813888):av Tryz.prog 90 [ae a,ae b] (aD (gj a b,fQ a b)):=by
 refine aN Tryz.func90 ?_
 refine bf ?_
 refine aY 7 an ?_
 refine aL ?_
 refine cp aq (agh _ _ J) ?_
 refine aL ?_
 refine cp aq (aew _ _ J) ?_
 refine a6 ?_
 exact rv
namespace apy
theorem aH {p q:Prop} (k:q) (e:p=q:=by simp only [e1,e2,e3,e4,p1,p2,p3,q1,q2,q3,l1,t0,t1,r1,r2,r3,r4,Nat.zero_add,Nat.reduceMul,Nat.reduceAdd,b1,b2,b3,b4,b5,b6,i1,i2,i3,i4,i5,i6,Nat.reduceBEq,ann,akP];exact rfl):p:=e.mpr k
end apy
open apy in
theorem pF (a:Rat) (h:rl a+rl a<=549755813888):av Tryz.prog 181 [ae a] (aD (a,a)):=by
 refine aN Tryz.func181 ?_
 refine bC ?_
 refine cp aq (zJ _ _ J) ?_
 refine ax ?_
 exact rv
open H0 in
theorem sa (s t:Rat × Rat) (h1:rl s.1+rl t.1<=549755813888) (h2:rl s.2+rl t.2<=549755813888):av Tryz.prog 182 [aD s,aD t] (aD (mM s t)):=by
 refine aN Tryz.func182 ?_
 refine bf ?_
 refine aY 11 an ?_
 refine ax ?_
 refine cp aq (agh _ _ J) ?_
 refine ax ?_
 refine cp aq (aew _ _ J) ?_
 refine a6 ?_
 exact rv
namespace an8
theorem aH {p q:Prop} (k:q) (e:p=q:=by simp only [e1,e2,e3,e4,p1,p2,p3,q1,q2,q3,l1,t0,t1,r1,r2,r3,r4,Nat.zero_add,Nat.reduceMul,Nat.reduceAdd,b1,b2,b3,b4,b5,b6,i1,i2,i3,i4,i5,i6,Nat.reduceBEq,cx,uC,aP ao,cH,dO,LV.kill,bN];exact rfl):p:=e.mpr k
end an8
open an8 in
theorem afT (p:List Rat) (hl:p.length<=1048576) (ma:∀ x∈p,rl x<=137438953472):av Tryz.prog 184 [.list 3 (p.map ae)] (aD (gy p)):=by
 refine aN Tryz.func184 ?_
 have uC:True:=trivial
 refine mV ?_
 refine dJ (fun(k:Nat) L=>((((((St.mk L.slot (hp [(2,⟨6,[aD (0,0)],true⟩),(3,⟨6,[aD (l7 p k)],true⟩)])).put (some 2) (.az 2 6 0 0)).put (some 3) (.az 3 6 0 0)).put (some 6) (.list 3 (p.map ae))).put (some 7) (ah p.length)).put (some 8) (ah k))) (fun k=>k<=p.length) (fun k=>p.length-k) 0 (Nat.zero_le _) ?_
 rintro k L1 hk
 refine aA ?_
 refine aC rfl ?_ ?_<;>intro tf h9
 ·have kL:k<p.length:=by omega
  have g8:=ahX (R:=137438953472) ai ma
  have nH:=g8 k
  have xt:=ajy ai g8 k
  have hr4:rl ((p.getD k 0,p.getD k 0):Rat × Rat).1<=137438953472:=nH
  have hr5:rl ((p.getD k 0,p.getD k 0):Rat × Rat).2<=137438953472:=nH
  have uC:l7 p (k+1)=mM (if k=0 then(p.getD k 0,p.getD k 0) else l7 p k) (p.getD k 0,p.getD k 0):=rfl
  refine yS ?_
  refine aC rfl ?_ ?_<;>intro ot jS
  ·have kG:k=0:=by omega
   rw [if_pos kG] at uC
   refine aL ?_
   refine cp aK (pF _ J) ?_
   refine aJ ?_
   refine aY 4 an ?_
   refine aL ?_
   refine cp aK (pF _ J) ?_
   refine cp aq (sa _ _ J J) ?_
   refine ax ?_
   refine cq (aw.kill _ 5) ?_
   refine ax ?_
   exact iG (k+1) J
  ·have kG:¬ k=0:=by omega
   rw [if_neg kG] at uC
   refine aL ?_
   refine aY 4 an ?_
   refine aL ?_
   refine cp aK (pF _ J) ?_
   refine cp aq (sa _ _ J J) ?_
   refine ax ?_
   refine cq (aw.kill _ 5) ?_
   refine ax ?_
   exact iG (k+1) J
 ·obtain rfl:k=p.length:=by omega
  refine bu ?_
  exact rv
open H0 in
theorem aku (s:Rat × Rat) (x:Rat) (h1:rl s.1+rl x<=34359738368) (h2:rl x+rl s.2<=34359738368):av Tryz.prog 17 [aD s,ae x] (bL (iW s x)):=by
 refine aN Tryz.func17 ?_
 refine bu ?_
 refine cp aq (abN _ _ J) ?_
 refine aL ?_
 refine dy 10 rfl ?_ ?_<;>intro l9 rR
 ·refine aJ ?_
  refine cp aq (abN _ _ J) ?_
  refine aA ?_
  rw [<-akN l9]
  exact dF
 ·refine bC ?_
  rw [<-akZ l9]
  exact dF
open H0 in
theorem axb (n:Int) (hn:-9223372036854775808<=n/\n<=9223372036854775807):av Tryz.prog 61 [iL n] (ae (nD n)):=by
 have hd:=afn n
 have hq:(n.tdiv 17).natAbs=n.natAbs/17:=Int.natAbs_tdiv _ _
 have hpd:ia n=1+(n.tdiv 17) % 12:=rfl
 have h1:=Int.emod_nonneg n (show ia n+1≠0 by omega)
 have h2:=Int.emod_lt_of_pos n (show (0:Int)<ia n+1 by omega)
 refine aN Tryz.func61 ?_
 refine bf ?_
 refine ak rfl (.bin rfl rfl (axM (a:=n) (b:=17) ai J J)) ?_
 refine cp aq (aat (n.tdiv 17) 12 ai ai) ?_
 refine ak rfl wI ?_
 refine aR ?_
 refine ak rfl (.bin rfl rfl (o6 (a:=ia n) J J)) ?_
 refine cp aq (aat n (ia n+1) J J) ?_
 refine ar ?_
 refine cp aq (aam (n % (ia n+1)) (ia n) J J J J J) ?_
 refine ax ?_
 exact fk
def pP (p q:V3):V3:=⟨p.x+q.x,p.y+q.y,p.z+q.z⟩
def fB (p q:V3):V3:=⟨p.x-q.x,p.y-q.y,p.z-q.z⟩
def jb (r:Rat) (p:V3):V3:=⟨r*p.x,r*p.y,r*p.z⟩
def de (p q:V3):Rat:=0+p.x*q.x+p.y*q.y+p.z*q.z
def ck (R:Nat) (p:V3):Prop:=rl p.x<=R/\rl p.y<=R/\rl p.z<=R
theorem ck.le {R S:Nat} {p:V3} (h:ck R p) (hRS:R<=S):ck S p:=⟨Nat.le_trans h.1 hRS,Nat.le_trans h.2.1 hRS,Nat.le_trans h.2.2 hRS⟩
theorem zL {R S:Nat} {p q:V3} (hp:ck R p) (hq:ck S q):rl (de p q)<=3*(R+S)+4:=by
 obtain⟨a1,a2,a3⟩:=hp
 obtain⟨b1,b2,b3⟩:=hq
 have h1:=cO p.x q.x
 have h2:=cO p.y q.y
 have h3:=cO p.z q.z
 have h4:=jq 0 (p.x*q.x)
 have h5:=jq (0+p.x*q.x) (p.y*q.y)
 have h6:=jq (0+p.x*q.x+p.y*q.y) (p.z*q.z)
 have h0:rl 0=1:=rfl
 unfold de
 omega
def uk (a b p:V3):Rat :=
 if de (fB p a) (fB b a)<=0 then de (fB p a) (fB p a)
 else if de (fB b a) (fB b a)<=de (fB p a) (fB b a) then de (fB p b) (fB p b)
 else de (fB p (pP a (jb (de (fB p a) (fB b a)/de (fB b a) (fB b a)) (fB b a)))) (fB p (pP a (jb (de (fB p a) (fB b a)/de (fB b a) (fB b a)) (fB b a))))
def ow (R:Nat) (q:aF):Prop:=ck R q.p/\rl q.w<=R/\0<q.w
theorem dW (q:V3) (b:Nat):(aS q).kill b=aS q:=LV.ki b _ (bg.pure q)
theorem ec (q:aF) (b:Nat):(aT q).kill b=aT q:=LV.ki b _ (bw.pure q)
namespace arW
theorem aH {p q:Prop} (k:q) (e:p=q:=by simp only [e1,e2,e3,e4,p1,p2,p3,q1,q2,q3,l1,t0,t1,r1,r2,r3,r4,Nat.zero_add,Nat.reduceMul,Nat.reduceAdd,b1,b2,b3,b4,b5,b6,i1,i2,i3,i4,i5,i6,Nat.reduceBEq,abG];exact rfl):p:=e.mpr k
end arW
open arW in
theorem ajX (f:Nat) (g:Rat->Rat->Rat) (p q:V3) (h1:av Tryz.prog f [ae p.x,ae q.x] (ae (g p.x q.x))) (h2:av Tryz.prog f [ae p.y,ae q.y] (ae (g p.y q.y))) (h3:av Tryz.prog f [ae p.z,ae q.z] (ae (g p.z q.z))):av Tryz.prog 193 [aS p,aS q,.cV f []] (aS ⟨g p.x q.x,g p.y q.y,g p.z q.z⟩):=by
 refine aN Tryz.func193 (ht:=(fun r=>LV.cP r _ (bg.pure _))) ?_
 refine mV ?_
 refine bG ?_
 refine aA ?_
 refine bY (b:=_) rfl ai ?_
 refine bC ?_
 refine aY 10 an ?_
 refine bf ?_
 refine mK [] rfl rfl (.cV (f:=f) (cap:=[]) (args:=[ae p.x,ae q.x]) rfl (.cons eI (.cons eI .nil)) ⟨rfl,fun _ h=>by cases h⟩ h1.1 ai (fun _ h=>by cases h)) (h1.2 _) ?_
 refine bC ?_
 refine bG ?_
 refine aA ?_
 refine bY (b:=_) rfl ai ?_
 refine bC ?_
 refine aY 10 an ?_
 refine bf ?_
 refine mK [] rfl rfl (.cV (f:=f) (cap:=[]) (args:=[ae p.y,ae q.y]) rfl (.cons eI (.cons eI .nil)) ⟨rfl,fun _ h=>by cases h⟩ h2.1 ai (fun _ h=>by cases h)) (h2.2 _) ?_
 refine bC ?_
 refine bG ?_
 refine aA ?_
 refine bY (b:=_) rfl ai ?_
 refine bC ?_
 refine aY 10 an ?_
 refine bf ?_
 refine mK [] rfl rfl (.cV (f:=f) (cap:=[]) (args:=[ae p.z,ae q.z]) rfl (.cons eI (.cons eI .nil)) ⟨rfl,fun _ h=>by cases h⟩ h3.1 ai (fun _ h=>by cases h)) (h3.2 _) ?_
 refine bC ?_
 refine bG ?_
 refine aA ?_
 refine eF (b:=_) rfl ai ?_
 refine bu ?_
 exact qw
open H0 in
theorem aBh (p q:V3) (R:Nat) (hR:R<=100000000000) (hp:ck R p) (hq:ck R q):av Tryz.prog 255 [aS p,aS q] (aS (pP p q)):=by
 obtain⟨a1,a2,a3⟩:=hp
 obtain⟨b1,b2,b3⟩:=hq
 refine aN Tryz.func255 (ht:=(fun r=>LV.cP r _ (bg.pure _))) ?_
 refine bp ?_
 refine cp fH (ajX 95 (·+·) p q (iw _ _ J) (iw _ _ J) (iw _ _ J)) ?_
 refine ax ?_
 exact qw
open H0 in
theorem acW (r:Rat) (p:V3) (R:Nat) (hR:R<=100000000000) (hr:rl r<=R) (hp:ck R p):av Tryz.prog 106 [ae r,aS p] (aS (jb r p)):=by
 obtain⟨a1,a2,a3⟩:=hp
 refine aN Tryz.func106 (ht:=(fun r=>LV.cP r _ (bg.pure _))) ?_
 refine dk ?_
 refine cp fH (ajX 191 (·*·) ⟨r,r,r⟩ p (gr r p.x J) (gr r p.y J) (gr r p.z J)) ?_
 refine ax ?_
 exact qw
open H0 in
theorem acu (p q:V3) (R:Nat) (hR:R<=1000000000) (hp:ck R p) (hq:ck R q):av Tryz.prog 254 [aS p,aS q] (ae (de p q)):=by
 obtain⟨a1,a2,a3⟩:=hp
 obtain⟨b1,b2,b3⟩:=hq
 have m1:=cO p.x q.x
 have m2:=cO p.y q.y
 have m3:=cO p.z q.z
 have s1:=jq 0 (p.x*q.x)
 have s2:=jq (0+p.x*q.x) (p.y*q.y)
 have hz0:rl 0=1:=rfl
 refine aN Tryz.func254 ?_
 refine mV ?_
 refine bG ?_
 refine aA ?_
 refine bY (b:=_) rfl ai ?_
 refine bC ?_
 refine aY 9 an ?_
 refine aR ?_
 refine cp aq (gr p.x q.x J) ?_
 refine cp aq (iw 0 (p.x*q.x) J) ?_
 refine bq ?_
 refine bG ?_
 refine aA ?_
 refine bY (b:=_) rfl ai ?_
 refine bC ?_
 refine aY 9 an ?_
 refine aR ?_
 refine cp aq (gr p.y q.y J) ?_
 refine cp aq (iw (0+p.x*q.x) (p.y*q.y) J) ?_
 refine bq ?_
 refine bG ?_
 refine aA ?_
 refine bY (b:=_) rfl ai ?_
 refine bC ?_
 refine aY 9 an ?_
 refine aR ?_
 refine cp aq (gr p.z q.z J) ?_
 refine cp aq (iw (0+p.x*q.x+p.y*q.y) (p.z*q.z) J) ?_
 refine bq ?_
 refine bG ?_
 refine aA ?_
 refine eF (b:=_) rfl ai ?_
 refine bu ?_
 exact fk
open H0 in
theorem ai3 (p q:V3) (R:Nat) (hR:R<=1000000000) (hp:ck R p) (hq:ck R q):av Tryz.prog 267 [aS p,aS q] (ae (de p q)):=by
 obtain⟨a1,a2,a3⟩:=hp
 obtain⟨b1,b2,b3⟩:=hq
 have m1:=cO p.x q.x
 have m2:=cO p.y q.y
 have m3:=cO p.z q.z
 have s1:=jq 0 (p.x*q.x)
 have s2:=jq (0+p.x*q.x) (p.y*q.y)
 have hz0:rl 0=1:=rfl
 refine aN Tryz.func267 ?_
 refine mV ?_
 refine bG ?_
 refine aR ?_
 refine bY (b:=_) rfl ai ?_
 refine ax ?_
 refine aY 9 an ?_
 refine aR ?_
 refine cp aq (rE p.x q.x J) ?_
 refine cp aq (nw 0 (p.x*q.x) J) ?_
 refine bC ?_
 refine bG ?_
 refine aR ?_
 refine bY (b:=_) rfl ai ?_
 refine ax ?_
 refine aY 9 an ?_
 refine aR ?_
 refine cp aq (rE p.y q.y J) ?_
 refine cp aq (nw (0+p.x*q.x) (p.y*q.y) J) ?_
 refine bC ?_
 refine bG ?_
 refine aR ?_
 refine bY (b:=_) rfl ai ?_
 refine ax ?_
 refine aY 9 an ?_
 refine aR ?_
 refine cp aq (rE p.z q.z J) ?_
 refine cp aq (nw (0+p.x*q.x+p.y*q.y) (p.z*q.z) J) ?_
 refine bC ?_
 refine bG ?_
 refine aR ?_
 refine eF (b:=_) rfl ai ?_
 refine bu ?_
 exact fk
open H0 in
theorem axl (p q:V3) (R:Nat) (hR:R<=1000000000) (hp:ck R p) (hq:ck R q):av Tryz.prog 72 [aS p,aS q] (aS (fB p q)):=by
 obtain⟨a1,a2,a3⟩:=hp
 obtain⟨b1,b2,b3⟩:=hq
 refine aN Tryz.func72 (ht:=(fun r=>LV.cP r _ (bg.pure _))) ?_
 refine dk ?_
 refine bG ?_
 refine aR ?_
 refine bY (b:=_) rfl ai ?_
 refine ax ?_
 refine aY 9 an ?_
 refine aR ?_
 refine cp aq (yq p.x q.x J) ?_
 refine bp ?_
 refine bG ?_
 refine aR ?_
 refine bY (b:=_) rfl ai ?_
 refine ax ?_
 refine aY 9 an ?_
 refine aR ?_
 refine cp aq (yq p.y q.y J) ?_
 refine bp ?_
 refine bG ?_
 refine aR ?_
 refine bY (b:=_) rfl ai ?_
 refine ax ?_
 refine aY 9 an ?_
 refine aR ?_
 refine cp aq (yq p.z q.z J) ?_
 refine bp ?_
 refine bG ?_
 refine aR ?_
 refine eF (b:=_) rfl ai ?_
 refine bu ?_
 exact qw
open H0 in
theorem avR (p q:V3) (R:Nat) (hR:R<=1000000000) (hp:ck R p) (hq:ck R q):av Tryz.prog 233 [aS p,aS q] (aS (pP p q)):=by
 obtain⟨a1,a2,a3⟩:=hp
 obtain⟨b1,b2,b3⟩:=hq
 refine aN Tryz.func233 (ht:=(fun r=>LV.cP r _ (bg.pure _))) ?_
 refine dk ?_
 refine bG ?_
 refine aR ?_
 refine bY (b:=_) rfl ai ?_
 refine ax ?_
 refine aY 9 an ?_
 refine aR ?_
 refine cp aq (nw p.x q.x J) ?_
 refine bp ?_
 refine bG ?_
 refine aR ?_
 refine bY (b:=_) rfl ai ?_
 refine ax ?_
 refine aY 9 an ?_
 refine aR ?_
 refine cp aq (nw p.y q.y J) ?_
 refine bp ?_
 refine bG ?_
 refine aR ?_
 refine bY (b:=_) rfl ai ?_
 refine ax ?_
 refine aY 9 an ?_
 refine aR ?_
 refine cp aq (nw p.z q.z J) ?_
 refine bp ?_
 refine bG ?_
 refine aR ?_
 refine eF (b:=_) rfl ai ?_
 refine bu ?_
 exact qw
open H0 in
theorem amH (r:Rat) (p:V3) (R:Nat) (hR:R<=1000000000) (hr:rl r<=R) (hp:ck R p):av Tryz.prog 141 [ae r,aS p] (aS (jb r p)):=by
 obtain⟨a1,a2,a3⟩:=hp
 refine aN Tryz.func141 (ht:=(fun r=>LV.cP r _ (bg.pure _))) ?_
 refine dk ?_
 refine bG ?_
 refine aR ?_
 refine bY (b:=_) rfl ai ?_
 refine ax ?_
 refine aY 7 an ?_
 refine a6 ?_
 refine cp aq (rE r p.x J) ?_
 refine bp ?_
 refine bG ?_
 refine aR ?_
 refine bY (b:=_) rfl ai ?_
 refine ax ?_
 refine aY 7 an ?_
 refine a6 ?_
 refine cp aq (rE r p.y J) ?_
 refine bp ?_
 refine bG ?_
 refine aR ?_
 refine bY (b:=_) rfl ai ?_
 refine ax ?_
 refine aY 7 an ?_
 refine a6 ?_
 refine cp aq (rE r p.z J) ?_
 refine bp ?_
 refine bG ?_
 refine aR ?_
 refine eF (b:=_) rfl ai ?_
 refine bu ?_
 exact qw
theorem sM {a b:Rat}:0<=fh a b↔b<=a:=by
 unfold fh
 constructor
 ·intro h
  split at h
  ·exact absurd h ai
  ·grind
 ·intro h
  split
  ·exfalso;grind
  ·split<;>decide
end Go.Proofs.YtckppbhafancnaaGreat
namespace Go.Lg
theorem ajr {P:Program} {f:FuncId} {args:List LV} {sz n:Nat} {vals:List LV} {mt:Bool} (h:mP P f args (.ref 1 sz 0 n) [⟨sz,vals,mt⟩]) (hp:aG vals=true) (hn:vals.length=n):av P f args (.list sz vals):=by
 refine⟨⟨h.1,fun W Z0 vs hz hr=>Calls.mono (h.2 W Z0 vs hz hr) (fun e w'=>?_)⟩,fun g=>LV.cP g _ (by simp [LV.pure,hp])⟩
 rintro⟨v,μ,Z,he,hc,hv⟩
 have hle:bK.le (mY [⟨sz,vals,mt⟩]) (mY [⟨sz,vals,false⟩]):=fun b blk hb=>by
  unfold mY at hb ⊢
  by_cases h0:b=0
  ·rw [if_pos h0] at hb;cases hb
  ·rw [if_neg h0] at hb
   rcases Nat.lt_or_ge (b-1) 1 with h1 | h1
   ·have e:b-1=0:=by omega
    rw [e] at hb
    simp only [List.getElem?_cons_zero,Option.some.injEq] at hb
    subst hb
    exact⟨false,by rw [if_neg h0,e];rfl,fun _=>rfl,fun _ _=>h0⟩
   ·rw [List.getElem?_eq_none (by simpa using h1)] at hb;cases hb
 obtain⟨Z1,k1,k2⟩:=hc.tC hle
 have dt:Frame Z μ w' w':=⟨fun _ _=>rfl,fun _ id _ c _ _ hh=>⟨c,hh,rfl⟩⟩
 have hv1:=hv.mono k2 (fun _ _ h=>h) dt
 have hi:cG (mY [⟨sz,vals,false⟩]) (.ref 1 sz 0 n) (.list sz vals):=by
  have:=cG.ref (H:=mY [⟨sz,vals,false⟩]) (b:=1) (off:=0) (len:=n) (blk:=⟨sz,vals,false⟩) rfl rfl hp (by simp [hn]) rfl
  simpa [<-hn] using this
 refine⟨v,jh μ 1,Z1,he,?_,a9.pE (fun l h=>by cases h) (hi.z6 k1 hv1)⟩
 have kk:=Core.kill (L:=⟨fun _=>.any,mY [⟨sz,vals,false⟩]⟩) 1 ai k1
 refine kk.aex fun b id hb=>?_
 have v8:b≠1:=fun e=>by rw [e] at hb;simp [jh] at hb
 have ud:μ b=some id:=by unfold jh at hb;split at hb<;>first | exact hb | cases hb
 obtain⟨blk,g1,_⟩:=k1.heap b id ud
 unfold mY at g1
 split at g1
 ·cases g1
 ·rw [List.getElem?_eq_none bm] at g1;cases g1
end Go.Lg
namespace Go.Proofs.YtckppbhafancnaaGreat
open Go.Lg
theorem aCS (p:List Rat) (hl:p.length<=1048576) (ma:∀ x∈p,rl x<=274877906944):av Tryz.prog 178 [.list 3 (p.map ae)] (.list 3 (p.map ae)) :=
 ajr (ahK p hl ma) (aW ao _) aO
def y5 (p:List Rat) (i:Nat):Rat:=(if 0<i then((i:Int):Rat)/((p.length:Int):Rat)*p.getD (i-1) 0 else 0)+(if i<p.length then(((p.length:Int)-(i:Int):Int):Rat)/((p.length:Int):Rat)*p.getD i 0 else 0)
def rI (p:List Rat):List Rat:=(List.range (p.length+1)).map (y5 p)
def wE:Nat->List Rat->List Rat
 | 0,p=>p
 | k+1,p=>wE k (rI p)
def iZ (p:List Rat) (n:Nat):List Rat:=wE (n+1-p.length) p
theorem nZ (p:List Rat):(rI p).length=p.length+1:=by simp [rI]
theorem ai7 {p:List Rat} {i:Nat} (h:i<p.length+1):(rI p).getD i 0=y5 p i:=by
 rw [List.getD_eq_getElem?_getD,List.getElem?_eq_getElem (by rw [nZ];exact h)];simp [rI]
theorem aou:∀ (k:Nat) (p:List Rat),(wE k p).length=p.length+k
 | 0,p=>rfl
 | k+1,p=>by rw [wE,aou k,nZ];omega
theorem ako {p:List Rat} {n:Nat} (h:p.length<=n+1):(iZ p n).length=n+1:=by rw [iZ,aou];omega
theorem azu {p:List Rat} {i:Nat} (h0:0<i) (h1:i<p.length):y5 p i=((i:Int):Rat)/((p.length:Int):Rat)*p.getD (i-1) 0+(((p.length:Int)-(i:Int):Int):Rat)/((p.length:Int):Rat)*p.getD i 0:=by
 rw [y5,if_pos h0,if_pos h1]
theorem azq {p:List Rat} {i:Nat} (h0:0<i) (h1:¬ i<p.length):y5 p i=((i:Int):Rat)/((p.length:Int):Rat)*p.getD (i-1) 0:=by
 rw [y5,if_pos h0,if_neg h1,Rat.add_zero]
theorem azv {p:List Rat} {i:Nat} (h0:¬ 0<i) (h1:i<p.length):y5 p i=(((p.length:Int)-(i:Int):Int):Rat)/((p.length:Int):Rat)*p.getD i 0:=by
 rw [y5,if_neg h0,if_pos h1,Rat.zero_add]
def rC (p:List Rat) (n:Nat):Prop:=(∀ x∈p,rl x<=1073741824)/\∀ k,p.length+k<=n+1->∀ x∈wE k p,rl x<=1073741824
theorem ae3 {p:List Rat} {n:Nat} (h:rC p n) (k:Nat):rl (p.getD k 0)<=1073741824:=ga ai h.1 k
theorem aqz {p:List Rat} {n:Nat} (hl:p.length<=n) (h:rC p n):rC (rI p) n:=⟨h.2 1 J,fun k hk=>h.2 (k+1) (by rw [nZ] at hk;omega)⟩
theorem an5 {p:List Rat} {n:Nat} (h:n+1<=p.length):iZ p n=p:=by rw [iZ,show n+1-p.length=0 by omega];rfl
theorem azD {p:List Rat} {n:Nat} (h:p.length<=n):wE (n+1-(rI p).length) (rI p)=wE (n+1-p.length) p:=by
 rw [show n+1-p.length=(n+1-(rI p).length)+1 by rw [nZ];omega];rfl
def sb (g:Rat->Rat->Rat) (a b:List Rat):List Rat:=(List.range a.length).map fun i=>g (a.getD i 0) (b.getD i 0)
theorem afA (g:Rat->Rat->Rat) (a b:List Rat):(sb g a b).length=a.length:=by simp [sb]
theorem as6 {g:Rat->Rat->Rat} {a b:List Rat} {i:Nat} (h:i<a.length):(sb g a b).getD i 0=g (a.getD i 0) (b.getD i 0):=by
 rw [List.getD_eq_getElem?_getD,List.getElem?_eq_getElem (by rw [afA];exact h)];simp [sb]
namespace akX
theorem aH {p q:Prop} (k:q) (e:p=q:=by simp only [e1,e2,e3,e4,p1,p2,p3,q1,q2,q3,l1,t0,t1,r1,r2,r3,r4,Nat.zero_add,Nat.reduceMul,Nat.reduceAdd,b1,b2,b3,b4,b5,b6,i1,i2,i3,i4,i5,i6,Nat.reduceBEq,cx,List.length_set,List.set_set,egs,egz,eim,Rat.zero_add,aP ao,cH,LV.kill,bN];exact rfl):p:=e.mpr k
end akX
open akX in
theorem anq (p:List Rat) (n:Nat) (mO:0<p.length) (hn:n<=1000) (hl:p.length<=1001) (hs:rC p n):av Tryz.prog 290 [.list 3 (p.map ae),ah n] (.list 3 ((iZ p n).map ae)):=by
 refine aN Tryz.func290 ?_
 have egs:True:=trivial
 have egz:True:=trivial
 have eim:True:=trivial
 refine bf ?_
 refine cp aK (aCS p J (fun x hx=>by have:=ae3 hs;have h9:=List.getElem_of_mem hx;obtain⟨k,hk,rfl⟩:=h9;have h8:=this k;rw [List.getD_eq_getElem?_getD,List.getElem?_eq_getElem hk] at h8;exact Nat.le_trans h8 ai)) ?_
 refine a6 ?_
 refine dJ (fun(o:List Rat) L=>(((St.mk L.slot (hp [])).put (some 1) (ah n)).put (some 5) (.list 3 (o.map ae)))) (fun o=>0<o.length/\o.length<=1001/\rC o n/\wE (n+1-o.length) o=iZ p n) (fun o=>n+1-o.length) p ⟨mO,hl,hs,rfl⟩ ?_
 rintro o L1 ⟨ho0,cJ,hos,hit⟩
 refine aR ?_
 refine dy 18 rfl ?_ ?_<;>intro rD rZ
 ·refine aR ?_
  refine aC rfl ?_ ?_<;>intro qt oL
  ·have hon:o.length<=n:=by omega
   refine dj ?_
   refine ak rfl cB ?_
   refine eH rfl rfl (.kM (n:=(o.length+1)) (m:=(o.length+1)) ml ml om om om) ?_
   refine bu ?_
   refine jP (fun(i:Nat) (w:List Rat) L=>((((((((St.mk L.slot (hp [(28,⟨3,w.map ae,true⟩)])).put (some 1) (ah n)).put (some 5) (.list 3 (o.map ae))).put (some 6) (ah o.length)).put (some 7) (.ref 28 3 0 (o.length+1))).put (some 29) (.ref 28 3 0 (o.length+1))).put (some 30) (ah (o.length+1))).put (some 31) (ah i))) (fun i w=>i<=o.length+1/\w.length=o.length+1/\w.take i=(rI o).take i/\∀ x,i<=x->w.getD x 0=0) (fun i w=>o.length+1-i) 0 (List.replicate (o.length+1) 0) ⟨Nat.zero_le _,by simp,rfl,fun x _=>by simp [List.getD_eq_getElem?_getD,List.getElem?_replicate];split<;>rfl⟩ ?_
   rintro i w L2 ⟨hi,gM,jl,hz⟩
   refine aA ?_
   refine aC rfl ?_ ?_<;>intro aeS h32
   ·have dB:i<o.length+1:=by omega
    have hf1:=aaz (n:=(i:Int)) (d:=(o.length:Int)) J J
    have og:=aaz (n:=(o.length:Int)-(i:Int)) (d:=(o.length:Int)) J J
    have g8:=ae3 hos (i-1)
    have nH:=ae3 hos i
    have iF:=cO (((i:Int):Rat)/((o.length:Int):Rat)) (o.getD (i-1) 0)
    have dZ:=cO ((((o.length:Int)-(i:Int):Int):Rat)/((o.length:Int):Rat)) (o.getD i 0)
    have egs:=fun v=>awZ (o:=w) (i:=i) (v:=v) J
    have egz:=hz i (Nat.le_refl _)
    have eim:((i:Int)-1).toNat=i-1:=by omega
    have qD:rl 0=1:=rfl
    refine im ?_
    refine aC rfl ?_ ?_<;>intro w9 wQ
    ·have nF:0<i:=by omega
     refine ax ?_
     refine cp aq (ain (i:Int) (o.length:Int) J J J J J) ?_
     refine bf ?_
     refine aY 10 an ?_
     refine bf ?_
     try simp only [t1,cx,eim]
     refine cp aq (gr _ _ J) ?_
     refine bu ?_
     refine aC rfl ?_ ?_<;>intro azZ h55
     ·have qz:i<o.length:=by omega
      refine ax ?_
      refine ak rfl tE ?_
      refine ar ?_
      refine cp aq (ain ((o.length:Int)-(i:Int)) (o.length:Int) J J J J J) ?_
      refine bf ?_
      refine aY 14 an ?_
      refine bp ?_
      try simp only [t1,cx]
      refine cp aq (gr _ _ J) ?_
      try simp only [t1,cx,Nat.zero_add,egs,egz]
      refine cp aq (iw _ _ J) ?_
      refine a6 ?_
      refine cq ((aw.kill _ 9).trans (aw.kill _ 11)) ?_
      refine ax ?_
      exact fZ (i+1) (w.set i (((i:Int):Rat)/((o.length:Int):Rat)*o.getD (i-1) 0+(((o.length:Int)-(i:Int):Int):Rat)/((o.length:Int):Rat)*o.getD i 0)) ⟨J,by simp [gM],zj (by rw [nZ];omega) (by rw [nZ];omega) jl (by rw [ai7 J,azu nF qz]),fun x hx=>by rw [yX _ _ _ _ J,if_neg J];exact hz x J⟩
     ·have qz:¬ i<o.length:=by omega
      refine aJ ?_
      refine cq ((aw.kill _ 9).trans (aw.kill _ 11)) ?_
      refine ax ?_
      exact fZ (i+1) (w.set i (((i:Int):Rat)/((o.length:Int):Rat)*o.getD (i-1) 0)) ⟨J,by simp [gM],zj (by rw [nZ];omega) (by rw [nZ];omega) jl (by rw [ai7 J,azq nF qz]),fun x hx=>by rw [yX _ _ _ _ J,if_neg J];exact hz x J⟩
    ·have nF:¬ 0<i:=by omega
     refine bC ?_
     refine aC rfl ?_ ?_<;>intro azZ h55
     ·have qz:i<o.length:=by omega
      refine ax ?_
      refine ak rfl tE ?_
      refine ar ?_
      refine cp aq (ain ((o.length:Int)-(i:Int)) (o.length:Int) J J J J J) ?_
      refine bf ?_
      refine aY 14 an ?_
      refine bp ?_
      try simp only [t1,cx]
      refine cp aq (gr _ _ J) ?_
      try simp only [t1,cx,Nat.zero_add,egs,egz]
      refine cp aq (iw _ _ J) ?_
      refine a6 ?_
      refine cq ((aw.kill _ 9).trans (aw.kill _ 11)) ?_
      refine ax ?_
      exact fZ (i+1) (w.set i ((((o.length:Int)-(i:Int):Int):Rat)/((o.length:Int):Rat)*o.getD i 0)) ⟨J,by simp [gM],zj (by rw [nZ];omega) (by rw [nZ];omega) jl (by rw [ai7 J,azv nF qz]),fun x hx=>by rw [yX _ _ _ _ J,if_neg J];exact hz x J⟩
     ·have qz:¬ i<o.length:=by omega
      refine aJ ?_
      refine cq ((aw.kill _ 9).trans (aw.kill _ 11)) ?_
      refine ax ?_
      exact fZ (i+1) w (False.elim J)
   ·obtain rfl:i=o.length+1:=by omega
    have hE:w=rI o:=by
     rw [List.take_of_length_le J,List.take_of_length_le (by rw [nZ];omega)] at jl
     exact jl
    subst hE
    refine a6 ?_
    refine cq ((aw.cf (t:=7) [28] rfl rfl (eN ao rfl rfl (by rw [nZ]))).trans (aw.kill _ 28)) ?_
    refine a6 ?_
    exact iG (rI o) ⟨by rw [nZ];omega,by rw [nZ];omega,aqz J hos,by rw [azD J];exact hit⟩ (hm:=by rw [nZ];omega)
  ·refine bu ?_
   have hE:iZ p n=o:=by rw [<-hit,show n+1-o.length=0 by omega];rfl
   rw [hE]
   exact dF
 ·refine nj ?_
  have hE:iZ p n=o:=by rw [<-hit,show n+1-o.length=0 by omega];rfl
  rw [hE]
  exact dF
def cR (n k:Nat):Rat:=((ll n k:Nat):Int)
def sq (p:List Rat) (k:Nat):Rat:=cR (p.length-1) k*p.getD k 0
def sm:Nat->(Nat->Rat)->Rat
 | 0,_=>0
 | n+1,f=>sm n f+f n
theorem wF:∀ (n:Nat) (f g:Nat->Rat),(∀ i,i<n->f i=g i)->sm n f=sm n g
 | 0,_,_,_=>rfl
 | n+1,f,g,h=>by rw [sm,sm,wF n f g (fun i hi=>h i J),h n J]
theorem afB:∀ (n:Nat) (f g:Nat->Rat),sm n (fun i=>f i+g i)=sm n f+sm n g
 | 0,_,_=>by show (0:Rat)=0+0;grind
 | n+1,f,g=>by rw [sm,sm,sm,afB n];grind
theorem apc (c:Rat):∀ (n:Nat) (f:Nat->Rat),sm n (fun i=>c*f i)=c*sm n f
 | 0,_=>by show (0:Rat)=c*0;grind
 | n+1,f=>by rw [sm,sm,apc c n];grind
theorem arv:∀ (n:Nat) (f:Nat->Rat),sm (n+1) f=f 0+sm n (fun i=>f (i+1))
 | 0,f=>by show 0+f 0=f 0+0;grind
 | n+1,f=>by rw [sm,arv n f,sm];grind
theorem azB (n:Nat) (f:Nat->Rat) (h:∀ i,i<n->f i=0):sm n f=0:=by
 induction n with
 | zero=>rfl
 | succ n ih=>rw [sm,ih (fun i hi=>h i J),h n J];exact Rat.add_zero 0
def bnd (x y:Rat):Prop:=-y<=x/\x<=y
theorem arP {x y:Rat} (hx:0<x) (h:x<=y):0<1/y/\1/y<=1/x:=by
 have hy:0<y:=by grind
 have e1:1/x*x=1:=by grind
 have e2:1/y*y=1:=by grind
 have r0:0<1/x:=by rw [Rat.div_def,Rat.one_mul];exact Rat.inv_pos.2 hx
 have s0:0<1/y:=by rw [Rat.div_def,Rat.one_mul];exact Rat.inv_pos.2 hy
 revert e1 e2 r0 s0
 generalize 1/x=r
 generalize 1/y=s
 intro e1 e2 r0 s0
 refine⟨s0,?_⟩
 have h1:=Rat.mul_le_mul_of_nonneg_left h (Rat.le_of_lt (Rat.mul_pos s0 r0))
 have e3:s*r*x=s:=by rw [Rat.mul_assoc,e1,Rat.mul_one]
 have e4:s*r*y=r:=by rw [Rat.mul_comm s r,Rat.mul_assoc,e2,Rat.mul_one]
 rwa [e3,e4] at h1
theorem ak0 {n:Nat} (hn:n<=1000):∀ (k:Nat) (p:List Rat),0<p.length->p.length+k<=n+1->rC p n->rC (wE k p) n
 | 0,_,_,_,h=>h
 | k+1,p,h0,hk,h=>ak0 hn k (rI p) (by rw [nZ];omega) (by rw [nZ];omega) (aqz J h)
theorem ape {p:List Rat} {n:Nat} (hn:n<=1000) (h0:0<p.length) (hl:p.length<=n+1) (h:rC p n) (k:Nat):rl ((iZ p n).getD k 0)<=1073741824 :=
 ae3 (ak0 hn _ p h0 J h) k
theorem emx {a b n:Nat} (h:0<a) (h1:a<=n+1) (h2:b<=n+1) (h3:a=n+1\/b=n+1):(if ((b:Nat):Int) > ((a:Nat):Int) then((b:Nat):Int) else((a:Nat):Int))-1=(n:Int):=by
 split<;>omega
theorem emn (a:Nat):(if ((a:Nat):Int)<((a:Nat):Int) then((a:Nat):Int) else((a:Nat):Int))=(a:Int):=by split<;>rfl
theorem aCG {a b n:Nat} (h:0<a) (h1:a<=n+1) (h2:b<=n+1) (h3:a=n+1\/b=n+1) (hn:n<=1000):dp .sub .i64 (if ((b:Nat):Int) > ((a:Nat):Int) then((b:Nat):Int) else((a:Nat):Int)) 1=some (.int .i64 ((n:Nat):Int)):=by
 have e:=emx h h1 h2 h3
 rw [xI J J,e]
namespace ant
theorem aH {p q:Prop} (k:q) (e:p=q:=by simp only [e1,e2,e3,e4,p1,p2,p3,q1,q2,q3,l1,t0,t1,r1,r2,r3,r4,Nat.zero_add,Nat.reduceMul,Nat.reduceAdd,b1,b2,b3,b4,b5,b6,i1,i2,i3,i4,i5,i6,Nat.reduceBEq,cx,aoV,elp,elq,emn,aP ao,cH,dO,LV.kill,bN];exact rfl):p:=e.mpr k
end ant
open ant in
theorem ayw (p q:List Rat) (f:Nat) (g:Rat->Rat->Rat) (n:Nat) (mO:0<p.length) (mS:0<q.length) (hn:n<=1000) (zE:p.length<=n+1) (hqn:q.length<=n+1) (hpq:p.length=n+1\/q.length=n+1) (hps:rC p n) (v9:rC q n) (hf:∀ i,av Tryz.prog f [ae ((iZ p n).getD i 0),ae ((iZ q n).getD i 0)] (ae (g ((iZ p n).getD i 0) ((iZ q n).getD i 0)))):av Tryz.prog 283 [.list 3 (p.map ae),.list 3 (q.map ae),.cV f []] (.list 3 ((sb g (iZ p n) (iZ q n)).map ae)):=by
 have aoV:=emx mO zE hqn hpq
 have elp:=ako zE
 have elq:=ako hqn
 have mc:(sb g (iZ p n) (iZ q n)).length=n+1:=by rw [afA,elp]
 refine aN Tryz.func283 ?_
 have aoV:True:=trivial
 have elp:True:=trivial
 have elq:True:=trivial
 have emn:True:=trivial
 refine bu ?_
 refine ak rfl (.bin rfl rfl (aCG mO zE hqn hpq hn)) ?_
 refine aR ?_
 refine cp aq (anq p n mO hn J hps) ?_
 refine aL ?_
 refine cp aq (anq q n mS hn J v9) ?_
 refine bC ?_
 try simp only [elp,elq]
 refine ar ?_
 refine eH rfl rfl (.kM (n:=(n+1)) (m:=(n+1)) ml ml om om om) ?_
 refine bu ?_
 refine jP (fun(i:Nat) (w:List Rat) L=>((((((((St.mk L.slot (hp [(27,⟨3,w.map ae,true⟩)])).put (some 0) (.list 3 ((iZ p n).map ae))).put (some 1) (.list 3 ((iZ q n).map ae))).put (some 2) (.cV f [])).put (some 8) (.ref 27 3 0 (n+1))).put (some 28) (.ref 27 3 0 (n+1))).put (some 29) (ah (n+1))).put (some 30) (ah i))) (fun i w=>i<=n+1/\w.length=n+1/\w.take i=(sb g (iZ p n) (iZ q n)).take i) (fun i w=>n+1-i) 0 (List.replicate (n+1) 0) ⟨Nat.zero_le _,by simp,rfl⟩ ?_
 rintro i w L1 ⟨hi,gM,jl⟩
 refine aA ?_
 refine aC rfl ?_ ?_<;>intro aju h31
 ·have dB:i<n+1:=by omega
  have hfi:=hf i
  refine bC ?_
  refine aY 13 an ?_
  refine bp ?_
  try simp only [t1,cx]
  refine mK [] rfl rfl (.cV (f:=f) (cap:=[]) (args:=[ae ((iZ p n).getD i 0),ae ((iZ q n).getD i 0)]) rfl (.cons eI (.cons eI .nil)) ⟨rfl,fun _ h=>by cases h⟩ hfi.1 ai (fun _ h=>by cases h)) (hfi.2 _) ?_
  refine bC ?_
  exact fZ (i+1) (w.set i (g ((iZ p n).getD i 0) ((iZ q n).getD i 0))) ⟨J,by simp [gM],zj J J jl (by rw [as6 J])⟩
 ·obtain rfl:i=n+1:=by omega
  have hE:w=(sb g (iZ p n) (iZ q n)):=by
   rw [List.take_of_length_le J,List.take_of_length_le J] at jl
   exact jl
  subst hE
  refine bu ?_
  exact mz [27] rfl rfl (eN ao rfl rfl mc.symm)
open H0 in
theorem axD (p q:List Rat) (n:Nat) (mO:0<p.length) (mS:0<q.length) (hn:n<=1000) (zE:p.length<=n+1) (hqn:q.length<=n+1) (hpq:p.length=n+1\/q.length=n+1) (hps:rC p n) (v9:rC q n):av Tryz.prog 251 [.list 3 (p.map ae),.list 3 (q.map ae)] (.list 3 ((sb (·-·) (iZ p n) (iZ q n)).map ae)):=by
 refine aN Tryz.func251 ?_
 refine bq ?_
 refine cp fH (ayw p q 170 (·-·) n mO mS hn zE hqn hpq hps v9 (fun i=>py _ _ (by have:=ape hn mO zE hps i;have:=ape hn mS hqn v9 i;omega))) ?_
 refine ax ?_
 exact dF
namespace aj0
theorem aH {p q:Prop} (k:q) (e:p=q:=by simp only [e1,e2,e3,e4,p1,p2,p3,q1,q2,q3,l1,t0,t1,r1,r2,r3,r4,Nat.zero_add,Nat.reduceMul,Nat.reduceAdd,b1,b2,b3,b4,b5,b6,i1,i2,i3,i4,i5,i6,Nat.reduceBEq,cx,List.length_set,aeX,adP,vY,iY,elz,ela,aP ao,cH,LV.kill,bN];exact rfl):p:=e.mpr k
end aj0
open aj0 in
theorem aAp (p q:List Rat) (R:Nat) (mO:0<p.length) (mS:0<q.length) (h:p.length-1+(q.length-1)<=40) (eJ:1<=R) (hR:R<=67108864) (oQ:∀ x∈p,rl x<=R) (qy:∀ x∈q,rl x<=R):av Tryz.prog 284 [.list 3 (p.map ae),.list 3 (q.map ae)] (.a7 [.list 3 ((lX p q).map ae),iL 0]):=by
 have fv:p.length<=41:=by omega
 have iK:q.length<=41:=by omega
 refine aN Tryz.func284 ?_
 have iY:True:=trivial
 have elz:True:=trivial
 have ela:True:=trivial
 refine bC ?_
 refine ak rfl jm ?_
 refine aL ?_
 refine ak rfl jm ?_
 refine bq ?_
 refine ak rfl w8 ?_
 refine aJ ?_
 refine aC rfl ?_ ?_<;>intro adY yI
 ·omega
 ·refine bf ?_
  refine dy 28 rfl ?_ ?_<;>intro vE oN
  ·exfalso
   omega
  ·refine a6 ?_
   refine aC rfl ?_ ?_<;>intro aju h31
   ·omega
   ·refine a6 ?_
    refine cp aK (agw _ J) ?_
    refine ar ?_
    refine cp aK (agw _ J) ?_
    refine aL ?_
    refine ak rfl w8 ?_
    refine cp aK (agw _ J) ?_
    refine bq ?_
    refine ak rfl w8 ?_
    refine ak rfl cB ?_
    refine eH rfl rfl (.kM (n:=(p.length-1+(q.length-1)+1)) (m:=(p.length-1+(q.length-1)+1)) ml ml om om om) ?_
    refine bu ?_
    refine dJ (fun(i:Nat) L=>((((((((((St.mk L.slot (hp [(44,⟨3,(allM p q i).map ae,true⟩)])).put (some 0) (.list 3 (p.map ae))).put (some 1) (.list 3 (q.map ae))).put (some 8) (.list 3 ((gX (p.length-1)).map ae))).put (some 9) (.list 3 ((gX (q.length-1)).map ae))).put (some 10) (.list 3 ((gX (p.length-1+(q.length-1))).map ae))).put (some 11) (.ref 44 3 0 (p.length-1+(q.length-1)+1))).put (some 45) (.list 3 (p.map ae))).put (some 46) (ah p.length)).put (some 47) (ah i))) (fun i=>i<=p.length) (fun i=>p.length-i) 0 (Nat.zero_le _) ?_
    rintro i L1 hi
    refine aA ?_
    refine aC rfl ?_ ?_<;>intro asI h48
    ·have hip:i<p.length:=by omega
     have eT:=yA (n:=p.length-1) J _ (dg (i:=i) (by rw [vY];omega))
     have p9:=oQ _ (dg (i:=i) hip)
     have hx3:=cO ((gX (p.length-1)).getD i 0) (p.getD i 0)
     refine bp ?_
     refine aY 10 an ?_
     refine bf ?_
     try simp only [t1,cx]
     refine cp aq (gr _ _ J) ?_
     refine bu ?_
     refine dJ (fun(j:Nat) L=>(((((((((((((((St.mk L.slot (hp [(44,⟨3,(vQ ((gX (p.length-1)).getD i 0*p.getD i 0) i (gX (q.length-1)) q (allM p q i) j).map ae,true⟩),(13,⟨3,[ae ((gX (p.length-1)).getD i 0*p.getD i 0)],true⟩)])).put (some 0) (.list 3 (p.map ae))).put (some 1) (.list 3 (q.map ae))).put (some 8) (.list 3 ((gX (p.length-1)).map ae))).put (some 9) (.list 3 ((gX (q.length-1)).map ae))).put (some 10) (.list 3 ((gX (p.length-1+(q.length-1))).map ae))).put (some 11) (.ref 44 3 0 (p.length-1+(q.length-1)+1))).put (some 45) (.list 3 (p.map ae))).put (some 46) (ah p.length)).put (some 47) (ah i)).put (some 12) (ah i)).put (some 13) (.az 13 3 0 0)).put (some 59) (.list 3 (q.map ae))).put (some 60) (ah q.length)).put (some 61) (ah j))) (fun j=>j<=q.length) (fun j=>q.length-j) 0 (Nat.zero_le _) ?_
     rintro j L2 hj
     refine aA ?_
     refine aC rfl ?_ ?_<;>intro aoZ h62
     ·have hjq:j<q.length:=by omega
      have iY:((i:Int)+(j:Int)).toNat=i+j:=by omega
      have hlr:(vQ ((gX (p.length-1)).getD i 0*p.getD i 0) i (gX (q.length-1)) q (allM p q i) j).length=(p.length-1+(q.length-1)+1):=by rw [aeX,adP]
      have hS:=abQ fv iK eJ oQ qy i
      have ho:=ajn (i:=i) J hS (show rl ((gX (p.length-1)).getD i 0*p.getD i 0)<=R+2 by omega) (yA (n:=q.length-1) J) qy eJ j
      have fc:=amM (i:=i) (j:=j) J iK hj hR
      have mb:=ga J ho (i+j)
      have yk:=yA (n:=q.length-1) J _ (dg (i:=j) (by rw [vY];omega))
      have uT:=qy _ (dg (i:=j) hjq)
      have hg4:=cO ((gX (q.length-1)).getD j 0) (q.getD j 0)
      have hg5:=cO ((gX (p.length-1)).getD i 0*p.getD i 0) ((gX (q.length-1)).getD j 0*q.getD j 0)
      refine bC ?_
      refine aY 23 an ?_
      refine aJ ?_
      refine ak rfl w8 ?_
      refine aJ ?_
      refine ak rfl w8 ?_
      refine bp ?_
      try simp only [t1,cx,Nat.zero_add]
      refine cp aq (gr _ _ J) ?_
      try simp only [t1,cx,Nat.zero_add]
      refine cp aq (gr _ _ J) ?_
      try simp only [t1,cx,Nat.zero_add]
      refine cp aq (iw _ _ J) ?_
      refine bC ?_
      exact vx
     ·obtain rfl:j=q.length:=by omega
      refine aA ?_
      refine cq (aw.kill _ 13) ?_
      refine ax ?_
      exact jX
    ·obtain rfl:i=p.length:=by omega
     refine dk ?_
     refine jP (fun(k:Nat) (w:List Rat) L=>((((((St.mk L.slot (hp [(44,⟨3,w.map ae,true⟩)])).put (some 10) (.list 3 ((gX (p.length-1+(q.length-1))).map ae))).put (some 11) (.ref 44 3 0 (p.length-1+(q.length-1)+1))).put (some 89) (.ref 44 3 0 (p.length-1+(q.length-1)+1))).put (some 90) (ah (p.length-1+(q.length-1)+1))).put (some 91) (ah k))) (fun k w=>k<=(p.length-1+(q.length-1)+1)/\w.length=(p.length-1+(q.length-1)+1)/\w.take k=(lX p q).take k/\∀ x,k<=x->w.getD x 0=(allM p q p.length).getD x 0) (fun k w=>(p.length-1+(q.length-1)+1)-k) 0 (allM p q p.length) ⟨Nat.zero_le _,adP _ _ _,rfl,fun x _=>rfl⟩ ?_
     rintro k w L3 ⟨hk,gM,jl,hz⟩
     refine aA ?_
     refine aC rfl ?_ ?_<;>intro aDE h92
     ·have jJ:k<(p.length-1+(q.length-1)+1):=by omega
      have hS:=abQ fv iK eJ oQ qy p.length
      have fc:=amM (i:=p.length) (j:=0) fv iK J hR
      have mb:=ga J hS k
      have yk:=yA (n:=p.length-1+(q.length-1)) h _ (dg (i:=k) (by rw [vY];omega))
      have hzk:=hz k (Nat.le_refl _)
      rw [<-hzk] at mb
      refine bC ?_
      refine aY 12 an ?_
      refine bC ?_
      try simp only [t1,cx,Nat.zero_add]
      refine cp aq (aif _ _ J) ?_
      refine bC ?_
      exact fZ (k+1) (w.set k (w.getD k 0/(gX (p.length-1+(q.length-1))).getD k 0)) ⟨J,by simp [gM],zj (by rw [ya];omega) (by rw [ya,gM]) jl (by rw [auy J,hz k (Nat.le_refl _)]),fun x hx=>by rw [yX _ _ _ _ J,if_neg J];exact hz x J⟩
     ·obtain rfl:k=(p.length-1+(q.length-1)+1):=by omega
      have hE:w=lX p q:=by
       rw [List.take_of_length_le J,List.take_of_length_le (by rw [ya];omega)] at jl
       exact jl
      refine dj ?_
      rw [<-hE]
      exact ag8 [44] rfl rfl (eN ao rfl rfl J) rfl (.pure rfl)
end Go.Proofs.YtckppbhafancnaaGreat
namespace Go.Lg
theorem aw.cell {L:St} (b:Nat) {sz:Nat} {x y:LV} {mt:Bool} (hb:L.heap b=some ⟨sz,[x],mt⟩) (h:∀ Z μ w cs,ay Z μ w x cs->ay Z μ w y cs):aw L (L.bF b (some ⟨sz,[y],mt⟩)):=by
 rintro n W X Z0 a w ⟨dL,bB,μ,Z,hc,hr⟩
 refine⟨dL,bB,μ,Z,?_,hr⟩
 have hs:∀ c,(L.bF b (some ⟨sz,[y],mt⟩)).heap c=if c=b then some ⟨sz,[y],mt⟩ else L.heap c:=fun c=>rfl
 refine⟨hc.cd,hc.kf,hc.iJ,hc.jW,hc.inj,hc.own,hc.x0,hc.mw,hc.x1,fun c id blk g1 g2=>?_,fun c id blk g1 g2=>?_,fun c id g1=>?_⟩
 ·rw [hs] at g2
  split at g2
  ·rename_i e;subst e;cases g2;exact hc.il c id ⟨sz,[x],mt⟩ g1 hb
  ·exact hc.il c id blk g1 g2
 ·rw [hs] at g2
  split at g2
  ·rename_i e;subst e;cases g2;exact hc.bR c id ⟨sz,[x],mt⟩ g1 hb
  ·exact hc.bR c id blk g1 g2
 ·obtain⟨blk,k1,k2⟩:=hc.heap c id g1
  rw [hs]
  by_cases e:c=b
  ·subst e
   rw [if_pos rfl]
   rw [hb] at k1
   cases k1
   refine⟨_,rfl,?_⟩
   obtain⟨cs,T,part,rest,e1,e2,e3⟩:=k2
   refine⟨cs,T,part,rest,e1,e2,?_⟩
   simp only [aM] at e3 ⊢
   obtain⟨c1,c2,q1,q2,q3,q4⟩:=e3
   exact⟨c1,c2,q1,q2,h _ _ _ _ q3,q4⟩
  ·rw [if_neg e];exact⟨blk,k1,k2⟩
theorem aw.tH (L:St) (d sz:Nat) (hd:L.heap d=none):aw L (L.bF d (some ⟨sz,[],true⟩)):=by
 rintro n W X Z0 a w ⟨dL,bB,μ,Z,hc,hr⟩
 refine⟨dL,bB,μ,Z,?_,hr⟩
 refine hc.aex fun c id vD=>?_
 have:c≠d:=by rintro rfl;rw [qX hc hd] at vD;cases vD
 simp [St.bF,this]
theorem abS (d sz:Nat) (x y:LV) (Z:Nat->Prop) (μ:Nat->Option Nat) (w:World) (cs:List Value) (h:ay Z μ w (.agg [x,y,.v (.slice none 0 0)]) cs):ay Z μ w (.agg [x,y,.ref d sz 0 0]) cs:=by
 simp only [ay,b8] at h ⊢
 obtain⟨c1,c2,e1,e2,e3,c3,c4,e4,e5,e6,c5,c6,e7,e8,e9,e10⟩:=h
 exact⟨c1,c2,e1,e2,e3,c3,c4,e4,e5,e6,c5,c6,e7,e8,.inl ⟨e9.1,trivial⟩,e10⟩
end Go.Lg
namespace Go.Proofs.YtckppbhafancnaaGreat
open Go.Lg
def _root_.Go.Lg.V3.at (p:V3):Nat->Rat
 | 0=>p.x
 | 1=>p.y
 | _=>p.z
def bj (po:List aF) (k:Nat):List Rat:=po.map fun q=>q.w*q.p.at k
def aX (po:List aF):List Rat:=po.map fun q=>q.w
theorem n9 (po:List aF) (k:Nat):(bj po k).length=po.length:=by simp [bj]
theorem mD (po:List aF):(aX po).length=po.length:=by simp [aX]
theorem aaH {R:Nat} {p:V3} (h:ck R p):∀ k,rl (p.at k)<=R
 | 0=>h.1
 | 1=>h.2.1
 | _+2=>h.2.2
theorem acF {R:Nat} {po:List aF} (h:∀ q∈po,ow R q) (k:Nat):∀ x∈bj po k,rl x<=2*R:=fun x hx=>by
 obtain⟨q,hq,rfl⟩:=List.mem_map.1 hx
 obtain⟨h1,h2,_⟩:=h q hq
 have h3:=aaH h1 k
 have h4:=cO q.w (q.p.at k)
 show rl (q.w*q.p.at k)<=_
 omega
theorem acI {R:Nat} {po:List aF} (h:∀ q∈po,ow R q):∀ x∈aX po,rl x<=R:=fun x hx=>by
 obtain⟨q,hq,rfl⟩:=List.mem_map.1 hx
 exact(h q hq).2.1
def fC (po:List aF) (k:Nat):List Rat:=sb (·-·) (lX (gh (bj po k)) (aX po)) (lX (bj po k) (gh (aX po)))
theorem aro {p:List Rat} {n:Nat} (hp:p.length=n+1) (h:∀ x∈p,rl x<=1073741824):rC p n:=⟨h,fun k hk=>by
 obtain rfl:k=0:=by omega
 exact h⟩
theorem ajk (p q:List Rat) (n:Nat) (hn:n<=40) (hp:p.length=n+1) (hq:q.length=n+1) (oQ:∀ x∈p,rl x<=1073741824) (qy:∀ x∈q,rl x<=1073741824):av Tryz.prog 251 [.list 3 (p.map ae),.list 3 (q.map ae)] (.list 3 ((sb (·-·) p q).map ae)):=by
 have:=axD p q n J J J J J (.inl hp) (aro hp oQ) (aro hq qy)
 rwa [an5 J,an5 J] at this
theorem anp {p q:List Rat} {R:Nat} (h:p.length-1+(q.length-1)<=40) (fv:p.length<=41) (iK:q.length<=41) (eJ:1<=R) (hR:R<=100) (oQ:∀ x∈p,rl x<=R) (qy:∀ x∈q,rl x<=R):∀ x∈lX p q,rl x<=344700:=fun x hx=>by
 obtain⟨k,hk,rfl⟩:=List.mem_map.1 hx
 have hS:=abQ fv iK eJ oQ qy p.length
 have fc:p.length*(q.length*(2*R+5))<=41*(41*205):=Nat.mul_le_mul fv (Nat.mul_le_mul iK J)
 have mb:=ga J hS k
 have yk:=ga (S:=2) ai (yA (n:=p.length-1+(q.length-1)) h) k
 have h3:=oH ((allM p q p.length).getD k 0) ((gX (p.length-1+(q.length-1))).getD k 0)
 omega
theorem anc {R:Nat} {p q:List Rat} {g:Rat->Rat->Rat} (hg:∀ a b,rl (g a b)<=rl a+rl b+1) (hR:1<=R) (hp:∀ x∈p,rl x<=R) (hq:∀ x∈q,rl x<=R):∀ x∈sb g p q,rl x<=2*R+1:=fun x hx=>by
 obtain⟨i,_,rfl⟩:=List.mem_map.1 hx
 have h1:=ga hR hp i
 have h2:=ga hR hq i
 have h3:=hg (p.getD i 0) (q.getD i 0)
 omega
structure mB (po:List aF) (d:Nat):Prop where
 hl:po.length=d+1
 hd:1<=d
 h6:d<=6
 ok:∀ q∈po,ow 1 q
section
variable {po:List aF} {d:Nat} (h:mB po d)
theorem mB.n (h:mB po d) (k:Nat):(bj po k).length=d+1/\∀ x∈bj po k,rl x<=2:=⟨by rw [n9,h.hl],acF h.ok k⟩
theorem mB.w (h:mB po d):(aX po).length=d+1/\∀ x∈aX po,rl x<=2:=⟨by rw [mD,h.hl],fun x hx=>Nat.le_trans (acI h.ok x hx) ai⟩
theorem mB.dn (h:mB po d) (k:Nat):(gh (bj po k)).length=d/\∀ x∈gh (bj po k),rl x<=8:=by
 obtain⟨h1,h2⟩:=h.n k
 have:=h.hd
 have:=h.h6
 exact⟨by rw [aaB,h1,if_neg J];omega,ad4 ai J h2⟩
theorem mB.dw (h:mB po d):(gh (aX po)).length=d/\∀ x∈gh (aX po),rl x<=8:=by
 obtain⟨h1,h2⟩:=h.w
 have:=h.hd
 have:=h.h6
 exact⟨by rw [aaB,h1,if_neg J];omega,ad4 ai J h2⟩
theorem mB.m1 (h:mB po d) (k:Nat):(lX (gh (bj po k)) (aX po)).length=2*d-1+1/\∀ x∈lX (gh (bj po k)) (aX po),rl x<=344700:=by
 obtain⟨h1,h2⟩:=h.dn k
 obtain⟨h3,h4⟩:=h.w
 have:=h.hd
 have:=h.h6
 exact⟨by rw [ya,h1,h3];omega,anp (R:=8) J J J ai ai h2 (fun x hx=>Nat.le_trans (h4 x hx) ai)⟩
theorem mB.m2 (h:mB po d) (k:Nat):(lX (bj po k) (gh (aX po))).length=2*d-1+1/\∀ x∈lX (bj po k) (gh (aX po)),rl x<=344700:=by
 obtain⟨h1,h2⟩:=h.n k
 obtain⟨h3,h4⟩:=h.dw
 have:=h.hd
 have:=h.h6
 exact⟨by rw [ya,h1,h3];omega,anp (R:=8) J J J ai ai (fun x hx=>Nat.le_trans (h2 x hx) ai) h4⟩
theorem mB.t (h:mB po d) (k:Nat):(fC po k).length=2*d-1+1/\∀ x∈fC po k,rl x<=689401:=by
 obtain⟨h1,h2⟩:=h.m1 k
 obtain⟨_,h4⟩:=h.m2 k
 exact⟨by rw [fC,afA,h1],fun x hx=>anc iq ai h2 h4 x hx⟩
end
theorem afI {Z:Nat->Prop} {μ:Nat->Option Nat} {w:World} {cs:List Value} (d sz:Nat) (h:ay Z μ w (.v (.slice none 0 0)) cs):ay Z μ w (.ref d sz 0 0) cs:=by
 simp only [ay] at h ⊢
 exact .inl ⟨h.1,trivial⟩
theorem aws (a b c d:Nat) (sz:Nat) (Z:Nat->Prop) (μ:Nat->Option Nat) (w:World) (cs:List Value) (h:ay Z μ w (.agg [.v (.slice none 0 0),.v (.slice none 0 0),.v (.slice none 0 0),.v (.slice none 0 0)]) cs) :
  ay Z μ w (.agg [.ref a sz 0 0,.ref b sz 0 0,.ref c sz 0 0,.ref d sz 0 0]) cs:=by
 simp only [ay.eq_4,b8] at h ⊢
 obtain⟨c1,c2,e1,e2,e3,c3,c4,e4,e5,e6,c5,c6,e7,e8,e9,c7,c8,e10,e11,e12,e13⟩:=h
 exact⟨c1,c2,e1,e2,afI _ _ e3,c3,c4,e4,e5,afI _ _ e6,c5,c6,e7,e8,afI _ _ e9,c7,c8,e10,e11,afI _ _ e12,e13⟩
theorem zO {α β:Type} [Inhabited α] (f:α->β) (l:List α) {j:Nat} (h:j<l.length):(l.map f).take j++[f (l.getD j default)]=(l.map f).take (j+1):=by
 rw [List.take_add_one,List.getElem?_map,List.getElem?_eq_getElem h,List.getD_eq_getElem?_getD,List.getElem?_eq_getElem h];rfl
theorem qI {po:List aF} {j:Nat} (h:j<po.length):po.getD j default∈po:=by
 rw [List.getD_eq_getElem?_getD,List.getElem?_eq_getElem h];exact List.getElem_mem h
open H0 in
theorem abx (p q:List Rat) (R:Nat) (mO:0<p.length) (mS:0<q.length) (h:p.length-1+(q.length-1)<=40) (eJ:1<=R) (hR:R<=67108864) (oQ:∀ x∈p,rl x<=R) (qy:∀ x∈q,rl x<=R):av Tryz.prog 252 [.list 3 (p.map ae),.list 3 (q.map ae)] (.list 3 ((lX p q).map ae)):=by
 refine aN Tryz.func252 ?_
 refine bq ?_
 refine cp aq (aAp p q R mO mS h eJ hR oQ qy) ?_
 refine dk ?_
 exact dF
theorem aip {a:Rat} (h:cM a=0):a=0:=by
 rcases ar5 a with⟨g,e⟩ | ⟨_,e⟩ | ⟨_,e⟩
 ·exact g
 ·rw [e] at h;cases h
 ·rw [e] at h;cases h
namespace akm
theorem aH {p q:Prop} (k:q) (e:p=q:=by simp only [e1,e2,e3,e4,p1,p2,p3,q1,q2,q3,l1,t0,t1,r1,r2,r3,r4,Nat.zero_add,Nat.reduceMul,Nat.reduceAdd,b1,b2,b3,b4,b5,b6,i1,i2,i3,i4,i5,i6,Nat.reduceBEq,cx,ejm,List.length_set];exact rfl):p:=e.mpr k
end akm
open akm in
theorem azx (p:List Rat) (n:Nat) (fv:p.length=n) (g7:0<n) (hn:n<=1048576):lE Tryz.prog 179 ⟨3,p.map ae,true⟩ [.ref 0 3 0 n] (.a7 []) ⟨3,p.reverse.map ae,true⟩:=by
 refine tD Tryz.func179 ?_
 have ejm:True:=trivial
 refine ax ?_
 refine ak rfl jm ?_
 refine a6 ?_
 refine rH (fun(i j:Nat) (o:List Rat) L=>((((St.mk L.slot (hp [(0,⟨3,o.map ae,true⟩)])).put (some 0) (.ref 0 3 0 n)).put (some 2) (ah i)).put (some 3) (ah j))) (fun i j o=>j+i+1=n/\o.length=n/\∀ x,x<n->o.getD x 0=if x<i\/n<=x+i then p.getD (n-1-x) 0 else p.getD x 0) (fun i j o=>j) 0 (n-1) p ⟨J,fv,fun x hx=>by rw [if_neg J]⟩ ?_
 rintro i j o L1 ⟨qF,cJ,hg⟩
 refine bf ?_
 refine aC rfl ?_ ?_<;>intro tf h9
 ·have ejm:((j:Int)-1)=((j-1:Nat):Int):=by omega
  refine ax ?_
  refine fY 13 [2,3] an ?_
  refine ahJ ?_
  exact p7 (i+1) (j-1) ((o.set i (o.getD j 0)).set j (o.getD i 0)) ⟨J,by simp [cJ],axE fv cJ J qF hg⟩
 ·refine ax ?_
  have hE:=au0 fv cJ J hg
  rw [<-hE]
  exact ar7 rfl rfl (aW ao _)
namespace alP
theorem aH {p q:Prop} (k:q) (e:p=q:=by simp only [e1,e2,e3,e4,p1,p2,p3,q1,q2,q3,l1,t0,t1,r1,r2,r3,r4,Nat.zero_add,Nat.reduceMul,Nat.reduceAdd,b1,b2,b3,b4,b5,b6,i1,i2,i3,i4,i5,i6,Nat.reduceBEq,cx,r1r,aP ao,cH,dO,LV.kill,bN];exact rfl):p:=e.mpr k
end alP
open alP in
theorem aus (p:List Rat) (a b:Rat) (mO:0<p.length) (hl:p.length<=1048576) (ma:∀ x∈p,rl x<=274877906944) (cu:rl a+rl b<=1073741824) (g1:1-a≠0->HS p a/\HS (lF p a) ((b-a)/(1-a))) (g2:1-a=0->b≠0->HS p b/\HS (nT p b) (1/b)):av Tryz.prog 94 [.list 3 (p.map ae),ae a,ae b] (.list 3 ((uh p a b).map ae)):=by
 have g8:=iq 1 a
 have nH:=iq b a
 have z7:rl 1=1:=rfl
 refine aN Tryz.func94 ?_
 refine bq ?_
 refine cp aK (uc 1 ai ai) ?_
 refine bq ?_
 refine cp aq (py 1 a J) ?_
 refine aR ?_
 refine cp aK (vB (1-a) J) ?_
 refine aJ ?_
 refine aC rfl ?_ ?_<;>intro pw rn
 ·have aQ:1-a≠0:=aok rn
  obtain⟨gA,gB⟩:=g1 aQ
  have hE:uh p a b=nT (lF p a) ((b-a)/(1-a)):=by rw [uh,if_pos aQ]
  refine ax ?_
  refine cp aq (acb p a gA) ?_
  refine bf ?_
  refine aY 12 an ?_
  refine aJ ?_
  refine cp aq (py b a J) ?_
  refine ar ?_
  refine cp aq (aif (b-a) (1-a) J) ?_
  refine cp aq (acb (lF p a) ((b-a)/(1-a)) gB) ?_
  refine gz ?_
  rw [hE]
  exact dF
 ·have aQ:1-a=0:=aip J
  refine aA ?_
  refine cp aK (vB b J) ?_
  refine aJ ?_
  refine aC rfl ?_ ?_<;>intro awT h44
  ·have yJ:b≠0:=aok h44
   obtain⟨gA,gB⟩:=g2 aQ yJ
   have hE:uh p a b=lF (nT p b) (1/b):=by rw [uh,if_neg (by rw [aQ];simp),if_pos yJ]
   refine ax ?_
   refine cp aq (acb p b gA) ?_
   refine bu ?_
   refine cp aq (aif 1 b J) ?_
   refine cp aq (acb (nT p b) (1/b) gB) ?_
   refine gz ?_
   rw [hE]
   exact dF
  ·have yJ:b=0:=aip J
   have hE:uh p a b=p.reverse:=by rw [uh,if_neg (by rw [aQ];simp),if_neg (by rw [yJ];simp)]
   refine a6 ?_
   refine y7 [] rfl rfl (.cons (.pure (et ao _ _)) .nil) (ahK p hl ma) (aW ao _) rfl ?_
   refine aA ?_
   refine uA 1000977 rfl rfl rfl (aW ao _) (.cons .ref .nil) (.ref mO) (azx p p.length rfl mO hl) rfl (aW ao _) ?_
   refine bq ?_
   rw [hE]
   exact mz [1000977] rfl rfl (eN ao rfl rfl aO)
def lin (α β:Rat):Rat->List Rat->List Rat
 | c,[]=>[β*c]
 | c,x :: l=>(β*c+α*x) :: lin α β x l
inductive KS:Nat->List Rat->Prop
 | z {s:Int} {l:List Rat}:l≠[]->s=1\/s=-1->(∀ x∈l,cM x=s)->KS 0 l
 | r {n:Nat} {l:List Rat} {a b:Rat}:KS n l->0<a->0<b->KS (n+1) (lin (-a) b 0 l)
theorem abK {a b:Rat}:fh a b<0↔a<b:=by
 unfold fh;split
 ·simp [*]
 ·split<;>simp [*]
theorem ag1 {P:Program} {L:St} {a u:Nat} {T U:TypeId} {b c sz sy:Nat} {x y x' y':LV} {m m':Bool} {n n':Nat} {ag zT:Bool} (bs:List Nat) (h0:bs.contains 0=false) (h:L.slot a=.az b sz 0 0) (hb:L.heap b=some ⟨sz,[x],m⟩)
  (hx:x.au=sz) (bV:x.at 0 n ag=some x) (hT:bo P T n ag) (hi:cG (L.bR bs).heap x y) (h':L.slot u=.az c sy 0 0) (hc:L.heap c=some ⟨sy,[x'],m'⟩)
  (hx':x'.au=sy) (ahe:x'.at 0 n' zT=some x') (hT':bo P U n' zT) (lT:cG (L.bR bs).heap x' y'):nt P [.cell a T,.cell u U] L (.a7 [y,y']) [] :=
 ⟨[x,x'],[y,y'],(L.bR bs).heap,[],.cons ⟨b,sz,0,0,_,x,n,ag,h,hb,rfl,rfl,hx,bV,hT⟩ (.cons ⟨c,sy,0,0,_,x',n',zT,h',hc,rfl,rfl,hx',ahe,hT'⟩ .nil),pG bs h0,.cons (.cf hi) (.cons (.cf lT) .nil),List.nodup_nil,rfl,fun k b h=>by simp at h,rfl⟩
section
variable {P:Program} {H:bK} {ρ:Operand->LV} {T E:TypeId}
end
theorem asZ (po:List aF) (i:Nat):(po.map (·.p)).getD i default=(po.getD i default).p:=by
 rw [List.getD_eq_getElem?_getD,List.getD_eq_getElem?_getD,List.getElem?_map]
 cases po[i]?<;>rfl
def aaP {α:Type} (pr:α->Bool) (l:List α):Int:=if l.any pr then(l.findIdx pr:Nat) else -1
theorem abR {α:Type} [Inhabited α] {pr:α->Bool} {l:List α} {i:Nat} (hi:i<l.length) (h0:∀ j,j<i->pr (l.getD j default)=false) (h:pr (l.getD i default)=true):aaP pr l=(i:Int):=by
 have hg:∀ j (hj:j<l.length),l.getD j default=l[j]:=fun j hj=>by rw [List.getD_eq_getElem?_getD,List.getElem?_eq_getElem hj];rfl
 have e:l.findIdx pr=i:=by
  rw [List.findIdx_eq hi]
  refine⟨by rw [<-hg i hi];exact h,fun j hj=>?_⟩
  rw [<-hg j J];exact h0 j hj
 have ha:l.any pr=true:=List.any_eq_true.2 ⟨l[i],List.getElem_mem hi,by rw [<-hg i hi];exact h⟩
 unfold aaP
 rw [if_pos ha,e]
theorem asx {α:Type} [Inhabited α] {pr:α->Bool} {l:List α} (h0:∀ j,j<l.length->pr (l.getD j default)=false):aaP pr l=-1:=by
 have ha:l.any pr=false:=by
  rw [List.any_eq_false]
  intro x hx
  obtain⟨i,hi,rfl⟩:=List.mem_iff_getElem.1 hx
  have:=h0 i hi
  rw [List.getD_eq_getElem?_getD,List.getElem?_eq_getElem hi] at this
  simpa using this
 unfold aaP
 rw [if_neg (by rw [ha];decide)]
theorem an3 {α:Type} [Inhabited α] {l:List α} {i:Nat} (h:i<l.length):l.getD i default∈l:=by
 rw [List.getD_eq_getElem?_getD,List.getElem?_eq_getElem h];exact List.getElem_mem h
theorem akW {a b:Nat} (h:al a=al b):a=b:=by rw [<-bU a,h,bU]
section
variable {a b:Rat}
theorem auV (h2:decide (al a.num.natAbs=al b.num.natAbs)=false):false=decide (a=b):=by
 symm;rw [decide_eq_false_iff_not];rintro rfl;simp at h2
theorem aCM (h:(decide (a<0)==decide (b<0))=true) (h2:decide (al a.num.natAbs=al b.num.natAbs)=true):decide (al (iD a)=al (iD b))=decide (a=b):=by
 rw [decide_eq_decide,aft]
 exact⟨fun h3=>⟨eq_of_beq h,akW (of_decide_eq_true h2),akW h3⟩,fun h3=>by rw [h3.2.2]⟩
end
def fp (k:List Rat) (t:Rat):Nat->Nat
 | 0=>0
 | i+1=>fp k t i+(if k.getD i 0=t then 1 else 0)
theorem ac7 (k:List Rat) (t:Rat):∀ i,fp k t i<=i
 | 0=>Nat.le_refl _
 | i+1=>by have:=ac7 k t i;rw [fp];split<;>omega
def cT (k:List Rat):Nat->List Rat
 | 0=>[]
 | i+1=>if i=0\/k.getD i 0≠k.getD (i-1) 0 then cT k i++[k.getD i 0] else cT k i
theorem apf (k:List Rat):∀ i,(cT k i).length<=i
 | 0=>Nat.le_refl _
 | i+1=>by
  have:=apf k i
  rw [cT];split
  ·simp;omega
  ·omega
theorem agy (k:List Rat):∀ i,i<=k.length->∀ x∈cT k i,x∈k
 | 0,_,x,h=>by cases h
 | i+1,hi,x,h=>by
  rw [cT] at h
  split at h
  ·rcases List.mem_append.1 h with h | h
   ·exact agy k i J x h
   ·rw [List.mem_singleton.1 h];exact dg J
  ·exact agy k i J x h
structure yi (k:List Rat) (d:Nat):Prop where
 d1:1<=d
 d6:d<=6
 len:2*d+2<=k.length
 max:k.length<=d+41
 x9:∀ i,i+1<k.length->k.getD i 0<=k.getD (i+1) 0
 ne:k.getD 0 0≠k.getD (k.length-1) 0
 azN:∀ t∈k,(t=k.getD 0 0\/t=k.getD (k.length-1) 0)->fp k t k.length=d+1
 ink:∀ t∈k,t≠k.getD 0 0->t≠k.getD (k.length-1) 0->fp k t k.length<=d
 sz:∀ x∈k,rl x<=64
theorem afQ {k:List Rat}:∀ i,i<=k.length->(∀ j,1<=j->j<i->k.getD j 0≠k.getD (j-1) 0)->cT k i=k.take i
 | 0,_,_=>rfl
 | i+1,hi,h=>by
  rw [cT,afQ i J (fun j h1 h2=>h j h1 J),if_pos (by
   by_cases e:i=0
   ·exact .inl e
   ·exact .inr (h i J J)),List.take_add_one,List.getD_eq_getElem?_getD,List.getElem?_eq_getElem J];rfl
theorem afm {k:List Rat} {i:Nat} (h0:0<i) (h:k.getD i 0≠k.getD (i-1) 0):cT k (i+1)=cT k i++[k.getD i 0]:=by rw [cT,if_pos (.inr h)]
theorem aaJ {k:List Rat} {i:Nat} (h0:0<i) (h:k.getD i 0=k.getD (i-1) 0):cT k (i+1)=cT k i:=by rw [cT,if_neg (fun e=>e.elim (fun e=>by omega) (fun e=>e h))]
theorem azb {w:List Rat} {m n:Nat} (hm:m<=n) (hw:w.length=n):(w.map ae).take m++List.replicate (n-m) (ae 0)++(w.map ae).drop (m+(n-m))=(w.take m++List.replicate (n-m) 0).map ae:=by
 rw [List.drop_of_length_le bm]
 simp [List.map_take]
theorem aal {l:List Rat} {k:Nat} (h:k<l.length):l.take k++[l.getD k 0]=l.take (k+1):=by
 rw [List.take_add_one,List.getElem?_eq_getElem h,List.getD_eq_getElem?_getD,List.getElem?_eq_getElem h];rfl
theorem axe {α:Type} {e:α->LV} {ag:Bool} {bs:List Nat} {L:St} {b sz len:Nat} {l m:List α} {t:Bool} (he:gL e sz ag) (hb:L.heap b=some ⟨sz,(l++m).map e,t⟩) (pV:bs.contains b=true) (hl:len=l.length):cG (L.bR bs).heap (.ref b sz 0 len) (.list sz (l.map e)):=by
 have:=adv (off:=0) (len:=len) hb pV (aW he _) bm
 subst hl
 rwa [List.drop_zero,<-List.map_take,List.take_left] at this
open H0 in
theorem vV (a b:Rat) (h:rl a+rl b<=1099511627776):av Tryz.prog 156 [ae a,ae b] (bL (decide (a=b))):=by
 have a1:=kW a
 have a3:=lM a
 have c1:=kW b
 have c3:=lM b
 refine aN Tryz.func156 ?_
 refine gz ?_
 refine dy 10 rfl ?_ ?_<;>intro l9 rR
 ·refine ax ?_
  refine cp aq (aeW _ _ J J) ?_
  refine aL ?_
  refine dy 17 rfl ?_ ?_<;>intro aaW xX
  ·refine ax ?_
   refine cp aq (aeW _ _ J J) ?_
   refine a6 ?_
   rw [<-aCM l9 aaW]
   exact dF
  ·refine bC ?_
   rw [<-auV aaW]
   exact dF
 ·refine im ?_
  rw [<-amP l9]
  exact dF
namespace aqm
theorem aH {p q:Prop} (k:q) (e:p=q:=by simp only [e1,e2,e3,e4,p1,p2,p3,q1,q2,q3,l1,t0,t1,r1,r2,r3,r4,Nat.zero_add,Nat.reduceMul,Nat.reduceAdd,b1,b2,b3,b4,b5,b6,i1,i2,i3,i4,i5,i6,Nat.reduceBEq,cx,iY,uN,List.set_cons_zero,List.set_cons_succ,Nat.reduceEqDiff,reduceIte,if_true,if_false,dW,ec,aP bg,aP bw,aP ao,cH,dO,LV.kill,bN];exact rfl):p:=e.mpr k
end aqm
open aqm in
theorem aAR (f:Nat) (k:List Rat) (h0:0<k.length) (hl:k.length<=1048576) (hs:∀ i,i+1<k.length->k.getD i 0<=k.getD (i+1) 0) (hf:∀ x∈k,∀ y∈k,av Tryz.prog f [ae x,ae y] (iL (fh x y))):av Tryz.prog 239 [.list 3 (k.map ae),.cV f []] (bL true):=by
 refine aN Tryz.func239 ?_
 have iY:True:=trivial
 have uN:True:=trivial
 refine bC ?_
 refine ak rfl jm ?_
 refine ax ?_
 refine dJ (fun(i:Nat) L=>((((St.mk L.slot (hp [])).put (some 0) (.list 3 (k.map ae))).put (some 1) (.cV f [])).put (some 5) (ah i))) (fun i=>i<k.length) (fun i=>i) (k.length-1) J ?_
 rintro i L1 hi
 refine aR ?_
 refine aC rfl ?_ ?_<;>intro l9 rR
 ·have dB:0<i:=by omega
  have iY:((i:Int)-1).toNat=i-1:=by omega
  have uN:((i:Int)).toNat=i:=by omega
  have hc:=hf _ (dg (p:=k) (i:=i) hi) _ (dg (p:=k) (i:=i-1) J)
  have jf:=hs (i-1) J
  rw [Nat.sub_add_cancel J] at jf
  have hcg:0<=fh (k.getD i 0) (k.getD (i-1) 0):=sM.2 jf
  refine a6 ?_
  refine aY 12 an ?_
  refine aR ?_
  refine ak rfl jm ?_
  refine aL ?_
  refine mK [] rfl rfl (.cV (f:=f) (cap:=[]) (args:=[ae (k.getD i 0),ae (k.getD (i-1) 0)]) rfl (.cons eI (.cons eI .nil)) ⟨rfl,fun _ h=>by cases h⟩ hc.1 ai (fun _ h=>by cases h)) (hc.2 _) ?_
  refine aJ ?_
  refine aC rfl ?_ ?_<;>intro pw rn
  ·omega
  ·refine a6 ?_
   refine ak rfl jm ?_
   refine aJ ?_
   exact iG (i-1) J
 ·refine bp ?_
  exact mF
namespace ajK
theorem aH {p q:Prop} (k:q) (e:p=q:=by simp only [e1,e2,e3,e4,p1,p2,p3,q1,q2,q3,l1,t0,t1,r1,r2,r3,r4,Nat.zero_add,Nat.reduceMul,Nat.reduceAdd,b1,b2,b3,b4,b5,b6,i1,i2,i3,i4,i5,i6,Nat.reduceBEq,cx,List.set_cons_zero,List.set_cons_succ,Nat.reduceEqDiff,reduceIte,if_true,if_false,dW,ec,aP bg,aP bw,aP ao,cH,dO,LV.kill,bN];exact rfl):p:=e.mpr k
end ajK
open ajK in
theorem aeP (k:List Rat) (hl:k.length<=1048576) (hr:∀ x∈k,rl x<=549755813888) (t:Rat) (ht:rl t<=549755813888):av Tryz.prog 158 [.list 3 (k.map ae),ae t] (ah (fp k t k.length)):=by
 refine aN Tryz.func158 ?_
 refine nj ?_
 refine dJ (fun(i:Nat) L=>((((((St.mk L.slot (hp [(3,⟨3,[ae t],true⟩)])).put (some 3) (.az 3 3 0 0)).put (some 5) (ah (fp k t i))).put (some 8) (.list 3 (k.map ae))).put (some 9) (ah k.length)).put (some 10) (ah i))) (fun i=>i<=k.length) (fun i=>k.length-i) 0 (Nat.zero_le _) ?_
 rintro i L1 hi
 refine aA ?_
 refine aC rfl ?_ ?_<;>intro aeE zY
 ·have dB:i<k.length:=by omega
  have hx:=hr _ (dg (i:=i) J)
  have xx:=ac7 k t i
  refine mA ?_
  refine cp aq (vV (k.getD i 0) t J) ?_
  refine aL ?_
  refine aC rfl ?_ ?_<;>intro yn vo
  ·have hT:fp k t (i+1)=fp k t i+1:=by rw [fp,if_pos vo]
   refine aL ?_
   refine ak rfl cB ?_
   refine ax ?_
   refine cq (aw.kill _ 7) ?_
   refine ak rfl cB ?_
   refine aJ ?_
   exact jX
  ·have hT:fp k t (i+1)=fp k t i:=by rw [fp,if_neg vo];rfl
   refine aJ ?_
   refine cq (aw.kill _ 7) ?_
   refine ak rfl cB ?_
   refine aJ ?_
   exact jX
 ·obtain rfl:i=k.length:=by omega
  refine bu ?_
  exact mF
namespace aol
theorem aH {p q:Prop} (k:q) (e:p=q:=by simp only [e1,e2,e3,e4,p1,p2,p3,q1,q2,q3,l1,t0,t1,r1,r2,r3,r4,Nat.zero_add,Nat.reduceMul,Nat.reduceAdd,b1,b2,b3,b4,b5,b6,i1,i2,i3,i4,i5,i6,Nat.reduceBEq,cx,iY,uN,eik,eia,uo,eyl,ewa,ewb,Nat.zero_add,Nat.add_zero,List.length_set,List.length_map,List.set_cons_zero,List.set_cons_succ,Nat.reduceEqDiff,reduceIte,if_true,if_false,dW,ec,aP bg,aP bw,aP ao,cH,dO,LV.kill,bN];exact rfl):p:=e.mpr k
end aol
open aol in
theorem azn (f:Nat) (l:List Rat) (h0:0<l.length) (hl:l.length<=1048576) (hf:∀ x∈l,∀ y∈l,av Tryz.prog f [ae x,ae y] (bL (decide (x=y)))):lE Tryz.prog 154 ⟨3,l.map ae,true⟩ [.ref 0 3 0 l.length,.cV f []] (.ref 0 3 0 (cT l l.length).length) ⟨3,((cT l l.length)++List.replicate (l.length-(cT l l.length).length) 0).map ae,true⟩:=by
 refine tD Tryz.func154 ?_
 have iY:True:=trivial
 have uN:True:=trivial
 have eik:True:=trivial
 have eia:True:=trivial
 have uo:True:=trivial
 have eyl:True:=trivial
 have ewa:True:=trivial
 have ewb:True:=trivial
 refine dj ?_
 refine aC rfl ?_ ?_<;>intro l9 rR
 ·obtain aEd:l.length=1:=by omega
  have hE:(cT l l.length)=l:=by rw [afQ _ (Nat.le_refl _) (fun j h1 h2=>by omega),List.take_length]
  refine bf ?_
  first | (rw [hE,Nat.sub_self,List.replicate_zero,List.append_nil];exact sB rfl .ref rfl rfl (aW ao _)) | (exact sB rfl .ref (by first | rfl | (simp;done)) rfl (aW ao _))
 ·refine bq ?_
  refine dJ (fun(i:Nat) L=>((((St.mk L.slot (hp [(0,⟨3,l.map ae,true⟩)])).put (some 0) (.ref 0 3 0 l.length)).put (some 1) (.cV f [])).put (some 5) (ah i))) (fun i=>1<=i/\i<=l.length/\∀ j,1<=j->j<i->l.getD j 0≠l.getD (j-1) 0) (fun i=>l.length-i) 1 ⟨Nat.le_refl _,J,fun j h1 h2=>by omega⟩ ?_
  rintro i L1 ⟨qz,hil,aQ⟩
  refine bq ?_
  refine aC rfl ?_ ?_<;>intro nB k6
  ·have dB:i<l.length:=by omega
   have iY:((i:Int)-1).toNat=i-1:=by omega
   have uN:((i:Int)).toNat=i:=by omega
   have hc:=hf _ (dg (p:=l) (i:=i) dB) _ (dg (p:=l) (i:=i-1) J)
   refine a6 ?_
   refine aY 11 an ?_
   refine aR ?_
   refine ak rfl jm ?_
   refine aL ?_
   try simp only [t1,cx,iY,uN,Nat.zero_add]
   refine mK [] rfl rfl (.cV (f:=f) (cap:=[]) (args:=[ae (l.getD i 0),ae (l.getD (i-1) 0)]) rfl (.cons eI (.cons eI .nil)) ⟨rfl,fun _ h=>by cases h⟩ hc.1 ai (fun _ h=>by cases h)) (hc.2 _) ?_
   refine aL ?_
   refine aC rfl ?_ ?_<;>intro vE oN
   ·have hdi:cT l (i+1)=cT l i:=aaJ J oN
    have jB:cT l i=l.take i:=afQ i hil aQ
    have hln:(l.take i).length=i:=by rw [List.length_take];omega
    have cQ:1<=1/\i+1<=l.length/\l.length=l.length/\(cT l (i+1)).length+1<=i+1/\l.take (cT l (i+1)).length=cT l (i+1)/\∀ x,i+1-1<=x->l.getD x 0=l.getD x 0:=⟨Nat.le_refl _,J,rfl,by rw [hdi,jB,hln];omega,by rw [hdi,jB,hln],fun _ _=>rfl⟩
    have eia:(cT l (i+1)).length=i:=by rw [hdi,jB,hln]
    refine ax ?_
    refine ak rfl (.tL (a:=i) (h:=l.length) rfl Tryz.underlying25 cK (fun y hy=>by cases hy;exact⟨_,rfl⟩) (fun h=>by cases h) (fun y hy=>by cases hy) (fun _=>rfl) om om om) ?_
    refine bC ?_
    refine jP (fun(j:Nat) (w:List Rat) L=>((((((St.mk L.slot (hp [(0,⟨3,w.map ae,true⟩)])).put (some 0) (.ref 0 3 0 l.length)).put (some 1) (.cV f [])).put (some 5) (ah (cT l (i+j)).length)).put (some 6) (.ref 0 3 i (l.length-i))).put (some 7) (ah j))) (fun j w=>1<=j/\i+j<=l.length/\w.length=l.length/\(cT l (i+j)).length+1<=i+j/\w.take (cT l (i+j)).length=(cT l (i+j))/\∀ x,i+j-1<=x->w.getD x 0=l.getD x 0) (fun j w=>l.length-(i+j)) 1 l cQ ?_
    rintro j w L2 ⟨hj1,qF,gM,kT,jl,hwx⟩
    refine bq ?_
    refine aC rfl ?_ ?_<;>intro w9 wQ
    ·have hi3:i+j<l.length:=by omega
     have ewa:w.getD (i+j) 0=l.getD (i+j) 0:=hwx _ J
     have ewb:w.getD (i+(j-1)) 0=l.getD (i+j-1) 0:=by rw [show i+(j-1)=i+j-1 by omega];exact hwx _ J
     have eik:((j:Int)-1).toNat=j-1:=by omega
     have hc:=hf _ (dg (p:=l) (i:=i+j) hi3) _ (dg (p:=l) (i:=i+j-1) J)
     have ug:(cT l (i+j)).length<l.length:=by omega
     refine a6 ?_
     refine aY 12 an ?_
     refine aR ?_
     refine ak rfl jm ?_
     refine aL ?_
     try simp only [t1,cx,eik,ewa,ewb]
     refine mK [] rfl rfl (.cV (f:=f) (cap:=[]) (args:=[ae (l.getD (i+j) 0),ae (l.getD (i+j-1) 0)]) rfl (.cons eI (.cons eI .nil)) ⟨rfl,fun _ h=>by cases h⟩ hc.1 ai (fun _ h=>by cases h)) (hc.2 _) ?_
     refine aJ ?_
     refine aC rfl ?_ ?_<;>intro yO zy
     ·have hy:=afm (k:=l) (i:=i+j) J zy
      have eyl:(cT l (i+(j+1))).length=(cT l (i+j)).length+1:=by rw [<-Nat.add_assoc,hy];simp
      have wM:(cT l (i+j+1)).length=(cT l (i+j)).length+1:=by rw [hy];simp
      have hnA:1<=j+1/\i+(j+1)<=l.length/\(w.set (cT l (i+j)).length (l.getD (i+j) 0)).length=l.length/\(cT l (i+(j+1))).length+1<=i+(j+1)/\(w.set (cT l (i+j)).length (l.getD (i+j) 0)).take (cT l (i+(j+1))).length=cT l (i+(j+1))/\∀ x,i+(j+1)-1<=x->(w.set (cT l (i+j)).length (l.getD (i+j) 0)).getD x 0=l.getD x 0:=⟨J,J,by simp [gM],by rw [<-Nat.add_assoc,wM];omega,by rw [<-Nat.add_assoc,wM,hy,List.take_add_one,List.take_set_of_le (Nat.le_refl _),jl,List.getElem?_set_self J];rfl,fun x hx=>by rw [yX _ _ _ _ J,if_neg J];exact hwx x J⟩
      refine bq ?_
      try simp only [t1,cx,ewa,Nat.zero_add]
      refine a6 ?_
      refine ak rfl cB ?_
      refine aA ?_
      refine ak rfl cB ?_
      refine aJ ?_
      exact fZ (j+1) (w.set (cT l (i+j)).length (l.getD (i+j) 0)) hnA
     ·have hy:=aaJ (k:=l) (i:=i+j) J zy
      have eyl:(cT l (i+(j+1))).length=(cT l (i+j)).length:=by rw [<-Nat.add_assoc,hy]
      have hnB:1<=j+1/\i+(j+1)<=l.length/\w.length=l.length/\(cT l (i+(j+1))).length+1<=i+(j+1)/\w.take (cT l (i+(j+1))).length=cT l (i+(j+1))/\∀ x,i+(j+1)-1<=x->w.getD x 0=l.getD x 0:=⟨J,J,gM,by rw [<-Nat.add_assoc,hy];omega,by rw [<-Nat.add_assoc,hy];exact jl,fun x hx=>hwx x J⟩
      refine a6 ?_
      refine ak rfl cB ?_
      refine aJ ?_
      exact fZ (j+1) w hnB
    ·obtain rfl:j=l.length-i:=by omega
     have eia:i+(l.length-i)=l.length:=by omega
     have fJ:=kT
     rw [eia] at kT jl
     have uo:=azb (w:=w) (m:=(cT l l.length).length) (n:=l.length) J gM
     rw [jl] at uo
     refine bq ?_
     refine ak rfl (.tL (a:=(cT l (i+(l.length-i))).length) (h:=l.length) rfl Tryz.underlying25 cK (fun y hy=>by cases hy;exact⟨_,rfl⟩) (fun h=>by cases h) (fun y hy=>by cases hy) (fun _=>rfl) om om om) ?_
     refine bI rfl (.clr (n:=l.length-(cT l (i+(l.length-i))).length) (off:=0+(cT l (i+(l.length-i))).length) (z:=ae 0) (blk:=⟨3,w.map ae,true⟩) rfl rfl rfl rfl kB Tryz.underlying25 (nP ▸ ko) (ao.au 0)) ?_
     refine aA ?_
     refine ak rfl (.adT rfl Tryz.underlying25 cK rfl om om) ?_
     refine bq ?_
     first | (rw [hE,Nat.sub_self,List.replicate_zero,List.append_nil];exact sB rfl .ref rfl rfl (aW ao _)) | (exact sB rfl .ref (by first | rfl | (simp;done)) rfl (aW ao _))
   ·have hnx:∀ j,1<=j->j<i+1->l.getD j 0≠l.getD (j-1) 0:=fun j h1 h2=>by
     rcases Nat.lt_succ_iff_lt_or_eq.1 h2 with e | rfl
     ·exact aQ j h1 e
     ·exact oN
    refine a6 ?_
    refine ak rfl cB ?_
    refine aJ ?_
    exact iG (i+1) ⟨J,J,hnx⟩
  ·obtain rfl:i=l.length:=by omega
   have hE:(cT l l.length)=l:=by rw [afQ _ (Nat.le_refl _) aQ,List.take_length]
   refine bu ?_
   first | (rw [hE,Nat.sub_self,List.replicate_zero,List.append_nil];exact sB rfl .ref rfl rfl (aW ao _)) | (exact sB rfl .ref (by first | rfl | (simp;done)) rfl (aW ao _))
namespace aiL
theorem aH {p q:Prop} (k:q) (e:p=q:=by simp only [e1,e2,e3,e4,p1,p2,p3,q1,q2,q3,l1,t0,t1,r1,r2,r3,r4,Nat.zero_add,Nat.reduceMul,Nat.reduceAdd,b1,b2,b3,b4,b5,b6,i1,i2,i3,i4,i5,i6,Nat.reduceBEq,cx,Rat.add_zero,gv,fD,Nat.zero_add,k5,kI,iz,List.length_cons,List.length_nil,List.nil_append,List.map_nil,List.take_nil,List.append_nil,List.set_cons_zero,List.set_cons_succ,Nat.reduceEqDiff,reduceIte,if_true,if_false,dW,ec,aP bg,aP bw,aP ao,cH,dO,LV.kill,bN];exact rfl):p:=e.mpr k
end aiL
open aiL in
theorem aoo (p:List Rat) (hl:p.length<=1048576) (ma:∀ x∈p,rl x<=274877906944):mP Tryz.prog 155 [.list 3 (p.map ae)] (.ref 1 3 0 p.length) [⟨3,p.map ae,true⟩]:=by
 refine fnO Tryz.func155 ?_
 have gv:True:=trivial
 have fD:True:=trivial
 refine bq ?_
 refine eH rfl rfl (.kM (n:=0) (m:=p.length) ml ml om om om) ?_
 refine bu ?_
 refine dJ (fun(k:Nat) L=>(((((St.mk L.slot (hp [(8,⟨3,(p.take k).map ae,true⟩)])).put (some 3) (.ref 8 3 0 k)).put (some 9) (.list 3 (p.map ae))).put (some 10) (ah p.length)).put (some 11) (ah k))) (fun k=>k<=p.length) (fun k=>p.length-k) 0 (Nat.zero_le _) ?_
 rintro k L1 hk
 refine aA ?_
 refine aC rfl ?_ ?_<;>intro aav h12
 ·have kL:k<p.length:=by omega
  have hrk:=ma _ (dg kL)
  have hA:=iw (p.getD k 0) 0 (by rw [show rl 0=1 from rfl];omega)
  rw [Rat.add_zero] at hA
  have gv:=aal (l:=p) kL
  have fD:((p.take k).map ae).take k=(p.take k).map ae:=List.take_of_length_le wj
  refine gz ?_
  refine ak rfl ob ?_
  refine cp aq (hA) ?_
  refine ar ?_
  refine bI rfl apk ?_
  refine ax ?_
  refine cq ((aw.kill _ 5).trans (aw.kill _ 19)) ?_
  refine ak rfl cB ?_
  refine aJ ?_
  exact iG (k+1) J
 ·obtain rfl:k=p.length:=by omega
  have hE:p.take p.length=p:=List.take_length
  refine bu ?_
  rw [hE]
  exact ab2 rfl rfl (aW ao _)
namespace fP
theorem aH {p q:Prop} (k:q) (e:p=q:=by simp only [e1,e2,e3,e4,p1,p2,p3,q1,q2,q3,l1,t0,t1,r1,r2,r3,r4,Nat.zero_add,Nat.reduceMul,Nat.reduceAdd,b1,b2,b3,b4,b5,b6,i1,i2,i3,i4,i5,i6,Nat.reduceBEq,List.set_cons_zero,List.set_cons_succ,Nat.reduceEqDiff,reduceIte,if_true,if_false,dW,ec,aP bg,aP bw,aP ao,cH,dO,LV.kill,bN];exact rfl):p:=e.mpr k
end fP
open fP in
theorem ak9 (k:List Rat) (h0:0<k.length) (hl:k.length<=1048576) (hr:∀ x∈k,rl x<=274877906944):av Tryz.prog 84 [.list 3 (k.map ae)] (.list 3 ((cT k k.length).map ae)):=by
 refine aN Tryz.func84 ?_
 refine bf ?_
 refine y7 [] rfl rfl (.cons (.pure (et ao _ _)) .nil) (aoo k hl hr) (aW ao _) rfl ?_
 refine uA 1000065 rfl rfl rfl (aW ao _) (.cons .ref (.cons (.cf (.pure rfl)) .nil)) (.ref h0) (azn 156 k h0 hl (fun x hx y hy=>vV x y (by have:=hr x hx;have:=hr y hy;omega))) rfl (aW ao _) ?_
 refine ax ?_
 exact mz [1000065] rfl rfl (axe ao rfl rfl rfl)
open H0 in
theorem agD (k:List Rat) (d:Nat) (h:d+1<=k.length) (hl:k.length<=1048576):av Tryz.prog 152 [.list 3 (k.map ae),ah d] (ah (k.length-d-1)):=by
 refine aN Tryz.func152 ?_
 refine bC ?_
 refine ak rfl tE ?_
 refine ak rfl tE ?_
 refine ax ?_
 refine dA ?_ (.pure rfl)
 simp only [e1,e2,e3,e4,p1,p2,p3,q1,q2,q3,Nat.reduceBEq]
 congr 2
 omega
namespace alJ
theorem aH {p q:Prop} (k:q) (e:p=q:=by simp only [e1,e2,e3,e4,p1,p2,p3,q1,q2,q3,l1,t0,t1,r1,r2,r3,r4,Nat.zero_add,Nat.reduceMul,Nat.reduceAdd,b1,b2,b3,b4,b5,b6,i1,i2,i3,i4,i5,i6,Nat.reduceBEq,cx,rp,List.set_cons_zero,List.set_cons_succ,Nat.reduceEqDiff,reduceIte,if_true,if_false,dW,ec,aP bg,aP bw,aP ao,cH,dO,LV.kill,bN];exact rfl):p:=e.mpr k
end alJ
open alJ in
theorem axN (k:List Rat) (d:Nat) (h:yi k d):av Tryz.prog 151 [.list 3 (k.map ae),ah d] (iL 0):=by
 have kh:=h.d1
 have hd6:=h.d6
 have hlen:=h.len
 have aEg:=h.max
 have hr:∀ x∈k,rl x<=274877906944:=fun x hx=>Nat.le_trans (h.sz x hx) ai
 have rp:((k.length:Int)-1).toNat=k.length-1:=by omega
 have qD:=h.sz _ (dg (p:=k) (i:=0) J)
 have g8:=h.sz _ (dg (p:=k) (i:=k.length-1) J)
 have hS:av Tryz.prog 239 [.list 3 (k.map ae),.cV 92 []] (bL true):=aAR 92 k J J h.x9 (fun x hx y hy=>lW x y (by have:=h.sz x hx;have:=h.sz y hy;omega))
 refine aN Tryz.func151 ?_
 refine bp ?_
 refine ak rfl tE ?_
 refine ak rfl tE ?_
 refine bq ?_
 refine dy 18 rfl ?_ ?_<;>intro rD rZ
 ·omega
 ·refine aA ?_
  refine aC rfl ?_ ?_<;>intro nB k6
  ·omega
  ·refine a6 ?_
   refine ak rfl (.bin rfl rfl (aeN J J)) ?_
   refine ak rfl wI ?_
   refine ax ?_
   refine aC rfl ?_ ?_<;>intro adD h22
   ·omega
   ·refine aR ?_
    refine aC rfl ?_ ?_<;>intro zz xW
    ·omega
    ·refine a6 ?_
     refine aY 15 an ?_
     refine ar ?_
     refine cp aq (hS) ?_
     refine bf ?_
     refine ak (aZ (v:=false) rfl rfl (rfl) rfl) (.bin rfl rfl (xI J J)) ?_
     refine aL ?_
     try simp only [t1,cx,rp]
     refine cp aq (vV (k.getD 0 0) (k.getD (k.length-1) 0) J) ?_
     refine aJ ?_
     refine eF (b:=_) rfl (decide_eq_false h.ne) ?_
     refine aA ?_
     refine cp aK (ak9 k J J hr) ?_
     refine a6 ?_
     refine dJ (fun(i:Nat) L=>((((((St.mk L.slot (hp [])).put (some 0) (.list 3 (k.map ae))).put (some 1) (ah d)).put (some 48) (.list 3 ((cT k k.length).map ae))).put (some 49) (ah (cT k k.length).length)).put (some 50) (ah i))) (fun i=>i<=(cT k k.length).length) (fun i=>(cT k k.length).length-i) 0 (Nat.zero_le _) ?_
     rintro i L1 hi
     refine aA ?_
     refine aC rfl ?_ ?_<;>intro aEb h51
     ·have kT:=apf k k.length
      have dB:i<(cT k k.length).length:=by omega
      have hm:=agy k k.length (Nat.le_refl _) _ (dg dB)
      have hrt:=h.sz _ hm
      have he1:=h.azN _ hm
      have he2:=h.ink _ hm
      refine mA ?_
      refine cp aq (aeP k J (fun x hx=>Nat.le_trans (hr x hx) ai) ((cT k k.length).getD i 0) J) ?_
      refine ax ?_
      refine aY 16 an ?_
      refine ax ?_
      refine cp aq (vV ((cT k k.length).getD i 0) (k.getD 0 0) J) ?_
      refine ar ?_
      refine dy 62 rfl ?_ ?_<;>intro aoZ h62
      ·refine aR ?_
       try simp only [t1,cx,rp]
       refine bp ?_
       refine ak (aZ (v:=true) rfl rfl (rfl) rfl) (.bin rfl rfl (o6 J J)) ?_
       refine aJ ?_
       refine dy 79 rfl ?_ ?_<;>intro yb h79
       ·have:=he1 (by first | exact .inl h62 | exact .inr h73)
        omega
       ·refine aJ ?_
        refine uV (aZ (v:=false) rfl rfl (sR) rfl) ?_
        refine uV (aZ (v:=false) rfl rfl (sR) rfl) ?_
        refine uV (aZ (v:=false) rfl rfl (sR) rfl) ?_
        refine ak (aZ (v:=false) rfl rfl (yb) rfl) (.oX rfl (sR)) ?_
        refine aR ?_
        refine cq (aw.kill _ 7) ?_
        refine ak rfl cB ?_
        refine aJ ?_
        exact jX
      ·refine ax ?_
       refine ak (aZ (v:=false) rfl rfl (aoZ) rfl) (.bin rfl rfl (xI J J)) ?_
       refine aL ?_
       try simp only [t1,cx,rp]
       refine cp aq (vV ((cT k k.length).getD i 0) (k.getD (k.length-1) 0) J) ?_
       refine bf ?_
       refine dy 73 rfl ?_ ?_<;>intro amI h73
       ·refine aL ?_
        refine ak (aZ (v:=true) rfl rfl (amI) rfl) (.bin rfl rfl (o6 J J)) ?_
        refine aJ ?_
        refine dy 79 rfl ?_ ?_<;>intro yb h79
        ·have:=he1 (by first | exact .inl h62 | exact .inr h73)
         omega
        ·refine aJ ?_
         refine uV (aZ (v:=false) rfl rfl (sR) rfl) ?_
         refine uV (aZ (v:=false) rfl rfl (sR) rfl) ?_
         refine uV (aZ (v:=false) rfl rfl (sR) rfl) ?_
         refine ak (aZ (v:=false) rfl rfl (yb) rfl) (.oX rfl (sR)) ?_
         refine aR ?_
         refine cq (aw.kill _ 7) ?_
         refine ak rfl cB ?_
         refine aJ ?_
         exact jX
       ·refine bq ?_
        refine ak (aZ (v:=true) rfl rfl (sR) rfl) (.move _) ?_
        refine ak (aZ (v:=true) rfl rfl (sR) rfl) (.move _) ?_
        refine ak (aZ (v:=true) rfl rfl (sR) rfl) (.bin rfl rfl rfl) ?_
        refine ak (aZ (v:=false) rfl rfl (rfl) rfl) (.my rfl (sR)) ?_
        refine aJ ?_
        refine aC rfl ?_ ?_<;>intro aDL h87
        ·have:=he2 h62 h73
         omega
        ·refine aJ ?_
         refine cq (aw.kill _ 7) ?_
         refine ak rfl cB ?_
         refine aJ ?_
         exact jX
     ·refine bp ?_
      exact mF
def lG (s:Rat × Rat):Rat × Rat:=if iW s 0=true then(0,fQ (s.1*s.1) (s.2*s.2)) else(gj (s.1*s.1) (s.2*s.2),fQ (s.1*s.1) (s.2*s.2))
def xC (a b:Rat × Rat):Rat × Rat:=mM (mM (mM (a.1*b.1,a.1*b.1) (a.1*b.2,a.1*b.2)) (a.2*b.1,a.2*b.1)) (a.2*b.2,a.2*b.2)
def rcS (b:Rat × Rat):Rat × Rat:=(gj (1/b.1) (1/b.2),fQ (1/b.1) (1/b.2))
def sD (a b:Rat × Rat):Rat × Rat:=xC a (rcS b)
def db (R:Nat) (s:Rat × Rat):Prop:=rl s.1<=R/\rl s.2<=R
theorem db.le {R S:Nat} {s:Rat × Rat} (h:db R s) (k:R<=S):db S s:=⟨Nat.le_trans h.1 k,Nat.le_trans h.2 k⟩
theorem agS {a b:Rat} {R:Nat} (ha:rl a<=R) (hb:rl b<=R):rl (gj a b)<=R:=by unfold gj;split<;>assumption
theorem aeo {a b:Rat} {R:Nat} (ha:rl a<=R) (hb:rl b<=R):rl (fQ a b)<=R:=by unfold fQ;split<;>assumption
theorem aa2 {R:Nat} {s t:Rat × Rat} (hs:db R s) (ht:db R t):db R (mM s t):=⟨agS hs.1 ht.1,aeo hs.2 ht.2⟩
theorem adC {R S:Nat} {a b:Rat × Rat} (ha:db R a) (hb:db S b):db (R+S) (xC a b):=by
 obtain⟨a1,a2⟩:=ha
 obtain⟨b1,b2⟩:=hb
 have h:∀ x y:Rat,rl x<=R->rl y<=S->db (R+S) (x*y,x*y):=fun x y hx hy=>by
  have:=cO x y
  exact⟨by show rl (x*y)<=_;omega,by show rl (x*y)<=_;omega⟩
 exact aa2 (aa2 (aa2 (h _ _ a1 b1) (h _ _ a1 b2)) (h _ _ a2 b1)) (h _ _ a2 b2)
theorem amF {R:Nat} {b:Rat × Rat} (hb:db R b):db (R+1) (rcS b):=by
 have h:∀ x:Rat,rl x<=R->rl (1/x)<=R+1:=fun x hx=>by
  have:=oH 1 x
  have:rl 1=1:=rfl
  omega
 exact⟨agS (h _ hb.1) (h _ hb.2),aeo (h _ hb.1) (h _ hb.2)⟩
theorem arG {R S:Nat} {a b:Rat × Rat} (ha:db R a) (hb:db S b):db (R+(S+1)) (sD a b):=adC ha (amF hb)
theorem ayC {R:Nat} {s:Rat × Rat} (hs:db R s) (hR:1<=R):db (2*R) (lG s):=by
 have h1:=cO s.1 s.1
 have h2:=cO s.2 s.2
 have h3:=hs.1
 have h4:=hs.2
 have h0:rl 0=1:=rfl
 unfold lG
 split
 ·exact⟨by show rl 0<=_;omega,aeo J J⟩
 ·exact⟨agS J J,aeo J J⟩
structure _root_.Go.Lg.o5 where
 x:Rat × Rat
 y:Rat × Rat
 z:Rat × Rat
abbrev lN (b:o5):LV:=.agg [aD b.x,aD b.y,aD b.z]
theorem xf:gL lN 18 true:=by
 refine⟨fun b=>?_,fun b=>rfl,fun b=>?_⟩
 ·simp [lN,LV.au,cF,bS.au]
 ·simp [lN,LV.pure,aG,bS.pure]
def nq (R:Nat) (b:o5):Prop:=db R b.x/\db R b.y/\db R b.z
open fP in
theorem ajA (a b:Rat × Rat) (R:Nat) (hR:R<=1000000000) (ha:db R a) (hb:db R b):av Tryz.prog 188 [aD a,aD b] (aD (xC a b)):=by
 obtain⟨a1,a2⟩:=ha
 obtain⟨y1,y2⟩:=hb
 have m11:=cO a.1 b.1
 have m12:=cO a.1 b.2
 have m21:=cO a.2 b.1
 have m22:=cO a.2 b.2
 have hP:∀ x:Rat,rl x<=2*R->db (2*R) (x,x):=fun x hx=>⟨hx,hx⟩
 have c0:=hP (a.1*b.1) J
 have c1:=aa2 c0 (hP (a.1*b.2) J)
 have c2:=aa2 c1 (hP (a.2*b.1) J)
 obtain⟨d1,d2⟩:=c1
 obtain⟨f1,f2⟩:=c2
 refine aN Tryz.func188 ?_
 refine dj ?_
 refine cp aq (gr a.1 b.1 J) ?_
 refine cp aK (pF (a.1*b.1) J) ?_
 refine agt ?_
 refine bG ?_
 refine aA ?_
 refine bY (b:=_) rfl ai ?_
 refine bp ?_
 refine aY 8 an ?_
 refine a6 ?_
 refine cp aq (gr a.1 b.2 J) ?_
 refine cp aK (pF (a.1*b.2) J) ?_
 refine cp aq (sa ((a.1*b.1),(a.1*b.1)) ((a.1*b.2),(a.1*b.2)) (by show rl (a.1*b.1)+rl (a.1*b.2)<=_;omega) (by show rl (a.1*b.1)+rl (a.1*b.2)<=_;omega)) ?_
 refine ax ?_
 refine cq (aw.kill _ 7) ?_
 refine ax ?_
 refine bG ?_
 refine aA ?_
 refine bY (b:=_) rfl ai ?_
 refine bp ?_
 refine aY 8 an ?_
 refine a6 ?_
 refine cp aq (gr a.2 b.1 J) ?_
 refine cp aK (pF (a.2*b.1) J) ?_
 refine cp aq (sa (mM ((a.1*b.1),(a.1*b.1)) ((a.1*b.2),(a.1*b.2))) ((a.2*b.1),(a.2*b.1)) (by show _+rl (a.2*b.1)<=_;omega) (by show _+rl (a.2*b.1)<=_;omega)) ?_
 refine ax ?_
 refine cq (aw.kill _ 7) ?_
 refine ax ?_
 refine bG ?_
 refine aA ?_
 refine bY (b:=_) rfl ai ?_
 refine bp ?_
 refine aY 8 an ?_
 refine a6 ?_
 refine cp aq (gr a.2 b.2 J) ?_
 refine cp aK (pF (a.2*b.2) J) ?_
 refine cp aq (sa (mM (mM ((a.1*b.1),(a.1*b.1)) ((a.1*b.2),(a.1*b.2))) ((a.2*b.1),(a.2*b.1))) ((a.2*b.2),(a.2*b.2)) (by show _+rl (a.2*b.2)<=_;omega) (by show _+rl (a.2*b.2)<=_;omega)) ?_
 refine ax ?_
 refine cq (aw.kill _ 7) ?_
 refine ax ?_
 refine bG ?_
 refine aA ?_
 refine eF (b:=_) rfl ai ?_
 refine bu ?_
 exact rv
open H0 in
theorem aek (s:Rat × Rat) (x:Rat) (h1:rl s.1+rl x<=549755813888) (h2:rl x+rl s.2<=549755813888):av Tryz.prog 103 [aD s,ae x] (bL (iW s x)):=by
 refine aN Tryz.func103 ?_
 refine bu ?_
 refine cp aq (lW _ _ J) ?_
 refine aL ?_
 refine dy 10 rfl ?_ ?_<;>intro l9 rR
 ·refine aJ ?_
  refine cp aq (lW _ _ J) ?_
  refine aA ?_
  rw [<-akN l9]
  exact dF
 ·refine bC ?_
  rw [<-akZ l9]
  exact dF
open fP in
theorem aur (s:Rat × Rat) (R:Nat) (hR:R<=1000000000) (ha:db R s):av Tryz.prog 183 [aD s] (aD (lG s)):=by
 obtain⟨a1,a2⟩:=ha
 have m1:=cO s.1 s.1
 have m2:=cO s.2 s.2
 have h0:rl 0=1:=rfl
 refine aN Tryz.func183 ?_
 refine aR ?_
 refine aY 12 an ?_
 refine ax ?_
 refine cp aq (gr s.1 s.1 J) ?_
 refine ax ?_
 refine cp aq (gr s.2 s.2 J) ?_
 refine cp aq (zJ (s.1*s.1) (s.2*s.2) J) ?_
 refine bf ?_
 refine ak rfl ob ?_
 refine cp aq (aek s 0 J J) ?_
 refine aL ?_
 refine aC rfl ?_ ?_<;>intro aaW xX
 ·have hS:lG s=(0,fQ (s.1*s.1) (s.2*s.2)):=if_pos xX
  refine ar ?_
  refine ak rfl ob ?_
  refine bp ?_
  rw [hS]
  exact rv
 ·have hS:lG s=(gj (s.1*s.1) (s.2*s.2),fQ (s.1*s.1) (s.2*s.2)):=if_neg (by rw [xX];decide)
  refine bq ?_
  rw [hS]
  exact rv
open fP in
theorem aaL (a b:Rat × Rat) (R:Nat) (hR:R<=100000000) (ha:db R a) (hb:db R b) (hz:iW b 0=false):av Tryz.prog 186 [aD a,aD b] (.a7 [aD (sD a b),iL 0]):=by
 have ha2:=ha.le (Nat.le_succ R)
 have hrc:=amF hb
 obtain⟨y1,y2⟩:=hb
 have h0:rl 0=1:=rfl
 have g8:rl 1=1:=rfl
 have qd1:=oH 1 b.1
 have qd2:=oH 1 b.2
 have rk:av Tryz.prog 107 [iL 1] (ae 1):=uc 1 ai ai
 have oW:=tT 1 b.1 J
 have hq2:=tT 1 b.2 J
 refine aN Tryz.func186 (ht:=(jg (bS.pure _) rfl)) ?_
 refine bu ?_
 refine ak rfl ob ?_
 refine cp aq (aek b 0 J J) ?_
 refine aL ?_
 refine aC rfl ?_ ?_<;>intro adZ h13
 ·rw [hz] at adZ
  cases adZ
 ·refine ax ?_
  refine cp aK (rk) ?_
  refine bq ?_
  refine cp aq (oW) ?_
  refine dj ?_
  refine cp aq (hq2) ?_
  refine bq ?_
  refine aY 5 an ?_
  refine aJ ?_
  refine cp aq (zJ (1/b.1) (1/b.2) J) ?_
  refine cp aq (ajA a (rcS b) (R+1) J ha2 hrc) ?_
  refine a6 ?_
  exact sE [] rfl rfl rfl (bS.au _) (yH _) lD (.pure (bS.pure _)) rfl (.pure rfl)
def th (l:List Int) (k:Nat):V3:=⟨(mL l k).1,(mL l (mL l k).2).1,(mL l (mL l (mL l k).2).2).1⟩
def rF (l:List Int) (k:Nat):Nat:=(mL l (mL l (mL l k).2).2).2
theorem aqQ {l:List Int} {k:Nat} (hl:l.length<=500) (hk:k<=500):rF l k<=500:=acs hl (acs hl (acs hl hk))
def dwV (l:List Int) (k:Nat):Rat:=((1+(dQ l k 3).tmod 3:Int):Rat)
def dpK (l:List Int) (k:Nat):Nat:=bD l (rF l k)
theorem aiA (l:List Int) (k:Nat):1<=1+(dQ l k 3).tmod 3/\1+(dQ l k 3).tmod 3<=3:=by
 have h:=nc (l:=l) (k:=k) (n:=3) ai
 rw [Int.tmod_eq_emod_of_nonneg h.1]
 omega
theorem as1 (l:List Int) (k:Nat):0<dwV l k:=by
 have:=aiA l k
 exact Rat.intCast_pos.2 J
theorem aqg {l:List Int} {k:Nat} (hl:l.length<=500) (hk:k<=500):dpK l k<=500:=l8 hl (aqQ hl hk)
def dqK (l:List Int):Nat->Nat->Nat
 | k,0=>k
 | k,c+1=>dqK l (dpK l k) c
theorem al9 {l:List Int} (hl:l.length<=500):∀ (k c:Nat),k<=500->dqK l k c<=500
 | k,0,h=>h
 | k,c+1,h=>al9 hl _ c (aqg hl h)
def kH (l:List Int) (k:Nat):Rat:=((dQ l k 4-2:Int):Rat)
theorem amW (l:List Int) (k:Nat):rl (kH l k)<=1/\rl (kH l k+1)<=1:=by
 have h:=nc (l:=l) (k:=k) (n:=4) ai
 refine⟨abj J,?_⟩
 have e:kH l k+1=((dQ l k 4-1:Int):Rat):=by
  unfold kH
  rw [show dQ l k 4-1=(dQ l k 4-2)+1 by omega,Rat.intCast_add];rfl
 rw [e]
 exact abj J
def cD (l:List Int) (k:Nat) (n:Nat):Nat:=(1+dQ l k (n:Int)).toNat
theorem aiu (l:List Int) (k:Nat) {n:Nat} (hn:0<n):1<=cD l k n/\cD l k n<=n/\(cD l k n:Int)=1+dQ l k (n:Int):=by
 have h:=nc (l:=l) (k:=k) (n:=(n:Int)) J
 unfold cD
 omega
theorem aqW {P:Program} {ops:Array Oper} {D:Array Bool} {L:St} {K:St->Prop} {fuel:Nat} (i j k:Nat) (o o2 o3:Oper) (hr:Region.ready .any ops D=[i,j,k]) (ho:ops[i]?=some o) (ho2:ops[j]?=some o2) (ho3:ops[k]?=some o3)
  (h:opsL P false ops [o] L (fun L'=>hY P ops fuel (D.setIfInBounds i true) L' K)) (h2:opsL P false ops [o2] L (fun L'=>hY P ops fuel (D.setIfInBounds j true) L' K)) (h3:opsL P false ops [o3] L (fun L'=>hY P ops fuel (D.setIfInBounds k true) L' K)):hY P ops (fuel+1) D L K:=by
 simp only [opsL] at h h2 h3
 refine⟨fun e=>(by rw [hr] at e;cases e),fun x hx=>?_⟩
 rw [hr] at hx
 simp only [List.mem_cons,List.not_mem_nil,or_false] at hx
 rcases hx with rfl | rfl | rfl
 ·obtain⟨L',h1,h4⟩:=h
  exact⟨o,L',ho,h1,h4⟩
 ·obtain⟨L',h1,h4⟩:=h2
  exact⟨o2,L',ho2,h1,h4⟩
 ·obtain⟨L',h1,h4⟩:=h3
  exact⟨o3,L',ho3,h1,h4⟩
theorem amw {α:Type} (n:Nat) (t:α):List.replicate n t++[t]=List.replicate (n+1) t:=by
 rw [List.replicate_succ']
section
variable {P:Program} {H:bK} {ρ:Operand->LV} {T:TypeId}
theorem zc {o0 o1:Operand} {p:V3} {r:Rat} [z:ZI P T (.agg [.agg [ae 0,ae 0,ae 0],ae 0])] [s:SI P T [(9,true),(3,true)]] (h0:ρ o0=aS p) (h1:ρ o1=ae r) :
  aB P H ρ (.build T #[(0,o0),(1,o1)]) (aT ⟨p,r⟩):=by
 have:=aB.bd (H:=H) (ρ:=ρ) (ps:=#[(0,o0),(1,o1)]) (z:=z) (s:=s) (by simp [lay,LV.au,cF,ao.au,ao.isAgg,qq]) (by
  intro q hq
  simp only [List.mem_cons,List.not_mem_nil,or_false] at hq
  rcases hq with rfl | rfl
  ·exact⟨_,rfl,by rw [h0];simp [lay,bg.au,LV.au,cF,ao.au];rfl,by rw [h0];exact LV.eE (bg.pure _),by rw [h0];exact LV.dY (bg.pure _)⟩
  ·exact⟨_,rfl,by rw [h1];simp [lay,ao.au,ao.isAgg],by rw [h1];exact LV.eE (ao.pure _),by rw [h1];exact LV.dY (ao.pure _)⟩)
 simp only [iC,List.map,List.foldl,List.set,h0,h1] at this
 exact this
end
theorem axh {P:Program} {L:St} {a:Nat} {T:TypeId} {b sz:Nat} {x y:LV} {m:Bool} {n:Nat} {ag:Bool} {blk:a8} (bs:List Nat) (h0:bs.contains 0=false) (h:L.slot a=.az b sz 0 0) (hb:L.heap b=some ⟨sz,[x],m⟩)
  (hx:x.au=sz) (bV:x.at 0 n ag=some x) (hT:bo P T n ag) (hi:cG (L.bR bs).heap x y) (hc:(L.bR bs).heap 0=some blk) (hm:blk.mt=true) (hp:aG blk.vals=true):vf P [.cell a T] L y blk :=
 ⟨[x],[y],(L.bR bs).heap,.cons ⟨b,sz,0,0,_,x,n,ag,h,hb,rfl,rfl,hx,bV,hT⟩ .nil,pG bs h0,.cons (.cf hi) .nil,hc,hm,hp,rfl⟩
namespace agP
theorem aH {p q:Prop} (k:q) (e:p=q:=by simp only [e1,e2,e3,e4,p1,p2,p3,q1,q2,q3,l1,t0,t1,r1,r2,r3,r4,Nat.zero_add,Nat.reduceMul,Nat.reduceAdd,b1,b2,b3,b4,b5,b6,i1,i2,i3,i4,i5,i6,Nat.reduceBEq,l1,List.set_cons_zero,List.set_cons_succ,Nat.reduceEqDiff,reduceIte,if_true,if_false,dW,ec,aP bw,aP ao,cH,dO,LV.kill,bN,acH];exact rfl):p:=e.mpr k
end agP
open agP in
theorem awr (l:List Int) (k:Nat) (hl:l.length<=500) (hk:k<=500):lE Tryz.prog 145 ⟨2,[ik l k],true⟩ [.az 0 2 0 0] (aS (th l k)) ⟨2,[ik l (rF l k)],true⟩:=by
 have k1:=acs (l:=l) hl hk
 have k2:=acs (l:=l) hl k1
 refine tD Tryz.func145 ?_
 refine bf ?_
 refine kj 0 rfl rfl rfl (cW l _) (.cons .ptr .nil) .ptr (ahx l k J J) rfl (cW l _) (ao.pure _) ?_
 refine ar ?_
 refine kj 0 rfl rfl rfl (cW l _) (.cons .ptr .nil) .ptr (ahx l (mL l k).2 J J) rfl (cW l _) (ao.pure _) ?_
 refine ar ?_
 refine kj 0 rfl rfl rfl (cW l _) (.cons .ptr .nil) .ptr (ahx l (mL l (mL l k).2).2 J J) rfl (cW l _) (ao.pure _) ?_
 refine a6 ?_
 exact aeQ rfl rfl cs (dG cs rfl) ig (.pure pu) rfl rfl (cW l _)
theorem vk {a b:List Rat} {i:Nat} (h:i<a.length):(a++b).getD i 0=a.getD i 0:=by
 rw [List.getD_eq_getElem?_getD,List.getD_eq_getElem?_getD,List.getElem?_append_left h]
theorem vc {a b:List Rat} {i:Nat} (h:a.length<=i):(a++b).getD i 0=b.getD (i-a.length) 0:=by
 rw [List.getD_eq_getElem?_getD,List.getD_eq_getElem?_getD,List.getElem?_append_right h]
theorem r7 {n i:Nat} {T:Rat} (h:i<n):(List.replicate n T).getD i 0=T:=by
 rw [List.getD_eq_getElem?_getD,List.getElem?_eq_getElem lJ];simp
theorem ams (a b:List Rat) (t:Rat):∀ i,i<=a.length->fp (a++b) t i=fp a t i
 | 0,_=>rfl
 | i+1,h=>by rw [fp,fp,ams a b t i J,vk J]
theorem af9 (a b:List Rat) (t:Rat):∀ i,fp (a++b) t (a.length+i)=fp a t a.length+fp b t i
 | 0=>by rw [Nat.add_zero,ams _ _ _ _ (Nat.le_refl _)];rfl
 | i+1=>by
  rw [<-Nat.add_assoc,fp,af9 a b t i,fp,vc J,Nat.add_sub_cancel_left];omega
theorem adu (n:Nat) (T t:Rat):∀ i,i<=n->fp (List.replicate n T) t i=if T=t then i else 0
 | 0,_=>by split<;>rfl
 | i+1,h=>by
  rw [fp,adu n T t i J,r7 J]
  split<;>rfl
theorem ax6 {P:Program} {L:St} {a u v:Nat} {T U:TypeId} {b c sz sy:Nat} {x y x' y' z z':LV} {m m':Bool} {n n':Nat} {ag zT:Bool} (bs:List Nat) (h0:bs.contains 0=false) (h:L.slot a=.az b sz 0 0) (hb:L.heap b=some ⟨sz,[x],m⟩)
  (hx:x.au=sz) (bV:x.at 0 n ag=some x) (hT:bo P T n ag) (hi:cG (L.bR bs).heap x y) (h':L.slot u=.az c sy 0 0) (hc:L.heap c=some ⟨sy,[x'],m'⟩)
  (hx':x'.au=sy) (ahe:x'.at 0 n' zT=some x') (hT':bo P U n' zT) (lT:cG (L.bR bs).heap x' y') (hz:L.slot v=z) (hiz:cG (L.bR bs).heap z z'):nt P [.cell a T,.cell u U,.tmp v] L (.a7 [y,y',z']) [] :=
 ⟨[x,x',z],[y,y',z'],(L.bR bs).heap,[],.cons ⟨b,sz,0,0,_,x,n,ag,h,hb,rfl,rfl,hx,bV,hT⟩ (.cons ⟨c,sy,0,0,_,x',n',zT,h',hc,rfl,rfl,hx',ahe,hT'⟩ (.cons hz .nil)),pG bs h0,.cons (.cf hi) (.cons (.cf lT) (.cons (.cf hiz) .nil)),List.nodup_nil,rfl,fun k b h=>by simp at h,rfl⟩
theorem afF {p:List Rat} {x:Rat} (hl:p.length<=10) (hp:∀ y∈p,rl y<=700000) (hx:rl x<=100000):HS p x:=by
 have h1:=iq 1 x
 have h0:rl 1=1:=rfl
 refine⟨rl (1-x)+rl x+1,Nat.le_refl _,J,fun y hy=>?_⟩
 have h2:=hp y hy
 have h3:2 ^ p.length<=2 ^ 10:=Nat.pow_le_pow_right ai hl
 have h4:(rl y+(rl (1-x)+rl x+1))*2 ^ p.length<=1000000*2 ^ 10:=Nat.mul_le_mul J h3
 omega
open H0 in
theorem agX (s:Rat × Rat) (h:rl s.2+rl s.1<=549755813888):av Tryz.prog 164 [aD s] (ae (s.2-s.1)):=by
 refine aN Tryz.func164 ?_
 refine bu ?_
 refine cp aq (py s.2 s.1 h) ?_
 refine ax ?_
 exact fk
section
variable {P:Program} {H:bK} {ρ:Operand->LV} {T E:TypeId}
theorem bdW {o1:Operand} {r:Rat} [z:ZI P T (.agg [.agg [ae 0,ae 0,ae 0],ae 0])] [s:SI P T [(9,true),(3,true)]] (h1:ρ o1=ae r) :
  aB P H ρ (.build T #[(1,o1)]) (aT ⟨⟨0,0,0⟩,r⟩):=by
 have:=aB.bd (H:=H) (ρ:=ρ) (ps:=#[(1,o1)]) (z:=z) (s:=s) (by simp [lay,LV.au,cF,ao.au,ao.isAgg,qq]) (by
  intro q hq
  simp only [List.mem_cons,List.not_mem_nil,or_false] at hq
  subst hq
  exact⟨_,rfl,by rw [h1];simp [lay,ao.au,ao.isAgg],by rw [h1];exact LV.eE (ao.pure _),by rw [h1];exact LV.dY (ao.pure _)⟩)
 simp only [iC,List.map,List.foldl,List.set,h1] at this
 exact this
theorem agK {o0 o1:Operand} {a b:Rat} [u:UN P T (.array 3 E)] [t:TI P E 3 true] [z:ZI P T (.agg [ae 0,ae 0,ae 0])] (h0:ρ o0=ae a) (h1:ρ o1=ae b):aB P H ρ (.build T #[(0,o0),(1,o1)]) (aS ⟨a,b,0⟩):=by
 have:=aB.uJ (H:=H) (ρ:=ρ) (ps:=#[(0,o0),(1,o1)]) (u:=u) (t:=t) (z:=z) (by simp [lay,ao.au,ao.isAgg]) (by
  intro q hq
  simp only [List.mem_cons,List.not_mem_nil,or_false] at hq
  rcases hq with rfl | rfl
  ·exact afP
  ·exact⟨_,rfl,by rw [h1];simp [lay,ao.au,ao.isAgg],by rw [h1];exact LV.eE (ao.pure _),by rw [h1];exact LV.dY (ao.pure _)⟩)
 simp only [iC,List.map,List.foldl,List.set,h0,h1] at this
 exact this
end
open fP in
theorem au9 :av Tryz.prog 73 [iL 0] (aS ⟨1,0,0⟩):=by
 have h1:av Tryz.prog 13 [iL 1] (ae 1):=oJ 1 ai ai
 refine aN Tryz.func73 (ht:=(fun r=>LV.cP r _ (bg.pure _))) ?_
 refine dj ?_
 refine cp aK (h1) ?_
 refine bp ?_
 exact qw
open fP in
theorem atU :av Tryz.prog 73 [iL 1] (aS ⟨0,1,0⟩):=by
 have h1:av Tryz.prog 13 [iL 1] (ae 1):=oJ 1 ai ai
 refine aN Tryz.func73 (ht:=(fun r=>LV.cP r _ (bg.pure _))) ?_
 refine dj ?_
 refine cp aK (h1) ?_
 refine bp ?_
 exact qw
theorem auv {P:Program} {H:bK} {ρ:Operand->LV} {T E:TypeId} [u:UN P T (.array 3 E)] [t:TI P E 3 true] [z:ZI P T (.agg [ae 0,ae 0,ae 0])]:aB P H ρ (.build T #[]) (aS ⟨0,0,0⟩) :=
 aB.uJ (H:=H) (ρ:=ρ) (ps:=#[]) (u:=u) (t:=t) (z:=z) (by simp [lay,ao.au,ao.isAgg]) (fun q hq=>by simp at hq)
theorem ayg {p:List Rat} (h:0<p.length):(gy p).1<=(gy p).2:=by
 have:=(aeh p p.length).1 0 h
 exact Rat.le_trans this.1 this.2
theorem sq_pos {s:Rat × Rat} (h:0<s.1) (h2:s.1<=s.2):lG s=(s.1*s.1,s.2*s.2)/\iW (lG s) 0=false:=by
 have hn:iW s 0=false:=by unfold iW;rw [decide_eq_false cA];rfl
 have hm:s.1*s.1<=s.2*s.2:=Rat.le_trans (Rat.mul_le_mul_of_nonneg_left h2 (Rat.le_of_lt h)) (Rat.mul_le_mul_of_nonneg_right h2 cA)
 have hp:=Rat.mul_pos h h
 have e:lG s=(s.1*s.1,s.2*s.2):=by
  unfold lG
  rw [if_neg (by rw [hn];decide)]
  unfold gj fQ
  rw [if_neg cA]
  split
  ·rfl
  ·have:s.1*s.1=s.2*s.2:=by grind
   rw [this]
 refine⟨e,?_⟩
 rw [e]
 unfold iW
 rw [decide_eq_false (by show ¬(s.1*s.1<=0);grind)];rfl
def spK (po:List aF) (k:Nat):Rat × Rat:=xC (sD (gy (fC po k)) (lG (gy (aX po)))) (1,1)
def spd (po:List aF):o5:=⟨spK po 0,spK po 1,spK po 2⟩
section
variable {po:List aF} {d:Nat} (h:mB po d)
include h
end
def km (s:Rat × Rat) (n:Int):Rat:=s.1+nD n*(s.2-s.1)
open fP in
theorem akI (s:Rat × Rat) (n:Int) (R:Nat) (hR:R<=1000000) (hs:db R s) (hn:-9223372036854775808<=n/\n<=9223372036854775807):av Tryz.prog 18 [aD s,iL n] (ae (km s n)):=by
 obtain⟨a1,a2⟩:=hs
 have hp:=alR n
 have m1:=iq s.2 s.1
 have m2:=cO (nD n) (s.2-s.1)
 refine aN Tryz.func18 ?_
 refine aR ?_
 refine aY 11 an ?_
 refine aJ ?_
 refine cp aK (axb n hn) ?_
 refine ax ?_
 refine cp aq (yq s.2 s.1 J) ?_
 refine cp aq (rE (nD n) (s.2-s.1) J) ?_
 refine cp aq (nw s.1 (nD n*(s.2-s.1)) J) ?_
 refine ax ?_
 exact fk
def eG (k:List Rat) (at_:Nat) (t:Rat):Nat->Nat->Rat
 | 0,i=>if i=at_ then 1 else 0
 | d+1,i=>if at_<i\/i+(d+1)<at_ then 0 else
   (t-k.getD i 0)/(k.getD (i+(d+1)) 0-k.getD i 0)*eG k at_ t d i+(k.getD (i+(d+1)+1) 0-t)/(k.getD (i+(d+1)+1) 0-k.getD (i+1) 0)*eG k at_ t d (i+1)
theorem aeV {a b c d:Rat} {R:Nat} (ha:rl a<=R) (hb:rl b<=R) (hc:rl c<=R) (hd:rl d<=R):rl (a-b)<=2*R+1/\rl (c-d)<=2*R+1/\rl ((a-b)/(c-d))<=4*R+2:=by
 have h1:=iq a b
 have h2:=iq c d
 have h3:=oH (a-b) (c-d)
 exact⟨J,J,J⟩
theorem abT {k:List Rat} {at_:Nat} {t:Rat} {R:Nat} (hR:3<=R) (hk:∀ x∈k,rl x<=R) (ht:rl t<=R):∀ d i,rl (eG k at_ t d i)<=(10*R)*2 ^ d-(8*R+5)
 | 0,i=>by
  rw [eG];split
  ·show 1<=_;rw [Nat.pow_zero];omega
  ·show 1<=_;rw [Nat.pow_zero];omega
 | d+1,i=>by
  have g:∀ j,rl (k.getD j 0)<=R:=ga J hk
  have a1:=abT (at_:=at_) hR hk ht d i
  have a2:=abT (at_:=at_) hR hk ht d (i+1)
  have p1:=(aeV ht (g i) (g (i+(d+1))) (g i)).2.2
  have p2:=(aeV (g (i+(d+1)+1)) ht (g (i+(d+1)+1)) (g (i+1))).2.2
  have h2:2 ^ (d+1)=2*2 ^ d:=by rw [Nat.pow_succ];omega
  have h1:1<=2 ^ d:=Nat.one_le_two_pow
  have hm:(10*R)*2 ^ (d+1)=2*((10*R)*2 ^ d):=by rw [h2];rw [Nat.mul_left_comm]
  have dZ:10*R<=(10*R)*2 ^ d:=Nat.le_mul_of_pos_right _ J
  rw [eG]
  split
  ·show 1<=_;rw [hm];omega
  ·have m1:=cO ((t-k.getD i 0)/(k.getD (i+(d+1)) 0-k.getD i 0)) (eG k at_ t d i)
   have m2:=cO ((k.getD (i+(d+1)+1) 0-t)/(k.getD (i+(d+1)+1) 0-k.getD (i+1) 0)) (eG k at_ t d (i+1))
   have s1:=jq ((t-k.getD i 0)/(k.getD (i+(d+1)) 0-k.getD i 0)*eG k at_ t d i) ((k.getD (i+(d+1)+1) 0-t)/(k.getD (i+(d+1)+1) 0-k.getD (i+1) 0)*eG k at_ t d (i+1))
   rw [hm]
   omega
def mW (po:List aF) (x:Rat):V3:=jb (1/cN (aX po) x) ⟨cN (bj po 0) x,cN (bj po 1) x,cN (bj po 2) x⟩
theorem aag {po:List aF} {k i:Nat} (h:i<po.length):(bj po k).getD i 0=(po.getD i default).w*(po.getD i default).p.at k:=by
 unfold bj
 rw [List.getD_eq_getElem?_getD,List.getElem?_map,List.getElem?_eq_getElem h,List.getD_eq_getElem?_getD,List.getElem?_eq_getElem h];rfl
theorem abm {po:List aF} {i:Nat} (h:i<po.length):(aX po).getD i 0=(po.getD i default).w:=by
 unfold aX
 rw [List.getD_eq_getElem?_getD,List.getElem?_map,List.getElem?_eq_getElem h,List.getD_eq_getElem?_getD,List.getElem?_eq_getElem h];rfl
theorem wS {a b c:Nat} (h:a=b+c) (h2:a<=9223372036854775807):dp .sub .i64 (a:Nat) (b:Nat)=some (.int .i64 ((c:Nat):Int)):=by
 rw [xI J J];congr 2;omega
theorem akS {f:Nat->Rat} {R:Nat} (hR:1<=R):∀ n,(∀ i,i<n->rl (f i)<=R)->rl (sm n f)<=1+n*(R+1)
 | 0,_=>by show 1<=_;omega
 | n+1,h=>by
  have h1:=akS hR n (fun i hi=>h i J)
  have h2:=h n J
  have h3:=jq (sm n f) (f n)
  rw [sm,Nat.succ_mul];omega
open H0 in
theorem apM (a b:Rat) (h:rl a+rl b<=1000000):av Tryz.prog 274 [ae a,ae b] (ae (a/b)):=by
 refine aN Tryz.func274 ?_
 refine bp ?_
 refine cp aq (anU a b J) ?_
 refine gz ?_
 exact fk
open ajK in
theorem aAk (k:List Rat) (at_:Nat) (t:Rat) (hl:k.length<=1000) (bV:at_<=1000) (hk:∀ x∈k,rl x<=1000) (ht:rl t<=1000) (i:Nat):av Tryz.prog 232 [.list 3 (k.map ae),ah i,iL 0,ah at_,ae t] (ae (eG k at_ t 0 i)):=by
 have rk:av Tryz.prog 13 [iL 1] (ae 1):=oJ 1 ai ai
 refine aN Tryz.func232 ?_
 refine dj ?_
 refine aC rfl ?_ ?_<;>intro ot jS
 ·refine bf ?_
  refine aC rfl ?_ ?_<;>intro aaW xX
  ·have hV:eG k at_ t 0 i=1:=by rw [eG,if_pos J]
   refine aL ?_
   refine cp aK (rk) ?_
   refine aA ?_
   rw [hV]
   exact fk
  ·have hV:eG k at_ t 0 i=0:=by rw [eG,if_neg J]
   refine ax ?_
   refine ak rfl ob ?_
   refine a6 ?_
   rw [hV]
   exact fk
 ·first | exact absurd ot ai | cases ot | exact absurd rfl jS
namespace aqt
theorem aH {p q:Prop} (k:q) (e:p=q:=by simp only [e1,e2,e3,e4,p1,p2,p3,q1,q2,q3,l1,t0,t1,r1,r2,r3,r4,Nat.zero_add,Nat.reduceMul,Nat.reduceAdd,b1,b2,b3,b4,b5,b6,i1,i2,i3,i4,i5,i6,Nat.reduceBEq,cx,eia,eib,eic,List.set_cons_zero,List.set_cons_succ,Nat.reduceEqDiff,reduceIte,if_true,if_false,dW,ec,aP bg,aP bw,aP ao,cH,dO,LV.kill,bN];exact rfl):p:=e.mpr k
end aqt
open aqt in
theorem aCh (k:List Rat) (at_:Nat) (t:Rat) (hl:k.length<=1000) (bV:at_<=1000) (hk:∀ x∈k,rl x<=1000) (ht:rl t<=1000) (d:Nat) (hd:d+1<=7) (ih:∀ i,i+d+1<k.length->av Tryz.prog 232 [.list 3 (k.map ae),ah i,ah d,ah at_,ae t] (ae (eG k at_ t d i))) (i:Nat) (hi:i+(d+1)+1<k.length):av Tryz.prog 232 [.list 3 (k.map ae),ah i,ah (d+1),ah at_,ae t] (ae (eG k at_ t (d+1) i)):=by
 have g:∀ j,rl (k.getD j 0)<=1000:=ga ai hk
 have pp1:=aeV ht (g i) (g (i+(d+1))) (g i)
 have pp2:=aeV (g (i+(d+1)+1)) ht (g (i+(d+1)+1)) (g (i+1))
 have nq1:=abT (at_:=at_) ai hk ht d i
 have nq2:=abT (at_:=at_) ai hk ht d (i+1)
 have wW:2 ^ d<=2 ^ 6:=Nat.pow_le_pow_right ai J
 have m1:=cO ((t-k.getD i 0)/(k.getD (i+(d+1)) 0-k.getD i 0)) (eG k at_ t d i)
 have m2:=cO ((k.getD (i+(d+1)+1) 0-t)/(k.getD (i+(d+1)+1) 0-k.getD (i+1) 0)) (eG k at_ t d (i+1))
 have rq:=ih i J
 have kL:=ih (i+1) J
 refine aN Tryz.func232 ?_
 have eia:True:=trivial
 have eib:True:=trivial
 have eic:True:=trivial
 refine dj ?_
 refine aC rfl ?_ ?_<;>intro ot jS
 ·omega
 ·refine bq ?_
  refine dy 23 rfl ?_ ?_<;>intro qt oL
  ·have hV:eG k at_ t (d+1) i=0:=by rw [eG,if_pos J]
   refine bp ?_
   refine ak rfl ob ?_
   refine a6 ?_
   rw [hV]
   exact fk
  ·refine aJ ?_
   refine ak (aZ (v:=false) rfl rfl (qt) rfl) (.bin rfl rfl (ue J)) ?_
   refine ax ?_
   refine aC rfl ?_ ?_<;>intro zz xW
   ·have hV:eG k at_ t (d+1) i=0:=by rw [eG,if_pos J]
    refine aL ?_
    refine ak rfl ob ?_
    refine a6 ?_
    rw [hV]
    exact fk
   ·have hV:eG k at_ t (d+1) i=(t-k.getD i 0)/(k.getD (i+(d+1)) 0-k.getD i 0)*eG k at_ t d i+(k.getD (i+(d+1)+1) 0-t)/(k.getD (i+(d+1)+1) 0-k.getD (i+1) 0)*eG k at_ t d (i+1):=by rw [eG,if_neg J]
    refine aJ ?_
    refine aY 19 an ?_
    refine a6 ?_
    refine cp aq (yq t (k.getD i 0) (by have:=g i;omega)) ?_
    refine aJ ?_
    refine ak rfl w8 ?_
    refine aA ?_
    refine cp aq (yq (k.getD (i+(d+1)) 0) (k.getD i 0) (by have:=g i;have:=g (i+(d+1));omega)) ?_
    refine cp aq (apM (t-k.getD i 0) (k.getD (i+(d+1)) 0-k.getD i 0) J) ?_
    refine a6 ?_
    refine aY 24 an ?_
    refine aJ ?_
    refine ak rfl w8 ?_
    refine ak rfl cB ?_
    refine aJ ?_
    refine cp aq (yq (k.getD (i+(d+1)+1) 0) t (by have:=g (i+(d+1)+1);omega)) ?_
    refine aJ ?_
    refine ak rfl w8 ?_
    refine ak rfl cB ?_
    refine ax ?_
    refine ak rfl cB ?_
    refine aL ?_
    refine cp aq (yq (k.getD (i+(d+1)+1) 0) (k.getD (i+1) 0) (by have:=g (i+1);have:=g (i+(d+1)+1);omega)) ?_
    refine cp aq (apM (k.getD (i+(d+1)+1) 0-t) (k.getD (i+(d+1)+1) 0-k.getD (i+1) 0) J) ?_
    refine a6 ?_
    refine aY 20 an ?_
    refine ax ?_
    refine ak rfl jm ?_
    refine aL ?_
    refine cp am5 (rq) ?_
    refine cp aq (rE _ (eG k at_ t d i) J) ?_
    refine aJ ?_
    refine ak rfl cB ?_
    refine ar ?_
    refine ak rfl jm ?_
    refine aL ?_
    refine cp am5 (kL) ?_
    refine cp aq (rE _ (eG k at_ t d (i+1)) J) ?_
    refine cp aq (nw _ _ J) ?_
    refine ax ?_
    rw [hV]
    exact fk
theorem aph (k:List Rat) (at_:Nat) (t:Rat) (hl:k.length<=1000) (bV:at_<=1000) (hk:∀ x∈k,rl x<=1000) (ht:rl t<=1000):∀ (d:Nat) (hd:d<=7) (i:Nat) (hi:i+d+1<k.length),av Tryz.prog 232 [.list 3 (k.map ae),ah i,ah d,ah at_,ae t] (ae (eG k at_ t d i))
 | 0,_,i,_=>aAk k at_ t hl bV hk ht i
 | d+1,hd,i,hi=>aCh k at_ t hl bV hk ht d hd (fun i hi=>aph k at_ t hl bV hk ht d J i hi) i J
def jD (l:List V3) (k:Nat):Nat->Rat × Rat
 | 0=>((l.getD 0 default).at k,(l.getD 0 default).at k)
 | j+1=>mM (jD l k j) ((l.getD (j+1) default).at k,(l.getD (j+1) default).at k)
def oa (l:List V3):o5:=⟨jD l 0 (l.length-1),jD l 1 (l.length-1),jD l 2 (l.length-1)⟩
theorem asJ (a b:Rat × Rat):(mM a b).1<=a.1/\(mM a b).1<=b.1/\a.2<=(mM a b).2/\b.2<=(mM a b).2:=by
 unfold mM gj fQ
 refine⟨?_,?_,?_,?_⟩<;>simp only<;>split<;>grind
theorem aqa (l:List V3) (k:Nat):∀ n i,i<=n->(jD l k n).1<=(l.getD i default).at k/\(l.getD i default).at k<=(jD l k n).2
 | 0,i,h=>by
  obtain rfl:i=0:=by omega
  exact⟨Rat.le_refl,Rat.le_refl⟩
 | n+1,i,h=>by
  obtain⟨h1,h2,h3,h4⟩:=asJ (jD l k n) ((l.getD (n+1) default).at k,(l.getD (n+1) default).at k)
  rw [jD]
  rcases Nat.lt_or_ge i (n+1) with hi | hi
  ·obtain⟨g1,g2⟩:=aqa l k n i J
   exact⟨Rat.le_trans h1 g1,Rat.le_trans g2 h3⟩
  ·obtain rfl:i=n+1:=by omega
   exact⟨h2,h4⟩
theorem acV {l:List V3} {R:Nat} (h:∀ i,i<l.length->ck R (l.getD i default)) (k:Nat):∀ n,n<l.length->db R (jD l k n)
 | 0,hn=>⟨aaH (h 0 hn) k,aaH (h 0 hn) k⟩
 | n+1,hn=>aa2 (acV h k n J) ⟨aaH (h _ hn) k,aaH (h _ hn) k⟩
theorem ajE {a b:Rat} (ha:0<=a) (hb:0<=b):∀ (n:Nat) (f:Nat->Rat),(∀ i,i<=n->0<=f i)->0<=fE a b n f
 | 0,f,h=>h 0 (Nat.le_refl _)
 | n+1,f,h=>by
  rw [fE]
  refine ajE ha hb n _ fun i hi=>?_
  have h1:=Rat.mul_nonneg ha (h i J)
  have h2:=Rat.mul_nonneg hb (h (i+1) J)
  exact Rat.add_nonneg h1 h2
section
variable {po:List aF} {d:Nat} (h:mB po d)
include h
end
section
variable {po:List aF} {d:Nat} (h:mB po d)
include h
end
open fP in
theorem aBq (a b c w:Rat) (R:Nat) (hR:R<=100000000) (ha:rl a<=R) (hb:rl b<=R) (hc:rl c<=R) (hw:rl w<=R):av Tryz.prog 64 [.agg [ae a,ae b,ae c,ae w]] (aT ⟨jb (1/w) ⟨a,b,c⟩,w⟩):=by
 have rk:av Tryz.prog 13 [iL 1] (ae 1):=oJ 1 ai ai
 have g8:rl 1=1:=rfl
 have hq:=oH 1 w
 refine aN Tryz.func64 (ht:=(fun g=>LV.cP g _ (bw.pure _))) ?_
 refine aR ?_
 refine aY 15 an ?_
 simp only [List.getD_cons_zero]
 refine cp aK (rk) ?_
 refine aL ?_
 refine cp aq (atm 1 w J) ?_
 refine aR ?_
 refine cp aq (amH (1/w) ⟨a,b,c⟩ (R+1) J J ⟨by show rl a<=_;omega,by show rl b<=_;omega,by show rl c<=_;omega⟩) ?_
 refine aL ?_
 refine pY (zc rfl rfl) ?_
 refine ax ?_
 exact fS [] rfl rfl rfl cs (dG cs rfl) rQ (.pure pu)
theorem afR {a b:Rat}:∀ (n:Nat) (c:Nat->Rat) (R:Nat),(∀ i,rl (c i)<=R)->rl (fE a b n c)<=(R+(rl a+rl b+1))*2 ^ n
 | 0,c,R,h=>by
  have:=h 0
  show rl (c 0)<=_
  omega
 | n+1,c,R,h=>by
  have:=afR (a:=a) (b:=b) n (fun i=>a*c i+b*c (i+1)) (2*R+(rl a+rl b+1)) (fun i=>by
   have h0:=h i
   have h1:=h (i+1)
   have m0:=cO a (c i)
   have m1:=cO b (c (i+1))
   have s0:=jq (a*c i) (b*c (i+1))
   omega)
  rw [fE]
  refine Nat.le_trans this ?_
  rw [Nat.pow_succ,Nat.mul_comm (2 ^ n) 2,<-Nat.mul_assoc]
  exact Nat.mul_le_mul_right _ J
theorem vW (bs:List Nat):uM bs []=[]:=rfl
def sS (t:Rat) (f:Nat->Rat):Nat->Rat:=fun i=>(1-t)*f i+t*f (i+1)
def sI (t:Rat):Nat->(Nat->Rat)->(Nat->Rat)
 | 0,f=>f
 | n+1,f=>sI t n (sS t f)
theorem axc (s t:Rat) (f:Nat->Rat):sS s (sS t f)=sS t (sS s f):=by
 funext i;unfold sS;grind
theorem af8 (t s:Rat):∀ (n:Nat) (f:Nat->Rat),sI t n (sS s f)=sS s (sI t n f)
 | 0,f=>rfl
 | n+1,f=>by rw [sI,sI,axc,af8 t s n]
theorem ajh (t:Rat) (n:Nat) (f:Nat->Rat):sI t (n+1) f=sS t (sI t n f):=by rw [sI,af8]
theorem acj (t c d:Rat):∀ (n:Nat) (f g:Nat->Rat),sI t n (fun i=>c*f i+d*g i)=fun i=>c*sI t n f i+d*sI t n g i
 | 0,f,g=>rfl
 | n+1,f,g=>by
  rw [sI,sI,sI,<-acj t c d n]
  congr 1;funext i;unfold sS;grind
theorem qZ (t:Rat):∀ (n:Nat) (f:Nat->Rat) (i:Nat),sI t n f i=fE (1-t) t n (fun m=>f (i+m))
 | 0,f,i=>rfl
 | n+1,f,i=>by rw [sI,qZ t n,fE];rfl
theorem atl (a b x:Rat) (f:Nat->Rat) (i:Nat):(1-x)*sS a f i+x*sS b f i=sS (a+x*(b-a)) f i:=by unfold sS;grind
def oK (a b:Rat) (n:Nat) (f:Nat->Rat) (j:Nat):Rat:=sI a (n-j) (sI b j f) 0
theorem avZ (a b x:Rat) {n j:Nat} (f:Nat->Rat) (h:j+1<=n):(1-x)*oK a b n f j+x*oK a b n f (j+1)=oK a b (n-1) (sS (a+x*(b-a)) f) j:=by
 unfold oK
 obtain⟨m,rfl⟩:∃ m,n=j+1+m:=⟨n-(j+1),J⟩
 rw [show j+1+m-j=m+1 by omega,show j+1+m-(j+1)=m by omega,show j+1+m-1-j=m by omega]
 rw [sI,<-af8 b a,sI]
 have e:=acj a (1-x) x m (sI b j (sS a f)) (sI b j (sS b f))
 have e2:=acj b (1-x) x j (sS a f) (sS b f)
 rw [<-e2] at e
 have e3:(fun i=>(1-x)*sS a f i+x*sS b f i)=sS (a+x*(b-a)) f:=by funext i;exact atl a b x f i
 rw [e3] at e
 exact(congrFun e 0).symm
theorem ajF (a b x:Rat) {n:Nat}:∀ (k:Nat) (f:Nat->Rat) (j:Nat),j+k<=n->sI x k (oK a b n f) j=oK a b (n-k) (sI (a+x*(b-a)) k f) j
 | 0,f,j,h=>rfl
 | k+1,f,j,h=>by
  rw [ajh]
  unfold sS
  rw [ajF a b x k f j J,ajF a b x k f (j+1) J,avZ _ _ _ _ J,<-ajh,Nat.sub_sub]
theorem art (a b x:Rat) (n:Nat) (f:Nat->Rat):sI x n (oK a b n f) 0=sI (a+x*(b-a)) n f 0:=by
 rw [ajF _ _ _ _ _ _ J,Nat.sub_self];rfl
theorem apq {p:List Rat} {a b:Rat} (ha:a≠1) {j:Nat} (hj:j<p.length):(dH p a b).getD j 0=oK a b (p.length-1) (fun i=>p.getD i 0) j:=by
 have aQ:(1:Rat)-a≠0:=by grind
 have hq:(b-a)/(1-a)*(1-a)=b-a:=Rat.div_mul_cancel aQ
 unfold dH
 rw [if_neg ha,adQ (by rw [vU];exact hj)]
 generalize (b-a)/(1-a)=s at hq
 have key:∀ (k:Nat) (i:Nat),i+k<=p.length-1->sI s k (fun i=>(lF p a).getD i 0) i=sI a (p.length-1-i-k) (sI b k (fun m=>p.getD (i+m) 0)) 0:=by
  intro k
  induction k with
  | zero =>
   intro i hi
   show (lF p a).getD i 0=_
   rw [afg J,qZ,Nat.sub_zero]
   exact qm _ _ _ _ _ fun m _=>by rw [Nat.zero_add];rfl
  | succ k ih =>
   intro i hi
   rw [ajh]
   unfold sS
   rw [ih i J,ih (i+1) J]
   obtain⟨m,hm⟩:∃ m,p.length-1-i-k=m+1:=⟨p.length-1-i-k-1,J⟩
   rw [hm,show p.length-1-(i+1)-k=m by omega,show p.length-1-i-(k+1)=m by omega,sI]
   have hsh:(fun m=>p.getD (i+1+m) 0)=fun m=>(fun m=>p.getD (i+m) 0) (m+1):=by funext m;simp only;congr 1;omega
   rw [hsh]
   generalize (fun m=>p.getD (i+m) 0)=f
   rw [<-af8]
   have e:=acj a (1-s) s m (sI b k (sS a f)) (sI b k (fun m=>f (m+1)))
   have e2:=acj b (1-s) s k (sS a f) (fun m=>f (m+1))
   rw [<-e2] at e
   have e3:(fun i=>(1-s)*sS a f i+s*f (i+1))=sS b f:=by
    funext i;unfold sS
    have h1:(1-s)*(1-a)=1-b:=by grind
    have h2:(1-s)*a+s=b:=by grind
    rw [<-h1,<-h2];grind
   rw [e3] at e
   exact(congrFun e 0).symm
 have:=key j 0 J
 rw [qZ] at this
 simp only [Nat.zero_add,Nat.sub_zero] at this
 rw [this];rfl
structure ke (po:List aF) (d R:Nat):Prop where
 hl:po.length=d+1
 hd:1<=d
 h6:d<=6
 ok:∀ q∈po,ow R q
theorem mB.r {po:List aF} {d:Nat} (h:mB po d):ke po d 1:=⟨h.hl,h.hd,h.h6,h.ok⟩
def yG (po:List aF) (x y:Rat) (j:Nat):aF :=
 ⟨⟨(dH (bj po 0) x y).getD j 0/(dH (aX po) x y).getD j 0,(dH (bj po 1) x y).getD j 0/(dH (aX po) x y).getD j 0,(dH (bj po 2) x y).getD j 0/(dH (aX po) x y).getD j 0⟩,(dH (aX po) x y).getD j 0⟩
def kt (po:List aF) (x y:Rat):List aF:=(List.range po.length).map (yG po x y)
theorem qG (po:List aF) (x y:Rat):(kt po x y).length=po.length:=by simp [kt]
theorem ahD {po:List aF} {x y:Rat} {j:Nat} (h:j<po.length):(kt po x y).getD j default=yG po x y j:=by
 unfold kt;rw [List.getD_eq_getElem?_getD,List.getElem?_eq_getElem lJ];simp
theorem uY (p:List Rat) (a b:Rat):(dH p a b).length=p.length:=by rw [<-amj,azI]
theorem aaK {a b:Rat} (ha:0<=a) (hb:0<=b) (cu:0<a+b):∀ (n:Nat) (f:Nat->Rat),(∀ i,i<=n->0<f i)->0<fE a b n f
 | 0,f,h=>h 0 (Nat.le_refl _)
 | n+1,f,h=>by
  rw [fE]
  refine aaK ha hb cu n _ fun i hi=>?_
  have a1:=h i J
  have a2:=h (i+1) J
  have b1:=Rat.mul_nonneg ha (Rat.le_of_lt a1)
  have b2:=Rat.mul_nonneg hb (Rat.le_of_lt a2)
  rcases Rat.le_iff_lt_or_eq.1 ha with h0 | h0
  ·have:=Rat.mul_pos h0 a1;grind
  ·have:=Rat.mul_pos (show 0<b by grind) a2;grind
theorem azm {a b:Rat} (ha:0<=a) (ha1:a<=1) (hb:0<=b) (v8:b<=1) {n j:Nat} {f:Nat->Rat} (hj:j<=n) (h:∀ i,i<=n->0<f i):0<oK a b n f j:=by
 unfold oK
 rw [qZ]
 refine aaK cA ha cA _ _ fun m hm=>?_
 rw [qZ]
 exact aaK cA hb cA _ _ fun m2 dZ=>h _ J
theorem aa1 {a b:Rat} {R S:Nat} (ha:rl (1-a)+rl a+1<=S) (hb:rl (1-b)+rl b+1<=S) {n j:Nat} (hn:n<=6) (hj:j<=n) {f:Nat->Rat} (h:∀ i,rl (f i)<=R):rl (oK a b n f j)<=((R+S)*64+S)*64:=by
 unfold oK
 have hp:∀ k,k<=6->2 ^ k<=64:=fun k hk=>Nat.pow_le_pow_right (n:=2) ai hk
 have h1:∀ m,rl (sI b j f m)<=(R+S)*64:=fun m=>by
  rw [qZ]
  have:=afR (a:=1-b) (b:=b) j (fun i=>f (m+i)) R (fun i=>h _)
  refine Nat.le_trans this (Nat.mul_le_mul J (hp j J))
 rw [qZ]
 have:=afR (a:=1-a) (b:=a) (n-j) (fun i=>sI b j f (0+i)) ((R+S)*64) (fun i=>h1 _)
 exact Nat.le_trans this (Nat.mul_le_mul J (hp (n-j) J))
section
variable {po:List aF} {d R:Nat} (h:ke po d R) {x y:Rat} (fw:0<=x) (eT:x<1) (gR:0<=y) (kg:y<=1)
include h
theorem abc (k:Nat):(bj po k).length=d+1:=by rw [n9,h.hl]
theorem acy:(aX po).length=d+1:=by rw [mD,h.hl]
theorem as5 {i:Nat} (hi:i<=d):0<(aX po).getD i 0:=by
 have hl:=h.hl
 rw [abm J]
 exact(h.ok _ (qI J)).2.2
theorem aB3:aX (kt po x y)=dH (aX po) x y:=by
 have hl:=h.hl
 have hw:=acy h
 refine List.ext_getElem (by rw [mD,qG,uY,mD]) fun j h1 h2=>?_
 rw [mD,qG] at h1
 have e1:=abm (po:=kt po x y) (i:=j) (by rw [qG];exact h1)
 rw [ahD h1] at e1
 rw [List.getD_eq_getElem?_getD,List.getElem?_eq_getElem (by rw [mD,qG];exact h1)] at e1
 have e2:(yG po x y j).w=(dH (aX po) x y).getD j 0:=rfl
 rw [e2,List.getD_eq_getElem?_getD,List.getElem?_eq_getElem h2] at e1
 exact e1
include eT
theorem acr {j:Nat} (hj:j<=d):(dH (aX po) x y).getD j 0=oK x y d (fun i=>(aX po).getD i 0) j:=by
 have hw:=acy h
 rw [apq cA J,hw,Nat.add_sub_cancel]
theorem abA (k:Nat) {j:Nat} (hj:j<=d):(dH (bj po k) x y).getD j 0=oK x y d (fun i=>(bj po k).getD i 0) j:=by
 have hw:=abc h k
 rw [apq cA J,hw,Nat.add_sub_cancel]
include fw gR kg
theorem ad8 {j:Nat} (hj:j<=d):0<(dH (aX po) x y).getD j 0:=by
 rw [acr h eT hj]
 exact azm fw (Rat.le_of_lt eT) gR kg hj fun i hi=>as5 h hi
theorem ahH (k:Nat) (hk:k<3):bj (kt po x y) k=dH (bj po k) x y:=by
 have hl:=h.hl
 refine List.ext_getElem (by rw [n9,qG,uY,n9]) fun j h1 h2=>?_
 rw [n9,qG] at h1
 have e1:=aag (po:=kt po x y) (k:=k) (i:=j) (by rw [qG];exact h1)
 rw [ahD h1] at e1
 rw [List.getD_eq_getElem?_getD,List.getElem?_eq_getElem (by rw [n9,qG];exact h1)] at e1
 have hp:=ad8 h fw eT gR kg (j:=j) J
 have e2:(yG po x y j).w*(yG po x y j).p.at k=(dH (bj po k) x y).getD j 0:=by
  have aQ:(dH (aX po) x y).getD j 0≠0:=by grind
  have hm:∀ q:Rat,(dH (aX po) x y).getD j 0*(q/(dH (aX po) x y).getD j 0)=q:=fun q=>by rw [Rat.mul_comm];exact Rat.div_mul_cancel aQ
  match k,hk with
  | 0,_=>exact hm _
  | 1,_=>exact hm _
  | 2,_=>exact hm _
 rw [e2,List.getD_eq_getElem?_getD,List.getElem?_eq_getElem h2] at e1
 exact e1
theorem azS (s:Rat):mW (kt po x y) s=mW po (x+s*(y-x)):=by
 have hl:=h.hl
 have hw:=acy h
 have ew:cN (dH (aX po) x y) s=cN (aX po) (x+s*(y-x)):=by
  have:=art x y s d (fun i=>(aX po).getD i 0)
  rw [qZ,qZ] at this
  rw [sN (by rw [uY];omega),sN J,uY,hw,Nat.add_sub_cancel]
  simp only [Nat.zero_add] at this
  rw [<-this]
  exact qm _ _ _ _ _ fun i hi=>acr h eT J
 have en:∀ k,cN (dH (bj po k) x y) s=cN (bj po k) (x+s*(y-x)):=fun k=>by
  have hn:=abc h k
  have:=art x y s d (fun i=>(bj po k).getD i 0)
  rw [qZ,qZ] at this
  rw [sN (by rw [uY];omega),sN J,uY,hn,Nat.add_sub_cancel]
  simp only [Nat.zero_add] at this
  rw [<-this]
  exact qm _ _ _ _ _ fun i hi=>abA h eT k J
 unfold mW
 rw [aB3 h,ahH h fw eT gR kg 0 ai,ahH h fw eT gR kg 1 ai,ahH h fw eT gR kg 2 ai,ew,en,en,en]
end
theorem ak7 {po:List aF} {d R:Nat} (h:ke po d R) {x y:Rat} (fw:0<=x) (eT:x<1) (gR:0<=y) (kg:y<=1) {S:Nat} (hx:rl (1-x)+rl x+1<=S) (hy:rl (1-y)+rl y+1<=S) (hR:1<=R):ke (kt po x y) d (2*(((2*R+S)*64+S)*64)):=by
 have hl:=h.hl
 have h6:=h.h6
 refine⟨by rw [qG,hl],h.hd,h.h6,fun q hq=>?_⟩
 obtain⟨j,hj,rfl⟩:=List.mem_map.1 hq
 have hj:j<po.length:=by simpa using hj
 have hw:rl ((dH (aX po) x y).getD j 0)<=((2*R+S)*64+S)*64:=by
  rw [acr h eT J]
  exact aa1 hx hy h6 J fun i=>ga J (fun z hz=>Nat.le_trans (acI h.ok z hz) J) i
 have hn:∀ k,rl ((dH (bj po k) x y).getD j 0)<=((2*R+S)*64+S)*64:=fun k=>by
  rw [abA h eT k J]
  exact aa1 hx hy h6 J fun i=>ga J (acF h.ok k) i
 have hd:∀ k,rl ((dH (bj po k) x y).getD j 0/(dH (aX po) x y).getD j 0)<=2*(((2*R+S)*64+S)*64):=fun k=>by
  have:=oH ((dH (bj po k) x y).getD j 0) ((dH (aX po) x y).getD j 0)
  have:=hn k
  omega
 refine⟨⟨hd 0,hd 1,hd 2⟩,?_,ad8 h fw eT gR kg J⟩
 show rl ((dH (aX po) x y).getD j 0)<=_
 omega
theorem ait {f:Nat} (hc:∀ s t:Rat × Rat,rl s.1+rl t.1<=34359738368->rl s.2+rl t.2<=34359738368->av Tryz.prog f [aD s,aD t] (aD (mM s t))) {l:List V3} {R:Nat} (hR:R<=1000000) (hb:∀ i,i<l.length->ck R (l.getD i default)) (k j:Nat) (hj:j+1<l.length) :
  av Tryz.prog f [aD (jD l k j),aD ((l.getD (j+1) default).at k,(l.getD (j+1) default).at k)] (aD (jD l k (j+1))):=by
 have q:=acV hb k j J
 have g:=aaH (hb (j+1) hj) k
 have h1:R+R<=34359738368:=by omega
 exact hc _ _ (Nat.le_trans (Nat.add_le_add q.1 g) h1) (Nat.le_trans (Nat.add_le_add q.2 g) h1)
theorem av0:(LV.agg [.agg [ae 0,ae 0],.agg [ae 0,ae 0],.agg [ae 0,ae 0]]).au=18:=by simp [LV.au,cF,ao.au]
theorem aCu (a b c:Rat × Rat):(LV.agg [aD a,aD b,aD c]).au=18:=xf.au ⟨a,b,c⟩
theorem dr1 (l:List V3) (j:Nat):(l.drop 1).getD j default=l.getD (j+1) default:=by
 rw [List.getD_eq_getElem?_getD,List.getD_eq_getElem?_getD,List.getElem?_drop,Nat.add_comm]
namespace aoE
theorem aH {p q:Prop} (k:q) (e:p=q:=by simp only [e1,e2,e3,e4,p1,p2,p3,q1,q2,q3,l1,t0,t1,r1,r2,r3,r4,Nat.zero_add,Nat.reduceMul,Nat.reduceAdd,b1,b2,b3,b4,b5,b6,i1,i2,i3,i4,i5,i6,Nat.reduceBEq,av0,aCu,dr1,cx,List.length_drop,List.length_map,List.set_cons_zero,List.set_cons_succ,Nat.reduceEqDiff,reduceIte,if_true,if_false,dW,ec,aP bg,aP bw,aP ao,cH,dO,LV.kill,bN];exact rfl):p:=e.mpr k
end aoE
open aoE in
theorem at2 (l:List V3) (h0:0<l.length) (hl:l.length<=1000) (R:Nat) (hR:R<=1000000) (hb:∀ i,i<l.length->ck R (l.getD i default)):av Tryz.prog 98 [.list 9 (l.map aS)] (.a7 [lN (oa l),iL 0]):=by
 obtain⟨z1,z2,z3⟩:=hb 0 h0
 refine aN Tryz.func98 (ht:=(jg (xf.pure _) rfl)) ?_
 refine mV ?_
 refine aC rfl ?_ ?_<;>intro l9 rR
 ·omega
 ·refine bq ?_
  refine bG ?_
  refine aA ?_
  refine bY (b:=_) rfl ai ?_
  refine nn ?_
  refine cp aK (pF (l.getD 0 default).x J) ?_
  refine aR ?_
  refine ak rfl (.aaj (a:=1) bg rfl Tryz.underlying165 ig rfl om) ?_
  refine a6 ?_
  refine dJ (fun(j:Nat) L=>(((((((((St.mk L.slot (hp [(2,⟨18,[.agg [.agg [ae 0,ae 0],.agg [ae 0,ae 0],.agg [ae 0,ae 0]]],true⟩),(4,⟨18,[.agg [aD (jD l 0 j),.agg [ae 0,ae 0],.agg [ae 0,ae 0]]],true⟩)])).put (some 0) (.list 9 (l.map aS))).put (some 2) (.az 2 18 0 0)).put (some 4) (.az 4 18 0 0)).put (some 5) (iL 0)).put (some 12) (iL 0)).put (some 24) (.list 9 ((l.drop 1).map aS))).put (some 25) (ah (l.length-1))).put (some 26) (ah j))) (fun j=>j<=l.length-1) (fun j=>l.length-1-j) 0 (Nat.zero_le _) ?_
  rintro j L2 hj
  refine aA ?_
  refine aC rfl ?_ ?_<;>intro vq h27
  ·have gY:j<l.length-1:=by omega
   obtain⟨g1,g2,g3⟩:=hb (j+1) J
   have hH0:av Tryz.prog 182 [aD (jD l 0 j),aD ((l.getD (j+1) default).x,(l.getD (j+1) default).x)] (aD (jD l 0 (j+1))):=ait (fun s t h1 h2=>sa s t J J) hR hb 0 j J
   refine bu ?_
   refine aY 10 an ?_
   refine aR ?_
   refine cp aK (pF (l.getD (j+1) default).x J) ?_
   refine cp aq (hH0) ?_
   refine a6 ?_
   refine cq (aw.kill _ 7) ?_
   refine ak rfl cB ?_
   refine aJ ?_
   exact vx
  ·obtain rfl:j=l.length-1:=by omega
   refine bp ?_
   refine bG ?_
   refine aA ?_
   refine bY (b:=_) rfl ai ?_
   refine nn ?_
   refine cp aK (pF (l.getD 0 default).y J) ?_
   refine aR ?_
   refine ak rfl (.aaj (a:=1) bg rfl Tryz.underlying165 ig rfl om) ?_
   refine a6 ?_
   refine dJ (fun(j:Nat) L=>(((((((((St.mk L.slot (hp [(2,⟨18,[.agg [.agg [ae 0,ae 0],.agg [ae 0,ae 0],.agg [ae 0,ae 0]]],true⟩),(4,⟨18,[.agg [aD (jD l 0 (l.length-1)),aD (jD l 1 j),.agg [ae 0,ae 0]]],true⟩)])).put (some 0) (.list 9 (l.map aS))).put (some 2) (.az 2 18 0 0)).put (some 4) (.az 4 18 0 0)).put (some 5) (iL 1)).put (some 12) (iL 1)).put (some 24) (.list 9 ((l.drop 1).map aS))).put (some 25) (ah (l.length-1))).put (some 26) (ah j))) (fun j=>j<=l.length-1) (fun j=>l.length-1-j) 0 (Nat.zero_le _) ?_
   rintro j L2 hj
   refine aA ?_
   refine aC rfl ?_ ?_<;>intro vq h27
   ·have gY:j<l.length-1:=by omega
    obtain⟨g1,g2,g3⟩:=hb (j+1) J
    have r8:av Tryz.prog 182 [aD (jD l 1 j),aD ((l.getD (j+1) default).y,(l.getD (j+1) default).y)] (aD (jD l 1 (j+1))):=ait (fun s t h1 h2=>sa s t J J) hR hb 1 j J
    refine bu ?_
    refine aY 10 an ?_
    refine aR ?_
    refine cp aK (pF (l.getD (j+1) default).y J) ?_
    refine cp aq (r8) ?_
    refine a6 ?_
    refine cq (aw.kill _ 7) ?_
    refine ak rfl cB ?_
    refine aJ ?_
    exact vx
   ·obtain rfl:j=l.length-1:=by omega
    refine bp ?_
    refine bG ?_
    refine aA ?_
    refine bY (b:=_) rfl ai ?_
    refine nn ?_
    refine cp aK (pF (l.getD 0 default).z J) ?_
    refine aR ?_
    refine ak rfl (.aaj (a:=1) bg rfl Tryz.underlying165 ig rfl om) ?_
    refine a6 ?_
    refine dJ (fun(j:Nat) L=>(((((((((St.mk L.slot (hp [(2,⟨18,[.agg [.agg [ae 0,ae 0],.agg [ae 0,ae 0],.agg [ae 0,ae 0]]],true⟩),(4,⟨18,[.agg [aD (jD l 0 (l.length-1)),aD (jD l 1 (l.length-1)),aD (jD l 2 j)]],true⟩)])).put (some 0) (.list 9 (l.map aS))).put (some 2) (.az 2 18 0 0)).put (some 4) (.az 4 18 0 0)).put (some 5) (iL 2)).put (some 12) (iL 2)).put (some 24) (.list 9 ((l.drop 1).map aS))).put (some 25) (ah (l.length-1))).put (some 26) (ah j))) (fun j=>j<=l.length-1) (fun j=>l.length-1-j) 0 (Nat.zero_le _) ?_
    rintro j L2 hj
    refine aA ?_
    refine aC rfl ?_ ?_<;>intro vq h27
    ·have gY:j<l.length-1:=by omega
     obtain⟨g1,g2,g3⟩:=hb (j+1) J
     have hH2:av Tryz.prog 182 [aD (jD l 2 j),aD ((l.getD (j+1) default).z,(l.getD (j+1) default).z)] (aD (jD l 2 (j+1))):=ait (fun s t h1 h2=>sa s t J J) hR hb 2 j J
     refine bu ?_
     refine aY 10 an ?_
     refine aR ?_
     refine cp aK (pF (l.getD (j+1) default).z J) ?_
     refine cp aq (hH2) ?_
     refine a6 ?_
     refine cq (aw.kill _ 7) ?_
     refine ak rfl cB ?_
     refine aJ ?_
     exact vx
    ·obtain rfl:j=l.length-1:=by omega
     refine bp ?_
     refine bG ?_
     refine aA ?_
     refine eF (b:=_) rfl ai ?_
     refine dj ?_
     exact sE [] rfl rfl rfl cs (dG cs rfl) T97 (.pure pu) rfl (.pure rfl)
end Go.Proofs.YtckppbhafancnaaGreat
end
section
set_option linter.unusedVariables false
set_option linter.unusedSimpArgs false
namespace Go.Lg
def lR:Op->Bool
 | .move _=>true
 | .pick ..=>true
 | .binOp ..=>true
 | .load ..=>true
 | .fieldAddr ..=>true
 | .indexAddr ..=>true
 | .call ⟨.builtin .len,_,_⟩=>true
 | _=>false
theorem apv {op:Op} (h:lR op=true):tV op=false:=by
 unfold lR at h
 split at h<;>first | rfl | cases h
section
variable {P:Program} {H:bK} {ρ oI:Operand->LV}
theorem aB.abq {op:Op} {r:LV} (h:aB P H ρ op r) (hp:lR op=true) (hr:∀ x∈op.operands,oI x=ρ x):aB P H oI op r:=by
 cases h with
 | move x=>rw [<-hr x bH];exact .move x
 | pick hc =>
  rename_i c x y t
  have e1:=hr x bH
  have e2:=hr y bH
  have:=aB.pick (P:=P) (H:=H) (ρ:=oI) (x:=x) (y:=y) ((hr _ bH).trans hc)
  rw [e1,e2] at this
  exact this
 | bin hx hy h=>exact .bin ((hr _ bH).trans hx) ((hr _ bH).trans hy) h
 | sh hx hy h=>exact .sh ((hr _ bH).trans hx) ((hr _ bH).trans hy) h
 | beq hx hy hT=>exact .beq ((hr _ bH).trans hx) ((hr _ bH).trans hy) hT
 | bne hx hy hT=>exact .bne ((hr _ bH).trans hx) ((hr _ bH).trans hy) hT
 | wL hx hy h=>exact .wL ((hr _ bH).trans hx) ((hr _ bH).trans hy) h
 | vO hx hy=>exact .vO ((hr _ bH).trans hx) ((hr _ bH).trans hy)
 | wa hx hy hT=>exact .wa ((hr _ bH).trans hx) ((hr _ bH).trans hy) hT
 | xb hx hy hT=>exact .xb ((hr _ bH).trans hx) ((hr _ bH).trans hy) hT
 | w6 hx hy hT hE hs hd=>exact .w6 ((hr _ bH).trans hx) ((hr _ bH).trans hy) hT hE hs hd
 | vS hq hT pX=>exact .vS ((hr _ bH).trans hq) hT pX
 | xl hq hT hk=>exact .xl ((hr _ bH).trans hq) hT hk
 | vL hq hT hc=>exact .vL ((hr _ bH).trans hq) hT hc
 | fi hq hb hs hi hx pX hT=>exact .fi ((hr _ bH).trans hq) hb hs hi hx pX hT
 | xP hx hT hE hi h0 hm=>exact .xP ((hr _ bH).trans hx) hT hE ((hr _ bH).trans hi) h0 hm
 | ye hx hT hE hf hi h0 pX=>exact .ye ((hr _ bH).trans hx) hT hE hf ((hr _ bH).trans hi) h0 pX
 | lQ hx hT hE hi h0 pX hc=>exact .lQ ((hr _ bH).trans hx) hT hE ((hr _ bH).trans hi) h0 pX hc
 | tU hx hT hE hi h0 hn=>exact .tU ((hr _ bH).trans hx) hT hE ((hr _ bH).trans hi) h0 hn
 | wK hx has hT=>exact .wK ((hr _ jC).trans hx) has hT
 | yL hx has hT=>exact .yL ((hr _ jC).trans hx) has hT
 | yF hx has hT=>exact .yF ((hr _ jC).trans hx) has hT
 | yy hx has hT=>exact .yy ((hr _ jC).trans hx) has hT
 | _=>first | (cases hp;done) | (simp [lR] at hp;done)
end
def vu (n e:Nat):Array Bool:=((List.range n).map fun i=>decide (i<e)).toArray
theorem ari {n e i:Nat} (h:i<n):(vu n e).getD i false=decide (i<e):=by
 unfold vu
 rw [Array.getD_eq_getD_getElem?]
 simp [h]
theorem al0 (n e:Nat):(vu n e).size=n:=by simp [vu]
theorem aut {n e:Nat} {D:Array Bool} (hs:D.size=n) (h:∀ i,i<n->D.getD i false=decide (i<e)):D=vu n e:=by
 refine Array.ext (by rw [al0,hs]) fun i h1 h2=>?_
 have e1:=h i J
 have e2:=ari (n:=n) (e:=e) (i:=i) J
 rw [Array.getD_eq_getD_getElem?,Array.getElem?_eq_getElem h1] at e1
 rw [Array.getD_eq_getD_getElem?,Array.getElem?_eq_getElem h2] at e2
 simp only [Option.getD_some] at e1 e2
 rw [e1,e2]
def air (ops:Array Oper) (s e:Nat):Bool :=
 decide (s<=e) && decide (e<=ops.size) && ((List.range ops.size).all fun i=>(iH (ops.getD i default)).all (·<i)) &&
 ((List.range e).all fun i=>decide (i<s) || lR (ops.getD i default).op) &&
 ((List.range e).all fun i=>(List.range e).all fun j=>decide (i<s) || decide (j<s) || i==j || xS ops (yg ops.toList []) i j) &&
 ((List.range ops.size).all fun i=>decide (i<e) || (List.range e).all fun j=>decide (j<s) || ((yg ops.toList []).getD i 0).testBit j)
section
variable {P:Program} {ops:Array Oper}
theorem aqw {K:St->Prop}:∀ (n:Nat) (D:Array Bool) (L:St),hY P ops n D L K->hY P ops (n+1) D L K
 | 0,D,L,h=>⟨fun _=>h.2,fun i hi=>by rw [h.1] at hi;cases hi⟩
 | n+1,D,L,h=>⟨h.1,fun i hi=>by
  obtain⟨o,L',h1,h2,h3⟩:=h.2 i hi
  exact⟨o,L',h1,h2,aqw n _ _ h3⟩⟩
open Classical in
noncomputable def rO (ops:Array Oper) (g:Nat->St) (s e:Nat) (D:Array Bool) (t:Nat):LV :=
 if ∃ i o,s<=i/\i<e/\D.getD i false=true/\ops[i]?=some o/\o.dst=some t then(g e).slot t else(g s).slot t
theorem atL {fuel:Nat} {K:St->Prop} {L:St} {D:Array Bool} (s e:Nat) (l:List Oper) (hD:D=vu ops.size s) (hl:l=(ops.toList.drop s).take (e-s)) (eP:air ops s e=true)
  (h:opsL P true ops l L (fun L'=>hY P ops fuel (vu ops.size e) L' K)):hY P ops (fuel+(e-s)) D L K:=by
 unfold air at eP
 simp only [Bool.and_eq_true,decide_eq_true_eq,List.all_eq_true,List.mem_range,Bool.or_eq_true] at eP
 obtain⟨⟨⟨⟨⟨hse,hen⟩,h1⟩,h2⟩,h3⟩,h4⟩:=eP
 have fN:∀ i o,ops[i]?=some o->ops.getD i default=o:=fun i o h=>by rw [Array.getD_eq_getD_getElem?,h];rfl
 have lY:∀ i o,ops[i]?=some o->i<ops.size:=fun i o h=>(Array.getElem?_eq_some_iff.1 h).1
 have tu:∀ i,i<ops.size->∃ o,ops[i]?=some o:=fun i h=>⟨_,Array.getElem?_eq_getElem h⟩
 have ng:=aaE ops ops.toList [] (fun i=>by simp) (fun i t h=>by simp at h)
 have s6:∀ i o,ops[i]?=some o->∀ j∈iH o,j<i:=fun i o h j hj=>h1 i (lY i o h) j (by rw [fN i o h];exact hj)
 have aqL:∀ i o,ops[i]?=some o->s<=i->i<e->lR o.op=true:=fun i o h a b=>by
  rcases h2 i b with c | c
  ·omega
  ·rw [fN i o h] at c;exact c
 have sn:∀ i,i<ops.size->e<=i->∀ j,s<=j->j<e->lV ops j i:=fun i hi a j b c=>by
  rcases h4 i hi with q | q
  ·omega
  ·rcases q j c with q | q
   ·omega
   ·exact ng i j q
 have rW:∀ i j oi oj d,ops[i]?=some oi->ops[j]?=some oj->s<=i->i<e->s<=j->j<e->i≠j->oj.dst=some d->oi.dst≠some d/\(d∈oi.looksAt ops->if j<i then lV ops j i else lV ops i j):=by
  intro i j oi oj d hi hj si ei sj ej aQ m8
  rcases h3 i ei j ej with((q | q) | q) | q
  ·omega
  ·omega
  ·exact absurd (by simpa using q) aQ
  ·unfold xS at q
   rw [fN j oj hj,fN i oi hi,m8] at q
   simp only [Bool.and_eq_true,bne_iff_ne,ne_eq,Bool.or_eq_true,Bool.not_eq_true'] at q
   refine⟨q.1,fun pR=>?_⟩
   rcases q.2 with h' | h'
   ·rw [List.contains_iff_mem.2 pR] at h';cases h'
   ·split at h'<;>rename_i bE
    ·rw [if_pos bE];exact ng i j h'
    ·rw [if_neg bE];exact ng j i h'
 obtain⟨f,f0,fs,fK⟩:=xu _ _ h
 have hlen:l.length=e-s:=by rw [hl];simp;omega
 obtain⟨g,hg⟩:∃ g:Nat->St,g=fun i=>f (i-s):=⟨_,rfl⟩
 have gs0:g s=L:=by rw [hg];simp only [Nat.sub_self];exact f0
 have ge0:g e=f l.length:=by rw [hg,hlen]
 have gst:∀ i o,ops[i]?=some o->s<=i->i<e->Step P true ops o (g i) (g (i+1)):=fun i o h a b=>by
  have:=fs (i-s) o (by
   rw [hl,List.getElem?_take,if_pos J,List.getElem?_drop,show s+(i-s)=i by omega]
   simpa using h)
  rw [hg]
  simp only
  rw [show i+1-s=i-s+1 by omega]
  exact this
 rw [<-ge0] at fK
 have p6:∀ i o,ops[i]?=some o->s<=i->i<e->(g i).heap.le (g (i+1)).heap/\∀ t,o.dst≠some t->(g (i+1)).slot t=(g i).slot t:=fun i o h a b=>ahj (apv (aqL i o h a b)) (gst i o h a b)
 have hle:∀ i j,s<=i->i<=j->j<=e->(g i).heap.le (g j).heap:=by
  intro i j si qF
  induction j with
  | zero =>
   intro _
   obtain rfl:i=0:=by omega
   exact bK.le_refl _
  | succ j ih =>
   intro ku
   by_cases c:i=j+1
   ·subst c;exact bK.le_refl _
   ·obtain⟨o,ho⟩:=tu j J
    exact bK.le_trans (ih J J) (p6 j o ho J J).1
 have hconst:∀ i j t,s<=i->i<=j->j<=e->(∀ k o,i<=k->k<j->ops[k]?=some o->o.dst≠some t)->(g j).slot t=(g i).slot t:=by
  intro i j t si qF
  induction j with
  | zero =>
   intro _ _
   obtain rfl:i=0:=by omega
   rfl
  | succ j ih =>
   intro ku hk
   by_cases c:i=j+1
   ·subst c;rfl
   ·obtain⟨o,ho⟩:=tu j J
    rw [(p6 j o ho J J).2 t (hk j o J J ho)]
    exact ih J J (fun k o a b=>hk k o a J)
 have adI:∀ i o t,ops[i]?=some o->s<=i->i<e->o.dst=some t->(g e).slot t=(g (i+1)).slot t:=fun i o t ho si ei jB =>
  hconst (i+1) e t J J (Nat.le_refl _) (fun k ok a b hk q=>(rW i k o ok t ho hk si ei J b J q).1 jB)
 let closed:Array Bool->Prop:=fun D=>∀ i o,ops[i]?=some o->D.getD i false=true->∀ j∈iH o,D.getD j false=true
 have uG:∀ D,closed D->∀ j i,lV ops j i->(∀ o,ops[i]?=some o->∀ k∈iH o,D.getD k false=true)->D.getD j false=true:=by
  intro D hD j i hA
  induction hA with
  | @one i o ho h=>intro hr;exact hr o ho _ h
  | @step k i o hA ho hk ih=>intro hr;exact ih (fun o' jZ k' mn=>hD k o' jZ (hr o ho k hk) k' mn)
 have main:∀ (n:Nat) (D:Array Bool) (L:St),D.size=ops.size->(∀ i,i<s->D.getD i false=true)->(∀ i,e<=i->D.getD i false=false)->closed D->(∀ t,L.slot t=rO ops g s e D t) ->
   (L.heap=(g e).heap\/(L.heap=(g s).heap/\∀ i,s<=i->i<e->D.getD i false=true->(g (i+1)).heap=(g i).heap))->(List.range e).countP (fun i=>!D.getD i false)<=n->hY P ops (fuel+n) D L K:=by
  intro n
  induction n with
  | zero =>
   intro D L bB bX gf ix je hhp hct
   have dR:∀ i,i<e->D.getD i false=true:=fun i hi=>by
    have:(List.range e).countP (fun i=>!D.getD i false)=0:=by omega
    have:=List.countP_eq_zero.1 this i (List.mem_range.2 hi)
    simpa using this
   have eD:D=vu ops.size e:=aut bB fun i hi=>by
    rcases Nat.lt_or_ge i e with c | c
    ·rw [dR i c,decide_eq_true c]
    ·rw [gf i c,decide_eq_false J]
   have eL:L=g e:=by
    have q1:L.slot=(g e).slot:=by
     funext t
     rw [je t]
     unfold rO
     split
     ·rfl
     ·rename_i lh
      exact(hconst s e t (Nat.le_refl _) hse (Nat.le_refl _) (fun k o a b hk q=>lh ⟨k,o,a,b,dR k b,hk,q⟩)).symm
    have q2:L.heap=(g e).heap:=by
     rcases hhp with q | ⟨q,hq⟩
     ·exact q
     ·rw [q]
      have:∀ m,s<=m->m<=e->(g m).heap=(g s).heap:=by
       intro m
       induction m with
       | zero =>
        intro a _
        obtain rfl:s=0:=by omega
        rfl
       | succ m ih =>
        intro a b
        by_cases c:s=m+1
        ·rw [c]
        ·rw [hq m J J (dR m J)];exact ih J J
      exact(this e hse (Nat.le_refl _)).symm
    cases L;cases jf:g e
    rw [jf] at q1 q2
    simp only at q1 q2
    rw [q1,q2]
   rw [eD,eL];exact fK
  | succ n ih =>
   intro D L bB bX gf ix je hhp hct
   by_cases dR:∀ i,i<e->D.getD i false=true
   ·have h0:(List.range e).countP (fun i=>!D.getD i false)=0:=List.countP_eq_zero.2 fun i hi=>by rw [dR i (List.mem_range.1 hi)];decide
    exact aqw _ _ _ (ih D L bB bX gf ix je hhp J)
   ·have sv:∀ i,i∈Region.ready .any ops D->s<=i/\i<e:=fun i hi=>by
     obtain⟨o,sZ,qW,p3'⟩:=(nE bB).1 hi
     have bE:=lY i o sZ
     have pA:D.getD i false=false:=by rw [q8 J false true];exact qW
     refine⟨?_,?_⟩
     ·rcases Nat.lt_or_ge i s with c | c
      ·rw [bX i c] at pA;cases pA
      ·exact c
     ·rcases Nat.lt_or_ge i e with c | c
      ·exact c
      ·exfalso
       refine dR fun j hj=>?_
       rcases Nat.lt_or_ge j s with d | d
       ·exact bX j d
       ·exact uG D ix j i (sn i bE c j d hj) (fun o' jZ k hk=>by rw [sZ] at jZ;cases jZ;exact p3' k hk)
    refine⟨fun hr=>?_,fun i hi=>?_⟩
    ·exfalso
     refine dR fun i=>?_
     induction i using Nat.strongRecOn with
     | _ i ihh =>
      intro hie
      cases hc:D.getD i false with
      | true=>rfl
      | false =>
       obtain⟨o,ho⟩:=tu i J
       have:i∈Region.ready .any ops D:=(nE bB).2 ⟨o,ho,by rw [q8 J true false];exact hc,fun j hj=>by
        have:=s6 i o ho j hj
        exact ihh j this J⟩
       rw [hr] at this;cases this
    ·obtain⟨si,ei⟩:=sv i hi
     obtain⟨o,ho,xo,tO⟩:=(nE bB).1 hi
     have pA:D.getD i false=false:=by rw [q8 J false true];exact xo
     have gW:∀ k,(D.setIfInBounds i true).getD k false=true↔k=i\/D.getD k false=true:=fun k=>by
      by_cases c:i=k
      ·subst c
       rw [Array.getD_eq_getD_getElem?,Array.getElem?_setIfInBounds_self_of_lt J];simp
      ·rw [Array.getD_eq_getD_getElem?,Array.getElem?_setIfInBounds_ne c,<-Array.getD_eq_getD_getElem?]
       constructor
       ·exact fun h=>.inr h
       ·rintro(h | h)
        ·exact absurd h.symm c
        ·exact h
     have z5:closed (D.setIfInBounds i true):=fun k ok hk ee j hj=>by
      rcases(gW k).1 ee with rfl | h
      ·rw [ho] at hk;cases hk
       exact(gW j).2 (.inr (tO j hj))
      ·exact(gW j).2 (.inr (ix k ok hk h j hj))
     have zo:∀ o',ops[i]?=some o'->∀ k∈iH o',D.getD k false=true:=fun o' jZ k hk=>(by rw [ho] at jZ;cases jZ;exact tO k hk)
     have abi:∀ t,t∈o.looksAt ops->(g i).slot t=L.slot t:=by
      intro t ht
      rw [je t]
      by_cases hex:∃ j oj,s<=j/\j<e/\ops[j]?=some oj/\oj.dst=some t
      ·obtain⟨j,oj,sj,ej,hj,m8⟩:=hex
       have vG:∀ k ok,s<=k->k<e->ops[k]?=some ok->ok.dst=some t->k=j:=fun k ok sk ek hk jO =>
        Classical.byContradiction fun aQ=>(rW k j ok oj t hk hj sk ek sj ej aQ m8).1 jO
       have alG:(∀ hh:D.getD j false=true,False)->rO ops g s e D t=(g s).slot t:=fun hh=>by
        unfold rO
        rw [if_neg]
        rintro⟨k,ok,sk,ek,ee,hk,jO⟩
        have:=vG k ok sk ek hk jO
        subst this
        exact hh ee
       by_cases jL:j=i
       ·subst jL
        rw [hconst s j t (Nat.le_refl _) si J (fun k ok a b hk q=>by have:=vG k ok a J hk q;omega),alG (fun hh=>by rw [pA] at hh;cases hh)]
       ·have hp:=(rW i j o oj t ho hj si ei sj ej (Ne.symm jL) m8).2 ht
        by_cases bE:j<i
        ·rw [if_pos bE] at hp
         have ti:=uG D ix j i hp zo
         have e2:rO ops g s e D t=(g e).slot t:=by
          unfold rO
          rw [if_pos ⟨j,oj,sj,ej,ti,hj,m8⟩]
         rw [e2,adI j oj t hj sj ej m8]
         exact hconst (j+1) i t J J J (fun k ok a b hk q=>by have:=vG k ok J J hk q;omega)
        ·rw [if_neg bE] at hp
         rw [hconst s i t (Nat.le_refl _) si J (fun k ok a b hk q=>by have:=vG k ok a J hk q;omega),alG (fun hh=>by
          have:=uG D ix i j hp (fun o' jZ k' mn=>ix j o' jZ hh k' mn)
          rw [pA] at this;cases this)]
      ·rw [hconst s i t (Nat.le_refl _) si J (fun k ok a b hk q=>hex ⟨k,ok,a,J,hk,q⟩)]
       unfold rO
       rw [if_neg]
       rintro⟨k,ok,sk,ek,ee,hk,jO⟩
       exact hex ⟨k,ok,sk,ek,hk,jO⟩
     have acf:∀ t,rO ops g s e (D.setIfInBounds i true) t=if o.dst=some t then(g (i+1)).slot t else L.slot t:=by
      intro t
      rw [je t]
      by_cases jB:o.dst=some t
      ·rw [if_pos jB]
       unfold rO
       rw [if_pos ⟨i,o,si,ei,(gW i).2 (.inl rfl),ho,jB⟩]
       exact adI i o t ho si ei jB
      ·rw [if_neg jB]
       unfold rO
       congr 1
       apply propext
       constructor
       ·rintro⟨k,ok,sk,ek,ee,hk,jO⟩
        rcases(gW k).1 ee with rfl | h
        ·rw [ho] at hk;cases hk;exact absurd jO jB
        ·exact⟨k,ok,sk,ek,h,hk,jO⟩
       ·rintro⟨k,ok,sk,ek,ee,hk,jO⟩
        exact⟨k,ok,sk,ek,(gW k).2 (.inr ee),hk,jO⟩
     have abW:∀ res,dC ops (g i) o res->dC ops L o res:=fun res vM=>by
      unfold dC at vM ⊢
      cases hh:o.guard with
      | none=>rw [hh] at vM;exact vM
      | some pr =>
       obtain⟨j,want⟩:=pr
       rw [hh] at vM
       obtain⟨d,vN,q'⟩:=vM
       have e1:(g i).slot d=L.slot d:=abi d (by unfold Oper.looksAt;rw [hh];simp [vN])
       refine⟨d,vN,?_⟩
       show (∃ b,L.slot d=_/\_)\/(L.slot d=_/\_)
       rw [<-e1]
       exact q'
     have lj:∀ (r:LV) (H1:bK),(∀ t,o.dst=some t->(g (i+1)).slot t=r)->∀ t,(⟨(L.put o.dst r).slot,H1⟩:St).slot t=rO ops g s e (D.setIfInBounds i true) t:=fun r H1 hr t=>by
      rw [acf t]
      show (L.put o.dst r).slot t=_
      cases hd:o.dst with
      | none=>rw [if_neg aO];rfl
      | some d =>
       rw [fO]
       by_cases c:t=d
       ·subst c
        rw [if_pos rfl,if_pos rfl,hr t hd]
       ·rw [if_neg c,if_neg (fun q=>c (by cases q;rfl))]
     have aoy:(List.range e).countP (fun k=>!(D.setIfInBounds i true).getD k false)<=n:=by
      have:(List.range e).countP (fun k=>!(D.setIfInBounds i true).getD k false)<(List.range e).countP (fun k=>!D.getD k false):=by
       apply agk
       ·intro k _ hk
        cases hc:D.getD k false with
        | false=>rfl
        | true=>rw [(gW k).2 (.inr hc)] at hk;cases hk
       ·exact⟨i,List.mem_range.2 ei,by rw [pA];rfl,by rw [(gW i).2 (.inl rfl)];rfl⟩
      omega
     have ze:∀ L',Step P false ops o L L'->(∀ t,L'.slot t=rO ops g s e (D.setIfInBounds i true) t)->(L'.heap=(g e).heap\/(L'.heap=(g s).heap/\∀ k,s<=k->k<e->(D.setIfInBounds i true).getD k false=true->(g (k+1)).heap=(g k).heap)) ->
       ∃ o L',ops[i]?=some o/\Step P false ops o L L'/\hY P ops (fuel+n) (D.setIfInBounds i true) L' K:=fun L' cQ kC hh' =>
      ⟨o,L',ho,cQ,ih _ L' (by simpa using bB) (fun k hk=>(gW k).2 (.inr (bX k hk))) (fun k hk=>by
       cases hc:(D.setIfInBounds i true).getD k false with
       | false=>rfl
       | true =>
        rcases(gW k).1 hc with rfl | q
        ·omega
        ·rw [gf k hk] at q;cases q) z5 kC hh' aoy⟩
     have fv:=aqL i o ho si ei
     cases gst i o ho si ei with
     | skip hg' h' =>
      refine ze (L.put o.dst (.a7 [])) (.skip (abW false hg') rfl) (fun t=>?_) ?_
      ·have:=lj (.a7 []) L.heap (fun t ht=>by rw [h',ht,fO,if_pos rfl]) t
       exact this
      ·rw [jT]
       rcases hhp with q | ⟨q,hq⟩
       ·exact .inl q
       ·refine .inr ⟨q,fun k sk ek hk=>?_⟩
        rcases(gW k).1 hk with rfl | hk
        ·rw [h',jT]
        ·exact hq k sk ek hk
     | @val r fr H1 hg' hH dt kY h' =>
      obtain⟨dst,op,ty,pos,after,gd⟩:=o
      have r8:H1=(g (i+1)).heap:=by rw [h']
      have abI:H1.le (g e).heap:=by rw [r8];exact hle (i+1) e J J (Nat.le_refl _)
      cases kY with
      | alloc ha=>cases ha<;>cases fv
      | call hc=>cases hc<;>cases fv
      | pure hpp =>
       have fy:∀ x∈op.operands,L.ev x=(g i).ev x:=by
        intro x hx
        cases x with
        | tmp t =>
         have ht:t∈Oper.looksAt ops ⟨dst,op,ty,pos,after,gd⟩:=by
          unfold Oper.looksAt
          simp only [List.mem_append,List.mem_filterMap]
          exact .inl ⟨.tmp t,by simpa using hx,rfl⟩
         exact(abi t ht).symm
        | const v=>rfl
        | func f=>rfl
        | global f=>rfl
       have aud:=aB.abq (aB.le abI hpp) fv fy
       have hLe:L.heap.le (g e).heap:=by
        rcases hhp with q | ⟨q,_⟩
        ·rw [q];exact bK.le_refl _
        ·rw [q];exact hle s e (Nat.le_refl _) hse (Nat.le_refl _)
       refine ze ⟨(L.put dst r).slot,(g e).heap⟩ (.val (fr:=[]) (abW true hg') hLe (fun _ _ hh=>by cases hh) (.pure aud) rfl) (lj r _ (fun t ht=>?_)) (.inl rfl)
       rw [h']
       show ((g i).put dst r).slot t=r
       have ht:dst=some t:=ht
       rw [ht,fO,if_pos rfl]
     | st hg' oy =>
      obtain⟨dst,op,ty,pos,after,gd⟩:=o
      have:=apv fv
      rw [oy.tail] at this;cases this
     | stM fJ _ _=>cases fJ
 have bB:D.size=ops.size:=by rw [hD];exact al0 _ _
 have zN:∀ i,D.getD i false=true↔i<s:=fun i=>by
  rcases Nat.lt_or_ge i ops.size with c | c
  ·rw [hD,ari c,decide_eq_true_eq]
  ·constructor
   ·intro q
    rw [Array.getD_eq_getD_getElem?,Array.getElem?_eq_none J] at q
    cases q
   ·intro q;omega
 refine main (e-s) D L bB (fun i hi=>(zN i).2 hi) (fun i hi=>?_) (fun i o ho hi j hj=>(zN j).2 (by have:=s6 i o ho j hj;have:=(zN i).1 hi;omega)) (fun t=>?_) (.inr ⟨by rw [gs0],fun i si _ hi=>by have:=(zN i).1 hi;omega⟩) ?_
 ·cases hc:D.getD i false with
  | false=>rfl
  | true=>have:=(zN i).1 hc;omega
 ·unfold rO
  rw [if_neg,gs0]
  rintro⟨k,o,sk,_,hk,_⟩
  have:=(zN k).1 hk
  omega
 ·have:∀ m,(List.range m).countP (fun i=>!D.getD i false)<=m-s:=by
   intro m
   induction m with
   | zero=>simp
   | succ m ih =>
    rw [List.range_succ,List.countP_append]
    have u4:List.countP (fun i=>!D.getD i false) [m]=if D.getD m false=true then 0 else 1:=by
     rw [List.countP_cons,List.countP_nil,Nat.zero_add]
     cases hc:D.getD m false<;>rfl
    rw [u4]
    split
    ·omega
    ·rename_i hc
     have:¬m<s:=fun q=>hc ((zN m).2 q)
     omega
  exact this e
theorem ahI {m:Nat} {K:St->Prop} {L:St} {D:Array Bool} {l0:List Oper} (s e fuel:Nat) (hm:m=fuel+(e-s)) (hD:D=vu l0.toArray.size s) (eP:air l0.toArray s e=true)
  (h:opsL P true l0.toArray ((l0.drop s).take (e-s)) L (fun L'=>hY P l0.toArray fuel (vu l0.toArray.size e) L' K)):hY P l0.toArray m D L K:=by
 subst hm
 exact atL s e _ hD rfl eP h
end
def adE:Op->Bool
 | .move _=>true
 | .binOp ..=>true
 | .fieldAddr ..=>true
 | .indexAddr ..=>true
 | .call ⟨.builtin .len,_,_⟩=>true
 | _=>false
def vy:Op->Bool
 | .store ..=>true
 | .call ⟨.value (.func _),_,_⟩=>true
 | op=>lR op
theorem avb {op:Op} (h:adE op=true):lR op=true:=by
 unfold adE at h
 split at h<;>first | rfl | cases h
theorem aB.aAV {P:Program} {H H':bK} {ρ:Operand->LV} {op:Op} {r:LV} (h:aB P H ρ op r) (hp:adE op=true):aB P H' ρ op r:=by
 cases h with
 | move x=>exact .move x
 | bin hx hy h=>exact .bin hx hy h
 | sh hx hy h=>exact .sh hx hy h
 | beq hx hy hT=>exact .beq hx hy hT
 | bne hx hy hT=>exact .bne hx hy hT
 | wL hx hy h=>exact .wL hx hy h
 | vO hx hy=>exact .vO hx hy
 | wa hx hy hT=>exact .wa hx hy hT
 | xb hx hy hT=>exact .xb hx hy hT
 | w6 hx hy hT hE hs hd=>exact .w6 hx hy hT hE hs hd
 | vS hq hT pX=>exact .vS hq hT pX
 | xl hq hT hk=>exact .xl hq hT hk
 | xP hx hT hE hi h0 hm=>exact .xP hx hT hE hi h0 hm
 | ye hx hT hE hf hi h0 pX=>exact .ye hx hT hE hf hi h0 pX
 | lQ hx hT hE hi h0 pX hc=>exact .lQ hx hT hE hi h0 pX hc
 | tU hx hT hE hi h0 hn=>exact .tU hx hT hE hi h0 hn
 | wK hx has hT=>exact .wK hx has hT
 | yL hx has hT=>exact .yL hx has hT
 | yF hx has hT=>exact .yF hx has hT
 | yy hx has hT=>exact .yy hx has hT
 | _=>first | (cases hp;done) | (simp [adE] at hp;done)
theorem put_comm (L:St) {d e:Nat} (h:d≠e) (v r:LV):(L.put (some d) v).put (some e) r=(L.put (some e) r).put (some d) v:=by
 have:∀ t,((L.put (some d) v).put (some e) r).slot t=((L.put (some e) r).put (some d) v).slot t:=fun t=>by
  rw [fO,fO,fO,fO]
  by_cases h1:t=e
  ·rw [if_pos h1,if_neg J,if_pos h1]
  ·rw [if_neg h1,if_neg h1]
 exact congrArg (fun f=>St.mk f L.heap) (funext this)
theorem qo (L:St) {d:Nat} {e:Option Nat} (h:e≠some d) (v r:LV):(L.put (some d) v).put e r=(L.put e r).put (some d) v:=by
 cases e with
 | none=>rfl
 | some e=>exact put_comm L (fun q=>h (by rw [q])) v r
section
variable {P:Program} {ops:Array Oper}
theorem aqA {L:St} {d:Nat} {v:LV} {o:Oper} (h:d∉o.looksAt ops):∀ x∈o.op.operands,(L.put (some d) v).ev x=L.ev x:=fun x hx=>by
 cases x with
 | tmp t =>
  have ht:t∈o.looksAt ops:=by
   unfold Oper.looksAt
   simp only [List.mem_append,List.mem_filterMap]
   exact .inl ⟨.tmp t,by simpa using hx,rfl⟩
  show (L.put (some d) v).slot t=L.slot t
  rw [fO,if_neg (fun q=>h (by rw [<-q];exact ht))]
 | const v=>rfl
 | func f=>rfl
 | global f=>rfl
theorem qO {L:St} {d:Nat} {v:LV} {o:Oper} {res:Bool} (h:d∉o.looksAt ops) (hg:dC ops (L.put (some d) v) o res):dC ops L o res:=by
 unfold dC at hg ⊢
 cases hh:o.guard with
 | none=>rw [hh] at hg;exact hg
 | some pr =>
  obtain⟨j,want⟩:=pr
  rw [hh] at hg
  obtain⟨t,vN,q'⟩:=hg
  have aQ:t≠d:=fun q=>h (by rw [<-q];unfold Oper.looksAt;rw [hh];simp [vN])
  have e1:(L.put (some d) v).slot t=L.slot t:=by rw [fO,if_neg aQ]
  refine⟨t,vN,?_⟩
  show (∃ b,L.slot t=_/\_)\/(L.slot t=_/\_)
  rw [<-e1]
  exact q'
theorem uW {f:Operand} {xs:Array Operand} {ri:Array TypeId} {x:Operand} (h:x∈xs.toList):x∈(Op.call ⟨.value f,xs,ri⟩).operands:=by
 have:=Array.mem_toList_iff.1 h
 simp [Op.operands,Call.operands,this]
theorem aue {L L2:St} {d:Nat} {v:LV} {o:Oper} (hk:vy o.op=true) (hl:d∉o.looksAt ops) (hd:o.dst≠some d) (h:Step P false ops o (L.put (some d) v) L2) :
  ∃ L1,Step P false ops o L L1/\L2=L1.put (some d) v/\∀ t,o.dst≠some t->L1.slot t=L.slot t:=by
 have fy:=aqA (L:=L) (v:=v) hl
 have je:∀ (M:St) (r:LV) t,M.slot t=L.slot t->o.dst≠some t->(M.put o.dst r).slot t=L.slot t:=fun M r t hM aQ=>by
  cases hh:o.dst with
  | none=>exact hM
  | some e=>rw [fO,if_neg (fun q=>aQ (by rw [hh,q]))];exact hM
 cases h with
 | skip hg hL=>exact⟨L.put o.dst (.a7 []),.skip (qO hl hg) rfl,by rw [hL,qo L hd],fun t ht=>je L _ t rfl ht⟩
 | @val r fr H1 hg hle dt kY hL =>
  obtain⟨dst,op,ty,pos,after,gd⟩:=o
  have acv:∀ x∈op.operands,L.ev x=(L.put (some d) v).ev x:=fun x hx=>(fy x hx).symm
  have aau:kQ P H1 L.ev (dst.getD 0) op r fr:=by
   cases kY with
   | pure hp =>
    by_cases fv:lR op=true
    ·exact .pure (hp.abq fv acv)
    ·cases hp with
     | yT hf nO hb hn he hx hr h1 h2 =>
      refine .pure (.yT hf nO hb hn he ?_ hr h1 h2)
      rw [<-hx]
      exact List.map_congr_left fun x uj=>acv x (uW uj)
     | _=>first | (exfalso;exact fv rfl) | (exfalso;revert hk fv;simp [vy,lR])
   | alloc ha=>cases ha<;>(exfalso;revert hk;simp [vy,lR])
   | call hc =>
    cases hc with
    | func ha xg hlen mN =>
     refine .call (.func ?_ xg hlen mN)
     rw [show (_:Array Operand).toList.map L.ev=_ from List.map_congr_left fun x uj=>acv x (uW uj)]
     exact ha
    | cV=>exfalso;revert hk;simp [vy,lR]
    | mk=>exfalso;revert hk;simp [vy,lR]
  refine⟨⟨(L.put dst r).slot,H1⟩,.val (qO hl hg) hle dt aau rfl,?_,fun t ht=>je L r t rfl ht⟩
  rw [hL]
  have:=qo L hd v r
  exact congrArg (fun M=>St.mk (St.slot M) H1) this
 | st hg oy =>
  obtain⟨dst,op,ty,pos,after,gd⟩:=o
  cases oy with
  | store hp hb hs hm hi hy lj hT aQ =>
   rename_i T p x b sz i o' blk y y'
   have e1:=fy p bH
   have e2:=fy x bH
   rw [e1] at hp
   rw [e2] at lj hT aQ
   refine⟨_,.st (qO hl hg) (.store hp hb hs hm hi hy lj hT aQ),?_,fun t ht=>?_⟩
   ·exact qo (L.bF b _) hd v .any
   ·exact je (L.bF b _) .any t rfl ht
  | _=>exfalso;revert hk;simp [vy,lR]
 | stM fJ hg jA =>
  obtain⟨dst,op,ty,pos,after,gd⟩:=o
  cases jA with
  | call hb hm hp ha hn xg nu jx =>
   rename_i f xs ri args r b blk blk'
   have em:xs.toList.map (L.put (some d) v).ev=xs.toList.map L.ev:=List.map_congr_left fun x uj=>fy x (uW uj)
   rw [em] at ha hn
   refine⟨_,.stM fJ (qO hl hg) (.call hb hm hp ha hn xg nu jx),?_,fun t ht=>?_⟩
   ·exact qo (L.bF b _) hd v _
   ·exact je (L.bF b _) _ t rfl ht
  | aeC=>exfalso;revert hk;simp [vy,lR]
  | abO=>exfalso;revert hk;simp [vy,lR]
  | ovl hf nO hb hn he ht hE hx hy sf h1 h2 dq =>
   rw [fy _ (uW aO)] at hx
   rw [fy _ (uW aO)] at hy
   refine⟨_,.stM fJ (qO hl hg) (.ovl hf nO hb hn he ht hE hx hy sf h1 h2 dq),?_,fun t ht=>?_⟩
   ·exact qo L hd v _
   ·exact je L _ t rfl ht
def ap9 (ops:Array Oper) (i:Nat) (D:Array Bool):Bool :=
 D.size==ops.size && !D.getD i true && (iH (ops.getD i default)).all (fun j=>D.getD j false) && (ops.getD i default).guard.isNone && adE (ops.getD i default).op &&
 (List.range ops.size).all fun j=>j==i || D.getD j true || (vy (ops.getD j default).op && ((ops.getD j default).dst != (ops.getD i default).dst) &&
  (match (ops.getD i default).dst with | some d=>!((ops.getD j default).looksAt ops).contains d || (iH (ops.getD j default)).contains i | none=>false) &&
  (match (ops.getD j default).dst with | some e=>!((ops.getD i default).looksAt ops).contains e | none=>true))
theorem ab8 {m:Nat} {K:St->Prop} {L:St} {D:Array Bool} {d:Nat} {v:LV} (i:Nat) {o:Oper} (ho:ops[i]?=some o) (aaD:o.dst=some d) (eP:ap9 ops i D=true) (hv:aB P L.heap L.ev o.op v)
  (h:hY P ops m (D.setIfInBounds i true) (L.put (some d) v) K):hY P ops (m+1) D L K:=by
 have fN:∀ i o,ops[i]?=some o->ops.getD i default=o:=fun i o h=>by rw [Array.getD_eq_getD_getElem?,h];rfl
 have sv:i<ops.size:=(Array.getElem?_eq_some_iff.1 ho).1
 let C:Array Bool->Prop:=fun D=>D.size=ops.size/\D.getD i false=false/\(∀ j∈iH o,D.getD j false=true)/\∀ j oj,ops[j]?=some oj->j≠i->D.getD j false=false ->
  vy oj.op=true/\oj.dst≠some d/\(d∈oj.looksAt ops->i∈iH oj)/\∀ e,oj.dst=some e->e∉o.looksAt ops
 unfold ap9 at eP
 rw [fN i o ho,aaD] at eP
 simp only [Bool.and_eq_true,List.all_eq_true,List.mem_range,Bool.or_eq_true,beq_iff_eq,Bool.not_eq_true',Option.isNone_iff_eq_none,bne_iff_ne,ne_eq] at eP
 obtain⟨⟨⟨⟨⟨bB,pA⟩,tO⟩,vM⟩,aeu⟩,dR⟩:=eP
 have hC:C D:=by
  refine⟨bB,by rw [q8 J false true];exact pA,tO,fun j oj hj aQ ti=>?_⟩
  have hjl:j<ops.size:=(Array.getElem?_eq_some_iff.1 hj).1
  have:=dR j hjl
  rw [fN j oj hj] at this
  rcases this with(q | q) | q
  ·exact absurd q aQ
  ·rw [q8 J true false,ti] at q;cases q
  ·obtain⟨⟨⟨q1,q2⟩,q3⟩,q4⟩:=q
   refine⟨q1,q2,fun hm=>?_,fun e he hm=>?_⟩
   ·rcases q3 with q | q
    ·rw [List.contains_iff_mem.2 hm] at q;cases q
    ·exact List.contains_iff_mem.1 q
   ·rw [he] at q4
    simp only [Bool.not_eq_true'] at q4
    rw [List.contains_iff_mem.2 hm] at q4;cases q4
 have adJ:∀ L:St,aB P L.heap L.ev o.op v->Step P false ops o L (L.put (some d) v):=fun L hv=>by
  refine .val (fr:=[]) (H1:=L.heap) (r:=v) (by unfold dC;rw [vM]) (bK.le_refl _) (fun _ _ hh=>by cases hh) (.pure hv) ?_
  rw [aaD];rfl
 clear bB pA tO dR
 have main:∀ (n:Nat) (D:Array Bool) (L:St),C D->aB P L.heap L.ev o.op v->hY P ops n (D.setIfInBounds i true) (L.put (some d) v) K->hY P ops (n+1) D L K:=by
  intro n
  induction n with
  | zero =>
   intro D L ⟨c1,c2,c3,c4⟩ hv hh
   have qk:i∈Region.ready .any ops D:=(nE c1).2 ⟨o,ho,by rw [q8 J true false];exact c2,c3⟩
   refine⟨fun hr=>(by rw [hr] at qk;cases qk),fun j hj=>?_⟩
   by_cases jL:j=i
   ·subst jL
    exact⟨o,_,ho,adJ L hv,hh⟩
   ·exfalso
    obtain⟨oj,h1,h2,h3⟩:=(nE c1).1 hj
    have:j∈Region.ready .any ops (D.setIfInBounds i true):=(nE (by simpa using c1)).2 ⟨oj,h1,by
     rw [Array.getD_eq_getD_getElem?,Array.getElem?_setIfInBounds_ne (Ne.symm jL),<-Array.getD_eq_getD_getElem?];exact h2,fun k hk=>by
     by_cases nx:i=k
     ·subst nx
      rw [Array.getD_eq_getD_getElem?,Array.getElem?_setIfInBounds_self_of_lt J];rfl
     ·rw [Array.getD_eq_getD_getElem?,Array.getElem?_setIfInBounds_ne nx,<-Array.getD_eq_getD_getElem?];exact h3 k hk⟩
    rw [hh.1] at this;cases this
  | succ n ih =>
   intro D L ⟨c1,c2,c3,c4⟩ hv hh
   have qk:i∈Region.ready .any ops D:=(nE c1).2 ⟨o,ho,by rw [q8 J true false];exact c2,c3⟩
   refine⟨fun hr=>(by rw [hr] at qk;cases qk),fun j hj=>?_⟩
   by_cases jL:j=i
   ·subst jL
    exact⟨o,_,ho,adJ L hv,hh⟩
   ·obtain⟨oj,h1,h2,h3⟩:=(nE c1).1 hj
    have hjl:j<ops.size:=(Array.getElem?_eq_some_iff.1 h1).1
    have ti:D.getD j false=false:=by rw [q8 J false true];exact h2
    have ahG:j∈Region.ready .any ops (D.setIfInBounds i true):=(nE (by simpa using c1)).2 ⟨oj,h1,by
     rw [Array.getD_eq_getD_getElem?,Array.getElem?_setIfInBounds_ne (Ne.symm jL),<-Array.getD_eq_getD_getElem?];exact h2,fun k hk=>by
     by_cases nx:i=k
     ·subst nx
      rw [Array.getD_eq_getD_getElem?,Array.getElem?_setIfInBounds_self_of_lt J];rfl
     ·rw [Array.getD_eq_getD_getElem?,Array.getElem?_setIfInBounds_ne nx,<-Array.getD_eq_getD_getElem?];exact h3 k hk⟩
    obtain⟨oj',L2,g1,g2,g3⟩:=hh.2 j ahG
    rw [h1] at g1;cases g1
    obtain⟨k1,k2,k3,k4⟩:=c4 j oj h1 jL ti
    have kN:d∉oj.looksAt ops:=fun hm=>by
     have:=h3 i (k3 hm)
     rw [c2] at this;cases this
    obtain⟨L1,s1,s2,s3⟩:=aue k1 kN k2 g2
    refine⟨oj,L1,h1,s1,ih (D.setIfInBounds j true) L1 ⟨by simpa using c1,?_,fun k hk=>?_,fun k ok hk aQ ee=>?_⟩ ?_ ?_⟩
    ·rw [Array.getD_eq_getD_getElem?,Array.getElem?_setIfInBounds_ne jL,<-Array.getD_eq_getD_getElem?];exact c2
    ·by_cases sg:j=k
     ·subst sg
      rw [Array.getD_eq_getD_getElem?,Array.getElem?_setIfInBounds_self_of_lt J];rfl
     ·rw [Array.getD_eq_getD_getElem?,Array.getElem?_setIfInBounds_ne sg,<-Array.getD_eq_getD_getElem?];exact c3 k hk
    ·by_cases sg:j=k
     ·subst sg
      rw [Array.getD_eq_getD_getElem?,Array.getElem?_setIfInBounds_self_of_lt J] at ee
      cases ee
     ·rw [Array.getD_eq_getD_getElem?,Array.getElem?_setIfInBounds_ne sg,<-Array.getD_eq_getD_getElem?] at ee
      exact c4 k ok hk aQ ee
    ·refine(hv.abq (avb aeu) fun x hx=>?_).aAV aeu
     cases x with
     | tmp t =>
      have ht:t∈o.looksAt ops:=by
       unfold Oper.looksAt
       simp only [List.mem_append,List.mem_filterMap]
       exact .inl ⟨.tmp t,by simpa using hx,rfl⟩
      exact s3 t (fun q=>k4 t q ht)
     | const v=>rfl
     | func f=>rfl
     | global f=>rfl
    ·rw [<-s2]
     have:(D.setIfInBounds j true).setIfInBounds i true=(D.setIfInBounds i true).setIfInBounds j true:=by
      refine Array.ext_getElem? fun k=>?_
      by_cases q1:i=k
      ·subst q1
       rw [Array.getElem?_setIfInBounds_self_of_lt bm,Array.getElem?_setIfInBounds_ne jL,Array.getElem?_setIfInBounds_self_of_lt J]
      ·by_cases q2:j=k
       ·subst q2
        rw [Array.getElem?_setIfInBounds_ne q1,Array.getElem?_setIfInBounds_self_of_lt J,Array.getElem?_setIfInBounds_self_of_lt bm]
       ·rw [Array.getElem?_setIfInBounds_ne q1,Array.getElem?_setIfInBounds_ne q2,Array.getElem?_setIfInBounds_ne q2,Array.getElem?_setIfInBounds_ne q1]
     rw [this];exact g3
 exact main m D L hC hv h
end
theorem aw.bR {L:St} {t:Nat} {x y:LV} (bs:List Nat) (h0:bs.contains 0=false) (h:L.slot t=x) (hi:cG (L.bR bs).heap x y):aw L ((L.bR bs).put (some t) y):=by
 rintro n W X Z0 a w ⟨dL,bB,μ,Z,hc,hr⟩
 obtain⟨Z',uD,hz⟩:=hc.tC (pG bs h0)
 refine⟨dL,bB,μ,Z',by rw [jT];exact uD,fun s=>?_⟩
 have hm:=a9.mono hz (fun _ _ h=>h) (Frame.refl Z μ w) (hr s)
 rw [fO]
 split
 ·rename_i cQ
  subst cQ
  rw [h] at hm
  exact a9.pE (LV.dY hi.lay.2.2) (cG.z6 (bc:=μ) uD hi hm)
 ·exact hm
theorem aw.hand {L:St} {t:Nat} {α:Type} {e:α->LV} {ag:Bool} {b sz len:Nat} {l:List α} {m:Bool} (he:gL e sz ag) (h:L.slot t=.ref b sz 0 len) (hb:L.heap b=some ⟨sz,l.map e,m⟩) (hl:len=l.length) (h0:b≠0:=by decide) :
  aw L ((L.put (some t) (.list sz (l.map e))).kill b):=by
 have h0':([b]:List Nat).contains 0=false:=by simp;omega
 have e1:=(aw.bR [b] h0' h (eN (bs:=[b]) he hb aO hl)).trans (aw.kill _ b h0)
 have e2:((L.bR [b]).put (some t) (.list sz (l.map e))).kill b=(L.put (some t) (.list sz (l.map e))).kill b:=by
  unfold St.kill
  congr 1
  funext c
  rw [jT,jT]
  by_cases lS:c=b
  ·simp [lS]
  ·simp only [St.bR,if_neg lS]
   cases L.heap c with
   | none=>rfl
   | some blk=>simp [lS]
 rw [<-e2]
 exact e1
theorem aw.bW {L:St} {t b sz:Nat} {y:LV} {m:Bool} (h:L.slot t=.az b sz 0 0) (hb:L.heap b=some ⟨sz,[y],m⟩) (hs:y.au=sz) (ha:y.isAgg=true) (hp:y.pure=true) (h0:b≠0:=by decide):aw L ((L.put (some t) (.bW y)).kill b):=by
 have h0':([b]:List Nat).contains 0=false:=by simp;omega
 have e1:=(aw.bR [b] h0' h (.az (blk:=⟨sz,[y],m && !([b]:List Nat).contains b⟩) (x:=y) (n:=sz) (ag:=true) (by simp only [St.bR,hb,Option.map_some]) rfl rfl hs (dG hs ha) hp aO)).trans (aw.kill _ b h0)
 have e2:((L.bR [b]).put (some t) (.bW y)).kill b=(L.put (some t) (.bW y)).kill b:=by
  unfold St.kill
  congr 1
  funext c
  rw [jT,jT]
  by_cases lS:c=b
  ·simp [lS]
  ·simp only [St.bR,if_neg lS]
   cases L.heap c with
   | none=>rfl
   | some blk=>simp [lS]
 rw [<-e2]
 exact e1
theorem ahF {P:Program} {L L0:St} {Q:iM->St->Prop} {ops:Array Oper} {id:Nat} (hw:aw L L0) (h:hY P ops ops.size (Array.replicate ops.size false) L0 (Q .normal)):cy P (.region id ops true) Q L:=⟨L0,hw,.inr (.inl ⟨rfl,h⟩)⟩
def acP:List (Nat × a8)->List (Nat × a8)->Prop
 | [],_=>True
 | (b,x) :: t,l=>hp l b=some x/\acP t l
theorem ai8 {l':List (Nat × a8)}:∀ {l:List (Nat × a8)},acP l l'->∀ c x,hp l c=some x->hp l' c=some x
 | [],_,c,x,h=>by cases h
 | (b,y) :: t,h,c,x,hc=>by
  simp only [hp] at hc
  by_cases hb:c=b
  ·subst hb
   simp only [Nat.beq_refl,cond_true,Option.some.injEq] at hc
   subst hc
   exact h.1
  ·have:Nat.beq c b=false:=by rw [<-Bool.not_eq_true,Nat.beq_eq];exact hb
   rw [this] at hc
   exact ai8 h.2 c x hc
theorem iB {l l':List (Nat × a8)} (h:acP l l') (h':acP l' l):hp l=hp l':=by
 funext c
 cases hc:hp l c with
 | some x=>exact(ai8 h c x hc).symm
 | none =>
  cases uD:hp l' c with
  | none=>rfl
  | some x=>rw [ai8 h' c x uD] at hc;cases hc
def adG:Op->Bool
 | .store ..=>true
 | .build ..=>true
 | .box ..=>true
 | .alloc ..=>true
 | .buildSlice ..=>true
 | .makeSlice ..=>true
 | .call ⟨.value (.func _),_,_⟩=>true
 | .call ⟨.builtin .append,_,_⟩=>true
 | op=>lR op
section
variable {P:Program} {H:bK} {ρ oI:Operand->LV}
theorem agF {ps:Array (Nat × Operand)} (hr:∀ p∈ps.toList,oI p.2=ρ p.2):(ps.toList.map fun p=>(p.1,ρ p.2))=ps.toList.map fun p=>(p.1,oI p.2) :=
 List.map_congr_left fun p hp=>by rw [hr p hp]
theorem c9.abq {d:Nat} {op:Op} {r:LV} {blk:a8} (h:c9 P ρ d op r blk) (hr:∀ x∈op.operands,oI x=ρ x):c9 P oI d op r blk:=by
 cases h with
 | make hT hz hE dz hb hl hc jc hm dZ=>exact .make hT hz hE dz hb ((hr _ bH).trans hl) ((hr _ bH).trans hc) jc hm dZ
 | @lit T E n ps z sz hT hz hE dz hn h0 dq hp =>
  have hq:∀ p∈ps.toList,oI p.2=ρ p.2:=fun p hp=>hr _ (by simp only [Op.operands,List.mem_toArray];exact List.mem_map.2 ⟨p,hp,rfl⟩)
  rw [agF hq]
  exact .lit hT hz hE dz hn h0 dq fun p jx=>by rw [hq p jx];exact hp p jx
 | agc hT hE=>exact .agc hT hE
 | @box T x aQ =>
  have e:=hr x bH
  rw [<-e]
  rw [<-e] at aQ
  exact .box aQ
 | alloc hz=>exact .alloc hz
theorem aB.axR {T:TypeId} {ps:Array (Nat × Operand)} {r:LV} (h:aB P H ρ (.build T ps) r) (hr:∀ x∈(Op.build T ps).operands,oI x=ρ x):aB P H oI (.build T ps) r:=by
 have hq:∀ p∈ps.toList,oI p.2=ρ p.2:=fun p hp=>hr _ (by simp only [Op.operands,List.mem_toArray];exact List.mem_map.2 ⟨p,hp,rfl⟩)
 cases h with
 | x7 hT hE hf hz hp =>
  rw [agF hq]
  exact .x7 hT hE hf hz fun p jx=>by rw [hq p jx];exact hp p jx
 | build hT hz hp =>
  rw [agF hq]
  exact .build hT hz fun p jx=>by rw [hq p jx];exact hp p jx
end
theorem aCB (L:St) {d:Nat} {v:LV} (hv:∀ b,v.kill b=v) (b:Nat):(L.put (some d) v).kill b=(L.kill b).put (some d) v:=by
 have h1:∀ t,((L.put (some d) v).kill b).slot t=((L.kill b).put (some d) v).slot t:=fun t=>by
  rw [fO]
  show (((L.put (some d) v).slot t).kill b)=_
  rw [fO]
  split
  ·exact hv b
  ·rfl
 exact congrArg (fun f=>St.mk f (L.kill b).heap) (funext h1)
section
variable {P:Program} {ops:Array Oper}
def aiU (L:St):List Operand->Prop
 | []=>True
 | x :: xs=>(∀ b,(L.ev x).kill b=L.ev x)/\aiU L xs
theorem aoL {L:St}:∀ {l:List Operand},aiU L l->∀ x∈l,∀ b,(L.ev x).kill b=L.ev x
 | _ :: _,h,_,.head _=>h.1
 | _ :: _,h,_,.tail _ hx=>aoL h.2 _ hx
theorem gg {p:Prop} (h:p:=by first | exact And.intro (fun _=>rfl) trivial | exact And.intro (fun _=>rfl) (And.intro (fun _=>rfl) trivial) | exact And.intro (fun b=>LV.ki b _ pu) trivial):p:=h
theorem jy {p:Prop} (h:p:=by first | exact(fun _=>rfl) | exact(fun b=>LV.ki b _ pu) | exact(fun b=>LV.ki b _ (by assumption))):p:=h
end
section
variable {P:Program} {ops:Array Oper}
inductive aEh (P:Program) (ops:Array Oper) (o:Oper) (L L':St):Prop
 | base (h:Step P false ops o L L')
 | hand {M:St} {t b sz len:Nat} {vals:List LV} {m:Bool} (h:Step P false ops o L M) (ht:M.slot t=.ref b sz 0 len) (hb:M.heap b=some ⟨sz,vals,m⟩) (hp:aG vals=true) (hl:len=vals.length) (h0:b≠0)
   (e:L'=(M.put (some t) (.list sz vals)).kill b)
section
variable {D:Array Bool} {L:St} {K:St->Prop} {fuel:Nat}
end
section
variable {W w:World} {X:XS} {Z0:Nat->Prop} {a:Act} {n:Nat}
end
end
def wU:Op->Bool
 | .extract ..=>true
 | .assign _=>true
 | op=>adG op
section
variable {P:Program} {H:bK} {ρ oI:Operand->LV}
theorem kQ.am9 {d:Nat} {op:Op} {r:LV} {fr:List (Nat × a8)} (kY:kQ P H ρ d op r fr) (hk:wU op=true) (hr:∀ x∈op.operands,oI x=ρ x):kQ P H oI d op r fr:=by
 cases kY with
 | pure hp =>
  by_cases fv:lR op=true
  ·exact .pure (hp.abq fv hr)
  ·by_cases hbq:∃ T ps,op=.build T ps
   ·obtain⟨T,ps,rfl⟩:=hbq
    exact .pure (hp.axR hr)
   ·cases hp with
    | yT hf nO hb hn he hx h1' h1 h2 =>
     refine .pure (.yT hf nO hb hn he ?_ h1' h1 h2)
     rw [<-hx]
     exact List.map_congr_left fun x uj=>hr x (uW uj)
    | assign x=>rw [<-hr x bH];exact .pure (.assign x)
    | extract ht hq aQ=>exact .pure (.extract ((hr _ bH).trans ht) hq aQ)
    | build=>exact absurd ⟨_,_,rfl⟩ hbq
    | x7=>exact absurd ⟨_,_,rfl⟩ hbq
    | _=>first | (exfalso;exact fv rfl) | (exfalso;revert hk fv;simp [wU,adG,lR])
 | alloc ha=>exact .alloc (ha.abq hr)
 | call hc =>
  cases hc with
  | func ha xg hlen mN =>
   refine .call (.func ?_ xg hlen mN)
   rw [show (_:Array Operand).toList.map oI=_ from List.map_congr_left fun x uj=>hr x (uW uj)]
   exact ha
  | cV=>exfalso;revert hk;simp [wU,adG,lR]
  | mk=>exfalso;revert hk;simp [wU,adG,lR]
end
section
variable {P:Program} {ops:Array Oper}
theorem axT {L L2:St} {d:Nat} {v:LV} {o:Oper} (hv:∀ b,v.kill b=v) (hk:wU o.op=true) (hl:d∉o.looksAt ops) (hd:o.dst≠some d) (h:Step P false ops o (L.put (some d) v) L2) :
  ∃ L1,Step P false ops o L L1/\L2=L1.put (some d) v/\∀ t,o.dst≠some t->(∀ b,(L.slot t).kill b=L.slot t)->L1.slot t=L.slot t:=by
 have fy:=aqA (L:=L) (v:=v) hl
 have je:∀ (M:St) (r:LV) t,M.slot t=L.slot t->o.dst≠some t->(M.put o.dst r).slot t=L.slot t:=fun M r t hM aQ=>by
  cases hh:o.dst with
  | none=>exact hM
  | some e=>rw [fO,if_neg (fun q=>aQ (by rw [hh,q]))];exact hM
 cases h with
 | skip hg hL=>exact⟨L.put o.dst (.a7 []),.skip (qO hl hg) rfl,by rw [hL,qo L hd],fun t ht _=>je L _ t rfl ht⟩
 | @val r fr H1 hg hle dt kY hL =>
  obtain⟨dst,op,ty,pos,after,gd⟩:=o
  have acv:∀ x∈op.operands,L.ev x=(L.put (some d) v).ev x:=fun x hx=>(fy x hx).symm
  have aau:kQ P H1 L.ev (dst.getD 0) op r fr:=kY.am9 hk acv
  refine⟨⟨(L.put dst r).slot,H1⟩,.val (qO hl hg) hle dt aau rfl,?_,fun t ht _=>je L r t rfl ht⟩
  rw [hL]
  have:=qo L hd v r
  exact congrArg (fun M=>St.mk (St.slot M) H1) this
 | st hg oy =>
  obtain⟨dst,op,ty,pos,after,gd⟩:=o
  cases oy with
  | store hp hb hs hm hi hy lj hT aQ =>
   rename_i T p x b sz i o' blk y y'
   have e1:=fy p bH
   have e2:=fy x bH
   rw [e1] at hp
   rw [e2] at lj hT aQ
   refine⟨_,.st (qO hl hg) (.store hp hb hs hm hi hy lj hT aQ),?_,fun t ht _=>?_⟩
   ·exact qo (L.bF b _) hd v .any
   ·exact je (L.bF b _) .any t rfl ht
  | fX hx hb hs hm hlen fc fo hT hU hz hE dz jE hy bB fx dq =>
   rename_i T U E E' d' b sz len blk x y news z du
   have e1:=fy x jC
   have e2:=fy y jC
   rw [e1] at hx
   rw [e2] at hy
   refine⟨_,.st (qO hl hg) (.fX hx hb hs hm hlen fc fo hT hU hz hE dz jE hy bB fx dq),?_,fun t ht hf=>?_⟩
   ·rw [aCB L hv]
    exact qo ((L.kill b).bF d' _) hd v _
   ·exact je ((L.kill b).bF d' _) _ t (hf b) ht
  | adb hx fc hT hU hz hE dz jE hy hn bB fx dq =>
   rename_i T U E E' d' sz x y news z du
   have e1:=fy x jC
   have e2:=fy y jC
   rw [e1] at hx
   rw [e2] at hy
   refine⟨_,.st (qO hl hg) (.adb hx fc hT hU hz hE dz jE hy hn bB fx dq),?_,fun t ht hf=>?_⟩
   ·exact qo (L.bF d' _) hd v _
   ·exact je (L.bF d' _) _ t rfl ht
  | _=>exfalso;revert hk;simp [wU,adG,lR]
 | stM fJ hg jA =>
  obtain⟨dst,op,ty,pos,after,gd⟩:=o
  cases jA with
  | call hb hm hp ha hn xg nu jx =>
   rename_i f xs ri args r b blk blk'
   have em:xs.toList.map (L.put (some d) v).ev=xs.toList.map L.ev:=List.map_congr_left fun x uj=>fy x (uW uj)
   rw [em] at ha hn
   refine⟨_,.stM fJ (qO hl hg) (.call hb hm hp ha hn xg nu jx),?_,fun t ht _=>?_⟩
   ·exact qo (L.bF b _) hd v _
   ·exact je (L.bF b _) _ t rfl ht
  | abO hT hU hz hE dz hb hx jQ mJ hlen hy fc hgr dq hm fx =>
   rename_i T U E x y z k kl sz du len cp n d' b blk
   rw [fy x jC] at hx
   rw [fy y jC] at hy
   refine⟨_,.stM fJ (qO hl hg) (.abO hT hU hz hE dz hb hx jQ mJ hlen hy fc hgr dq hm fx),?_,fun t ht _=>?_⟩
   ·exact qo (L.bF d' _) hd v _
   ·exact je (L.bF d' _) _ t rfl ht
  | ovl hf nO hb hn he ht hE hx hy sf h1 h2 dq =>
   rw [fy _ (uW aO)] at hx
   rw [fy _ (uW aO)] at hy
   refine⟨_,.stM fJ (qO hl hg) (.ovl hf nO hb hn he ht hE hx hy sf h1 h2 dq),?_,fun t ht _=>?_⟩
   ·exact qo L hd v _
   ·exact je L _ t rfl ht
  | aeC hT hU hz hE dz hb hx hy fc h0 dq hm fx =>
   rename_i T U E x y z k kl sz du n d'
   have e1:=fy x jC
   have e2:=fy y jC
   rw [e1] at hx
   rw [e2] at hy
   refine⟨_,.stM fJ (qO hl hg) (.aeC hT hU hz hE dz hb hx hy fc h0 dq hm fx),?_,fun t ht _=>?_⟩
   ·exact qo (L.bF d' _) hd v _
   ·exact je (L.bF d' _) _ t rfl ht
def akB (ops:Array Oper) (i:Nat) (D:Array Bool):Bool :=
 D.size==ops.size && !D.getD i true && (iH (ops.getD i default)).all (fun j=>D.getD j false) && (ops.getD i default).guard.isNone && wU (ops.getD i default).op &&
 (List.range ops.size).all fun j=>j==i || D.getD j true || (wU (ops.getD j default).op && ((ops.getD j default).dst != (ops.getD i default).dst) &&
  (match (ops.getD i default).dst with | some d=>!((ops.getD j default).looksAt ops).contains d || (iH (ops.getD j default)).contains i | none=>false) &&
  (match (ops.getD j default).dst with | some e=>!((ops.getD i default).looksAt ops).contains e | none=>true))
theorem gu {m:Nat} {K:St->Prop} {L:St} {D:Array Bool} {d:Nat} {v:LV} (i:Nat) {o:Oper} (ho:ops[i]?=some o) (aaD:o.dst=some d) (eP:akB ops i D=true) (hv:kQ P (fun _=>none) L.ev d o.op v [])
  (hfv:∀ b,v.kill b=v) (hfo:aiU L o.op.operands.toList)
  (h:hY P ops m (D.setIfInBounds i true) (L.put (some d) v) K):hY P ops (m+1) D L K:=by
 have fN:∀ i o,ops[i]?=some o->ops.getD i default=o:=fun i o h=>by rw [Array.getD_eq_getD_getElem?,h];rfl
 have sv:i<ops.size:=(Array.getElem?_eq_some_iff.1 ho).1
 let C:Array Bool->Prop:=fun D=>D.size=ops.size/\D.getD i false=false/\(∀ j∈iH o,D.getD j false=true)/\∀ j oj,ops[j]?=some oj->j≠i->D.getD j false=false ->
  wU oj.op=true/\oj.dst≠some d/\(d∈oj.looksAt ops->i∈iH oj)/\∀ e,oj.dst=some e->e∉o.looksAt ops
 unfold akB at eP
 rw [fN i o ho,aaD] at eP
 simp only [Bool.and_eq_true,List.all_eq_true,List.mem_range,Bool.or_eq_true,beq_iff_eq,Bool.not_eq_true',Option.isNone_iff_eq_none,bne_iff_ne,ne_eq] at eP
 obtain⟨⟨⟨⟨⟨bB,pA⟩,tO⟩,vM⟩,aeu⟩,dR⟩:=eP
 have hC:C D:=by
  refine⟨bB,by rw [q8 J false true];exact pA,tO,fun j oj hj aQ ti=>?_⟩
  have hjl:j<ops.size:=(Array.getElem?_eq_some_iff.1 hj).1
  have:=dR j hjl
  rw [fN j oj hj] at this
  rcases this with(q | q) | q
  ·exact absurd q aQ
  ·rw [q8 J true false,ti] at q;cases q
  ·obtain⟨⟨⟨q1,q2⟩,q3⟩,q4⟩:=q
   refine⟨q1,q2,fun hm=>?_,fun e he hm=>?_⟩
   ·rcases q3 with q | q
    ·rw [List.contains_iff_mem.2 hm] at q;cases q
    ·exact List.contains_iff_mem.1 q
   ·rw [he] at q4
    simp only [Bool.not_eq_true'] at q4
    rw [List.contains_iff_mem.2 hm] at q4;cases q4
 have adJ:∀ L:St,kQ P (fun _=>none) L.ev d o.op v []->Step P false ops o L (L.put (some d) v):=fun L hv=>by
  refine .val (fr:=[]) (H1:=L.heap) (r:=v) (by unfold dC;rw [vM]) (bK.le_refl _) (fun _ _ hh=>by cases hh) (by rw [aaD];exact hv.le fun b blk h=>by cases h) ?_
  rw [aaD];rfl
 clear bB pA tO dR
 have aBU:∀ x∈o.op.operands,∀ b,(L.ev x).kill b=L.ev x:=fun x hx=>aoL hfo x (Array.mem_toList_iff.2 hx)
 clear hfo
 have main:∀ (n:Nat) (D:Array Bool) (L:St),C D->kQ P (fun _=>none) L.ev d o.op v []->(∀ x∈o.op.operands,∀ b,(L.ev x).kill b=L.ev x)->hY P ops n (D.setIfInBounds i true) (L.put (some d) v) K->hY P ops (n+1) D L K:=by
  intro n
  induction n with
  | zero =>
   intro D L ⟨c1,c2,c3,c4⟩ hv _ hh
   have qk:i∈Region.ready .any ops D:=(nE c1).2 ⟨o,ho,by rw [q8 J true false];exact c2,c3⟩
   refine⟨fun hr=>(by rw [hr] at qk;cases qk),fun j hj=>?_⟩
   by_cases jL:j=i
   ·subst jL
    exact⟨o,_,ho,adJ L hv,hh⟩
   ·exfalso
    obtain⟨oj,h1,h2,h3⟩:=(nE c1).1 hj
    have:j∈Region.ready .any ops (D.setIfInBounds i true):=(nE (by simpa using c1)).2 ⟨oj,h1,by
     rw [Array.getD_eq_getD_getElem?,Array.getElem?_setIfInBounds_ne (Ne.symm jL),<-Array.getD_eq_getD_getElem?];exact h2,fun k hk=>by
     by_cases nx:i=k
     ·subst nx
      rw [Array.getD_eq_getD_getElem?,Array.getElem?_setIfInBounds_self_of_lt J];rfl
     ·rw [Array.getD_eq_getD_getElem?,Array.getElem?_setIfInBounds_ne nx,<-Array.getD_eq_getD_getElem?];exact h3 k hk⟩
    rw [hh.1] at this;cases this
  | succ n ih =>
   intro D L ⟨c1,c2,c3,c4⟩ hv hfo hh
   have qk:i∈Region.ready .any ops D:=(nE c1).2 ⟨o,ho,by rw [q8 J true false];exact c2,c3⟩
   refine⟨fun hr=>(by rw [hr] at qk;cases qk),fun j hj=>?_⟩
   by_cases jL:j=i
   ·subst jL
    exact⟨o,_,ho,adJ L hv,hh⟩
   ·obtain⟨oj,h1,h2,h3⟩:=(nE c1).1 hj
    have hjl:j<ops.size:=(Array.getElem?_eq_some_iff.1 h1).1
    have ti:D.getD j false=false:=by rw [q8 J false true];exact h2
    have ahG:j∈Region.ready .any ops (D.setIfInBounds i true):=(nE (by simpa using c1)).2 ⟨oj,h1,by
     rw [Array.getD_eq_getD_getElem?,Array.getElem?_setIfInBounds_ne (Ne.symm jL),<-Array.getD_eq_getD_getElem?];exact h2,fun k hk=>by
     by_cases nx:i=k
     ·subst nx
      rw [Array.getD_eq_getD_getElem?,Array.getElem?_setIfInBounds_self_of_lt J];rfl
     ·rw [Array.getD_eq_getD_getElem?,Array.getElem?_setIfInBounds_ne nx,<-Array.getD_eq_getD_getElem?];exact h3 k hk⟩
    obtain⟨oj',L2,g1,g2,g3⟩:=hh.2 j ahG
    rw [h1] at g1;cases g1
    obtain⟨k1,k2,k3,k4⟩:=c4 j oj h1 jL ti
    have kN:d∉oj.looksAt ops:=fun hm=>by
     have:=h3 i (k3 hm)
     rw [c2] at this;cases this
    obtain⟨L1,s1,s2,s3⟩:=axT hfv k1 kN k2 g2
    have zV:∀ x∈o.op.operands,L1.ev x=L.ev x:=fun x hx=>by
     cases x with
     | tmp t =>
      have ht:t∈o.looksAt ops:=by
       unfold Oper.looksAt
       simp only [List.mem_append,List.mem_filterMap]
       exact .inl ⟨.tmp t,by simpa using hx,rfl⟩
      exact s3 t (fun q=>k4 t q ht) (hfo _ hx)
     | const v=>rfl
     | func f=>rfl
     | global f=>rfl
    refine⟨oj,L1,h1,s1,ih (D.setIfInBounds j true) L1 ⟨by simpa using c1,?_,fun k hk=>?_,fun k ok hk aQ ee=>?_⟩ (hv.am9 aeu zV) (fun x hx b=>by rw [zV x hx];exact hfo x hx b) ?_⟩
    ·rw [Array.getD_eq_getD_getElem?,Array.getElem?_setIfInBounds_ne jL,<-Array.getD_eq_getD_getElem?];exact c2
    ·by_cases sg:j=k
     ·subst sg
      rw [Array.getD_eq_getD_getElem?,Array.getElem?_setIfInBounds_self_of_lt J];rfl
     ·rw [Array.getD_eq_getD_getElem?,Array.getElem?_setIfInBounds_ne sg,<-Array.getD_eq_getD_getElem?];exact c3 k hk
    ·by_cases sg:j=k
     ·subst sg
      rw [Array.getD_eq_getD_getElem?,Array.getElem?_setIfInBounds_self_of_lt J] at ee
      cases ee
     ·rw [Array.getD_eq_getD_getElem?,Array.getElem?_setIfInBounds_ne sg,<-Array.getD_eq_getD_getElem?] at ee
      exact c4 k ok hk aQ ee
    ·rw [<-s2]
     have:(D.setIfInBounds j true).setIfInBounds i true=(D.setIfInBounds i true).setIfInBounds j true:=by
      refine Array.ext_getElem? fun k=>?_
      by_cases q1:i=k
      ·subst q1
       rw [Array.getElem?_setIfInBounds_self_of_lt bm,Array.getElem?_setIfInBounds_ne jL,Array.getElem?_setIfInBounds_self_of_lt J]
      ·by_cases q2:j=k
       ·subst q2
        rw [Array.getElem?_setIfInBounds_ne q1,Array.getElem?_setIfInBounds_self_of_lt J,Array.getElem?_setIfInBounds_self_of_lt bm]
       ·rw [Array.getElem?_setIfInBounds_ne q1,Array.getElem?_setIfInBounds_ne q2,Array.getElem?_setIfInBounds_ne q2,Array.getElem?_setIfInBounds_ne q1]
     rw [this];exact g3
 exact main m D L hC hv aBU h
end
end Go.Lg
end
